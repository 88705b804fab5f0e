/- GR: a part of the proofs over this seat: what stands in its theorems holds for every input that they name. -/
import Derived.Test.YtemnchkebhclpaaGT
import Derived.Test.YtemnchkebhclpaaRows
import Derived.WalkKit
import Derived.ProofKit
import Derived.OpenShut
import Derived.JoinedCond
import Derived.Test.YtemnchkebhclpaaGW
import Derived.ShutString
import Derived.ChangeOld
import Derived.Below
import Derived.Test.YtemnchkebhclpaaGX
import Derived.Deep.Slices
section
namespace Go.Proofs.Ytemnchkebhclpaa
open Go.ChangeShapes Go.WideShapes Go.ChangeAt Go.RowKit
theorem words_sp (r : List Char) : wordsSigns (' ' :: r) = [] :: wordsSigns r := by rw [wordsSigns]
theorem words_ne (r : List Char) : ∃ w ws, wordsSigns r = w :: ws := by
  unfold wordsSigns
  split
  · exact ⟨_, _, rfl⟩
  · exact ⟨_, _, rfl⟩
  · split
    · exact ⟨_, _, rfl⟩
    · exact ⟨_, _, rfl⟩
theorem words_ch (c : Char) (hc : c ≠ ' ') (l w : List Char) (ws : List (List Char)) (h : wordsSigns l = w :: ws) : wordsSigns (c :: l) = (c :: w) :: ws := by
  rw [wordsSigns, h]
  exact hc
theorem words_cons : ∀ (a r : List Char), (∀ c ∈ a, c ≠ ' ') → wordsSigns (a ++ ' ' :: r) = a :: wordsSigns r
  | [], r, _ => words_sp r
  | c :: a, r, h => words_ch c (h c (List.mem_cons_self ..)) _ _ _ (words_cons a r fun x hx => h x (List.mem_cons_of_mem _ hx))
def headRest : List Char := ['a', 't', ' ', 't', 'a', 'i', 'l', 'r', 'a', 'c', 'e', '/', 't', 'a', 'i', 'l', 'r', 'a', 'c', 'e', 'k', 'e', 'e', 'p', '.', 'T', 'w', 'i', 'c', 'e', 'S', 'a', 'm', 'e', ' ', 't', 'a', 'i', 'l', 'r', 'a', 'c', 'e', '/', 't', 'a', 'i', 'l', 'r', 'a', 'c', 'e', 'k', 'e', 'e', 'p', '.', 'S', 't', 'a', 'b', 'l', 'e', 'A', 'h', 'e', 'a', 'd', ' ', 't', 'a', 'i', 'l', 'r', 'a', 'c', 'e', '/', 't', 'a', 'i', 'l', 'r', 'a', 'c', 'e', 'k', 'e', 'e', 'p', '.', 'E', 'n', 't', 'r', 'y', 'F', 'i', 'x', 'e', 'd', ' ', 't', 'a', 'i', 'l', 'r', 'a', 'c', 'e', '/', 't', 'a', 'i', 'l', 'r', 'a', 'c', 'e', 'k', 'e', 'e', 'p', '.', 'C', 'o', 'o', 'r', 'd', 'P', 'i', 'd', 's', ' ', 't', 'a', 'i', 'l', 'r', 'a', 'c', 'e', '/', 't', 'a', 'i', 'l', 'r', 'a', 'c', 'e', 'k', 'e', 'e', 'p', '.', 'O', 'n', 'c', 'e', 'E', 'a', 'c', 'h', ' ', 't', 'a', 'i', 'l', 'r', 'a', 'c', 'e', '/', 't', 'a', 'i', 'l', 'r', 'a', 'c', 'e', 'k', 'e', 'e', 'p', '.', 'E', 'n', 't', 'r', 'y', 'S', 'p', 'o', 'i', 'l', 't', ' ', 't', 'a', 'i', 'l', 'r', 'a', 'c', 'e', '/', 't', 'a', 'i', 'l', 'r', 'a', 'c', 'e', 'k', 'e', 'e', 'p', '.', 'E', 'n', 't', 'r', 'y', 'B', 'a', 'c', 'k', ' ', 't', 'a', 'i', 'l', 'r', 'a', 'c', 'e', '/', 't', 'a', 'i', 'l', 'r', 'a', 'c', 'e', 'k', 'e', 'e', 'p', '.', 'R', 'e', 'a', 'd', 'P', 'a', 'g', 'e', 's', ' ', 't', 'a', 'i', 'l', 'r', 'a', 'c', 'e', '/', 't', 'a', 'i', 'l', 'r', 'a', 'c', 'e', 'k', 'e', 'e', 'p', '.', 'R', 'e', 'a', 'd', 'D', 'o', 'n', 'e', ' ', 't', 'a', 'i', 'l', 'r', 'a', 'c', 'e', '/', 't', 'a', 'i', 'l', 'r', 'a', 'c', 'e', 'k', 'e', 'e', 'p', '.', 'E', 'n', 't', 'r', 'y', 'B', 'a', 'd', ' ', 't', 'a', 'i', 'l', 'r', 'a', 'c', 'e', '/', 't', 'a', 'i', 'l', 'r', 'a', 'c', 'e', 'k', 'e', 'e', 'p', '.', 'E', 'n', 't', 'r', 'y', 'T', 'o', 'r', 'n', ' ', 't', 'a', 'i', 'l', 'r', 'a', 'c', 'e', '/', 't', 'a', 'i', 'l', 'r', 'a', 'c', 'e', 'k', 'e', 'e', 'p', '.', 'L', 'o', 'g', 'G', 'r', 'o', 'w', 's', ' ', 't', 'a', 'i', 'l', 'r', 'a', 'c', 'e', '/', 't', 'a', 'i', 'l', 'r', 'a', 'c', 'e', 'k', 'e', 'e', 'p', '.', 'L', 'o', 'g', 'C', 'r', 'a', 's', 'h', 'e', 's', ' ', 't', 'a', 'i', 'l', 'r', 'a', 'c', 'e', '/', 't', 'a', 'i', 'l', 'r', 'a', 'c', 'e', 'k', 'e', 'e', 'p', '.', 'L', 'o', 'g', 'C', 'u', 't', 's', ' ', 't', 'a', 'i', 'l', 'r', 'a', 'c', 'e', '/', 't', 'a', 'i', 'l', 'r', 'a', 'c', 'e', 'k', 'e', 'e', 'p', '.', 'G', 'r', 'o', 'u', 'p', 'O', 'r', 'd', 'e', 'r', ' ', 't', 'a', 'i', 'l', 'r', 'a', 'c', 'e', '/', 't', 'a', 'i', 'l', 'r', 'a', 'c', 'e', 'k', 'e', 'e', 'p', '.', 'C', 'o', 'o', 'r', 'd', 'W', 'a', 'i', 't', 's', ' ', 't', 'a', 'i', 'l', 'r', 'a', 'c', 'e', '/', 't', 'a', 'i', 'l', 'r', 'a', 'c', 'e', 'k', 'e', 'e', 'p', '.', 'G', 'r', 'o', 'u', 'p', 'S', 'i', 'l', 'e', 'n', 't', ' ', 't', 'a', 'i', 'l', 'r', 'a', 'c', 'e', '/', 't', 'a', 'i', 'l', 'r', 'a', 'c', 'e', 'k', 'e', 'e', 'p', '.', 'C', 'o', 'o', 'r', 'd', 'G', 'o', 'o', 'd', ' ', 't', 'a', 'i', 'l', 'r', 'a', 'c', 'e', '/', 't', 'a', 'i', 'l', 'r', 'a', 'c', 'e', 'k', 'e', 'e', 'p', '.', 'C', 'o', 'o', 'r', 'd', 'F', 'e', 'n', 'c', 'e', 's', ' ', 't', 'a', 'i', 'l', 'r', 'a', 'c', 'e', '/', 't', 'a', 'i', 'l', 'r', 'a', 'c', 'e', 'k', 'e', 'e', 'p', '.', 'P', 'a', 'r', 't', 'F', 'e', 'w', ' ', 't', 'a', 'i', 'l', 'r', 'a', 'c', 'e', '/', 't', 'a', 'i', 'l', 'r', 'a', 'c', 'e', 'k', 'e', 'e', 'p', '.', 'P', 'a', 'r', 't', 'C', 'a', 't', 'c', 'h', 'e', 's', ' ', 't', 'a', 'i', 'l', 'r', 'a', 'c', 'e', '/', 't', 'a', 'i', 'l', 'r', 'a', 'c', 'e', 'k', 'e', 'e', 'p', '.', 'G', 'r', 'o', 'u', 'p', 'G', 'o', 'o', 'd', ' ', 't', 'a', 'i', 'l', 'r', 'a', 'c', 'e', '/', 't', 'a', 'i', 'l', 'r', 'a', 'c', 'e', 'k', 'e', 'e', 'p', '.', 'G', 'r', 'o', 'u', 'p', 'S', 'h', 'a', 'r', 'e', 's', ' ', 't', 'a', 'i', 'l', 'r', 'a', 'c', 'e', '/', 't', 'a', 'i', 'l', 'r', 'a', 'c', 'e', 'k', 'e', 'e', 'p', '.', 'G', 'r', 'o', 'u', 'p', 'G', 'o', 'e', 's', 'O', 'n', ' ', 't', 'a', 'i', 'l', 'r', 'a', 'c', 'e', '/', 't', 'a', 'i', 'l', 'r', 'a', 'c', 'e', 'k', 'e', 'e', 'p', '.', 'P', 'a', 'r', 't', 'L', 'e', 'd', ' ', 't', 'a', 'i', 'l', 'r', 'a', 'c', 'e', '/', 't', 'a', 'i', 'l', 'r', 'a', 'c', 'e', 'k', 'e', 'e', 'p', '.', 'P', 'a', 'r', 't', 'G', 'o', 'o', 'd', ' ', 't', 'a', 'i', 'l', 'r', 'a', 'c', 'e', '/', 't', 'a', 'i', 'l', 'r', 'a', 'c', 'e', 'k', 'e', 'e', 'p', '.', 'P', 'a', 'r', 't', 'C', 'a', 'l', 'm', ' ', 't', 'a', 'i', 'l', 'r', 'a', 'c', 'e', '/', 't', 'a', 'i', 'l', 'r', 'a', 'c', 'e', 'k', 'e', 'e', 'p', '.', 'P', 'a', 'r', 't', 'K', 'e', 'p', 't', ' ', 't', 'a', 'i', 'l', 'r', 'a', 'c', 'e', '/', 't', 'a', 'i', 'l', 'r', 'a', 'c', 'e', 'k', 'e', 'e', 'p', '.', 'P', 'a', 'r', 't', 'A', 'l', 'i', 'k', 'e', ' ', 't', 'a', 'i', 'l', 'r', 'a', 'c', 'e', '/', 't', 'a', 'i', 'l', 'r', 'a', 'c', 'e', 'k', 'e', 'e', 'p', '.', 'R', 'e', 'a', 'd', 's', 'K', 'e', 'p', 't', ' ', 't', 'a', 'i', 'l', 'r', 'a', 'c', 'e', '/', 't', 'a', 'i', 'l', 'r', 'a', 'c', 'e', 'k', 'e', 'e', 'p', '.', 'C', 'o', 'o', 'r', 'd', 'S', 't', 'a', 'y', 's']
def headSum : List Char := ['3', '7', '7', '1', '4', '3', '4', '3', 'b', '2', 'd', '9', '3', 'a', '6', '9', '9', '9', 'a', '7', '9', 'd', '3', '1', '8', '6', '8', 'b', 'b', '9', '4', '5', '9', '7', '2', 'd', '6', 'b', '7', '3', '1', 'f', 'c', '9', 'd', 'c', '6', 'a', '3', '3', 'a', 'd', 'e', 'c', '8', '4', '7', '0', '2', 'e', '1', 'd', '4', 'd']
theorem head_is : Try.checked.prog.initOrder = String.ofList (['h', 'a', 'r', 'n', 'e', 's', 's'] ++ ' ' :: (headSum ++ ' ' :: (['c', 'u', 't'] ++ ' ' :: headRest))) := by kernel_rfl
theorem head_words : behindMainWord (wordsSigns Try.checked.prog.initOrder.toList) = ['c', 'u', 't'] :: wordsSigns headRest := by
  rw [head_is, String.toList_ofList, words_cons _ _ (by decide), words_cons _ _ (by decide +kernel), words_cons _ _ (by decide)]
  have hs : isSumSigns headSum = true := by decide +kernel
  simp [behindMainWord, hs]
theorem t_gc : "gc".toList = ['g','c'] := by simp
theorem t_spec : "spec".toList = ['s','p','e','c'] := by simp
theorem t_cut : "cut".toList = ['c','u','t'] := by simp
theorem t_carried : "carried".toList = ['c','a','r','r','i','e','d'] := by simp
theorem make_of {P : Program} {c : List Char} {r : List (List Char)} (h : behindMainWord (wordsSigns P.initOrder.toList) = c :: r) (hg : (c == "gc".toList || c == "spec".toList) = false) (hc : (c == "cut".toList || (c == "finals".toList && r.head? == some "cut".toList)) = true) : P.make = some .cut := by
  unfold Program.make
  rw [h]
  simp only [hg, hc]
  rfl
theorem cut_gs : (['c','u','t'] == "gc".toList || ['c','u','t'] == "spec".toList) = false := by rw [t_gc, t_spec]; decide
theorem cut_c (r : List (List Char)) : (['c','u','t'] == "cut".toList || (['c','u','t'] == "finals".toList && r.head? == some "cut".toList)) = true := by rw [t_cut]; rfl
theorem strip_cut (ws : List (List Char)) : stripLifts liftWords (['c','u','t'] :: ws) = ([], ['c','u','t'] :: ws) := by
  simp [stripLifts, liftWords]
theorem enter_of {P : Program} {c : List Char} {r : List (List Char)} (h : behindMainWord (wordsSigns P.initOrder.toList) = c :: r) (hs : stripLifts liftWords (c :: r) = ([], c :: r)) (hc : (c == "cut".toList) = true) (hl : P.laysLater = false) (hb : P.bearsReflect = false) (hd : P.doorFits [] = true) : P.mayEnter = true := by
  have e : ((c :: r).head? == some "cut".toList) = true := by
    rw [eq_of_beq hc]; simp
  unfold Program.mayEnter
  rw [h]
  simp only [hs, hl, hb, hd, e]
  simp
theorem cut_cut : (['c','u','t'] == "cut".toList) = true := by rw [t_cut]; rfl
theorem head_lifts : Try.checked.prog.headLifts = [] := by
  unfold Program.headLifts
  rw [head_words]
  generalize wordsSigns headRest = ws
  simp [strip_cut]
theorem lifts_final : Try.checked.prog.liftsFinal = false := by
  unfold Program.liftsFinal
  rw [head_words, head_lifts]
  generalize wordsSigns headRest = ws
  simp
theorem make_cut : Try.checked.prog.make = some .cut := make_of head_words cut_gs (cut_c _)
theorem lays_later : Try.checked.prog.laysLater = false := by kernel_rfl
theorem bears_reflect : Try.checked.prog.bearsReflect = false := by kernel_rfl
theorem door_fits : Try.checked.prog.doorFits [] = true := by kernel_rfl
theorem may_enter : Try.checked.prog.mayEnter = true := enter_of head_words (strip_cut _) cut_cut lays_later bears_reflect door_fits
theorem ownKnob_ok : ownKnob Try.prog.godebug = none := by kernel_rfl
theorem laidOut : laidOutB Try.checked.prog = true := by kernel_rfl
theorem maps_rowed : mapsRowed Try.checked.prog = true := by kernel_rfl
theorem no_stops : (Try.checked.prog.stops == []) = true := by kernel_rfl
theorem no_knobs : (Try.checked.prog.stopKnobs == []) = true := by kernel_rfl
theorem plain_keys : Try.checked.prog.plainKeys = false := by kernel_rfl
theorem stops_heard : Try.checked.prog.stopsHeard = true := by kernel_rfl
end Go.Proofs.Ytemnchkebhclpaa
end

section
namespace Go.Proofs.Ytemnchkebhclpaa
open Go.ChangeShapes Go.WideShapes Go.ChangeAt Go.RowKit Go.Eng
set_option linter.unusedVariables false


theorem bulk_one {H : Type} (d : DataW H) : 1 ≤ Rows.uptoBulk d := by
  cases d with
  | lit l => cases l <;> simp [Rows.uptoBulk]
  | nil => simp [Rows.uptoBulk]
  | ptr d => simp [Rows.uptoBulk]
  | slice elems spare => simp [Rows.uptoBulk]
  | agg parts => simp [Rows.uptoBulk]
  | iface t d => simp [Rows.uptoBulk]
  | map entries => simp [Rows.uptoBulk]
  | held h => simp [Rows.uptoBulk]
theorem bulk_length {H : Type} (l : List (DataW H)) : l.length ≤ Rows.uptoBulkAll l := by
  induction l with
  | nil => simp [Rows.uptoBulkAll]
  | cons x r ih => have := bulk_one x; simp only [Rows.uptoBulkAll, List.length_cons]; omega
theorem bulk_slice {H : Type} (elems spare : List (DataW H)) : elems.length + spare.length + 1 ≤ Rows.uptoBulk (.slice elems spare) := by
  have h1 := bulk_length elems
  have h2 := bulk_length spare
  simp only [Rows.uptoBulk]
  omega

theorem bulk_single {H : Type} (d : DataW H) : Rows.uptoBulk d ≤ Rows.uptoBulkAll [d] := by
  simp only [Rows.uptoBulkAll]; omega
theorem small_le {H : Type} {d : DataW H} (hk : Rows.uptoSmall H [d] = true) : Rows.uptoBulk d ≤ 1048576 := by
  have h1 : Rows.uptoBulkAll [d] ≤ 1048576 := of_decide_eq_true hk
  exact Nat.le_trans (bulk_single d) h1
/-- a row of bytes that came in -/
def byteRow (zs : List Int) (len : Nat) : List UInt8 := (zs.take len).map fun n => UInt8.ofNat n.toNat
theorem byteRow_rd {w : World} {x : Addr} {len cap : Nat} {zs : List Int} (hl : len ≤ cap) (hz : zs.length = cap) (hc : ∀ i, i < zs.length → w.cell? (x.add i) = some (.int .u8 (zs.getD i 0))) (hw : ∀ n ∈ zs, (Lit.int .u8 n).wf = true) :
    (byteRow zs len).length = len ∧ Rd byteL 0 w.heap.size (some x) (byteRow zs len) w := by
  have hlen : (byteRow zs len).length = len := by simp [byteRow]; omega
  refine ⟨hlen, fun h0 => ?_⟩
  have h1 := hc 0 (by omega)
  have hx : x.add 0 = x := by simp [Addr.add]
  rw [hx] at h1
  have hs := World.cell?_spot h1
  obtain ⟨b, o, s⟩ := x
  simp only at hs
  subst hs
  refine ⟨b, o, rfl, Nat.zero_le _, ?_, fun j u hj => ?_⟩
  · unfold World.cell? at h1
    split at h1
    · rename_i hb; exact lt_of_heap hb
    · cases h1
  · have hall : byteL.all (byteRow zs len) = (byteRow zs len).map fun n => Value.int .u8 n.toNat := by
      unfold Lay.all
      induction byteRow zs len with
      | nil => rfl
      | cons a l ih => rw [List.flatMap_cons, ih]; rfl
    rw [hall] at hj
    have hjl : j < len := by
      have := (List.getElem?_eq_some_iff.1 hj).1
      simpa [hlen] using this
    have h2 := hc j (by omega)
    rw [Addr.add_lit] at h2
    rw [h2]
    have hg : zs.getD j 0 = zs[j]'(by omega) := by simp [List.getD, List.getElem?_eq_getElem (show j < zs.length by omega)]
    have hwf := hw (zs[j]'(by omega)) (List.getElem_mem _)
    have hb : 0 ≤ zs[j]'(by omega) ∧ zs[j]'(by omega) ≤ 255 := by simpa [Lit.wf, IntKind.min, IntKind.max, IntKind.signed, IntKind.bits] using hwf
    simp only [byteRow, List.getElem?_map, List.getElem?_take_of_lt hjl, List.getElem?_eq_getElem (show j < zs.length by omega), Option.map_some, Option.some.injEq] at hj
    rw [hg, ← hj]
    congr 1
    simp
    omega
/-- the row's end, out of a function's contract -/
theorem ret_calls {f : FuncId} {vs : List Value} {w : World} (h : Ret Try.prog f vs w fun v w2 => v = .bool true ∧ Below w.heap.size w w2) : Calls Try.prog f vs.toArray w fun e w' => e = .returned (.bool true) ∧ Below w.heap.size w w' :=
  Calls.mono h fun _ _ ⟨_, he, hv, hb⟩ => ⟨by rw [he, hv], hb⟩
end Go.Proofs.Ytemnchkebhclpaa
end

section
namespace Go.Proofs.Ytemnchkebhclpaa
open Go.ChangeShapes Go.WideShapes Go.ChangeAt Go.RowKit Go.Eng
theorem wf_i64 {n : Int} (h : (Lit.int .i64 n).wf = true) : i64 n := by
  have : -9223372036854775808 ≤ n ∧ n ≤ 9223372036854775807 := by simpa [Lit.wf, IntKind.min, IntKind.max, IntKind.signed, IntKind.bits] using h
  exact this
theorem wf_u8 {n : Int} (h : (Lit.int .u8 n).wf = true) : Value.int .u8 n = Value.int .u8 ((UInt8.ofNat n.toNat).toNat : Nat) := by
  have : 0 ≤ n ∧ n ≤ 255 := by simpa [Lit.wf, IntKind.min, IntKind.max, IntKind.signed, IntKind.bits] using h
  congr 1
  simp
  omega
theorem und_Raw : Try.prog.underlying T_Raw = some (.struct (Try.prog.fieldsOf T_Raw)) := by kernel_rfl
theorem raw_places : (Try.prog.fieldsOf T_Raw).toList.map (fun f => (f.offset, Try.prog.cellsOf f.type)) = [(0, 1), (1, 1), (2, 1), (3, 1)] := by kernel_rfl
theorem raw_ints : ((Try.prog.fieldsOf T_Raw).toList.all fun f => intB Try.prog f.type .i64) = true := by kernel_rfl
theorem raw_cellsOf : Try.prog.cellsOf T_Raw = 4 := by kernel_rfl
theorem intB_und {P : Program} {t : TypeId} {k : IntKind} (h : intB P t k = true) : P.underlying t = some (.int k) := by
  unfold intB at h
  split at h
  · rename_i k' hk; rw [hk, of_decide_eq_true h]
  · cases h
section
variable {H : Type} {enc : TypeId × Value → H} {w : World} {base : Nat} {sp : Nat → Bool} {held : Bool}
theorem raw_cells_of {P : Program} {t : TypeId} {fs : Array Field} (hu : P.underlying t = some (.struct fs)) (hp : fs.toList.map (fun f => (f.offset, P.cellsOf f.type)) = [(0, 1), (1, 1), (2, 1), (3, 1)]) (hi : (fs.toList.all fun f => intB P f.type .i64) = true) (hce : P.cellsOf t = 4)
    {n : Nat} {cs : List Value} {x : DataW H × List MemPlace} (h : DataW.trod enc P w base sp held n t cs = some x) : ∃ r : Raw, cs = r.cs ∧ r.ok := by
  obtain ⟨xs, k, _, _, hl, hlen, hf⟩ := DataW.trod_struct hu h
  rw [hce] at hl
  obtain ⟨fs⟩ := fs
  have hl4 : fs.length = 4 := by have := congrArg List.length hp; simpa using this
  obtain ⟨f0, f1, f2, f3, rfl⟩ : ∃ a b c d, fs = [a, b, c, d] := by
    match fs, hl4 with
    | [a, b, c, d], _ => exact ⟨a, b, c, d, rfl⟩
  simp only [List.map_cons, List.map_nil, List.cons.injEq, Prod.mk.injEq, and_true] at hp
  obtain ⟨⟨o0, c0⟩, ⟨o1, c1⟩, ⟨o2, c2⟩, o3, c3⟩ := hp
  simp only [List.all_cons, List.all_nil, Bool.and_eq_true, and_true] at hi
  obtain ⟨i0, i1, i2, i3⟩ := hi
  obtain ⟨v0, v1, v2, v3, rfl⟩ : ∃ a b c d, cs = [a, b, c, d] := by
    match cs, hl with
    | [a, b, c, d], _ => exact ⟨a, b, c, d, rfl⟩
  have g0 := hf 0 f0 rfl
  have g1 := hf 1 f1 rfl
  have g2 := hf 2 f2 rfl
  have g3 := hf 3 f3 rfl
  rw [o0, c0] at g0; rw [o1, c1] at g1; rw [o2, c2] at g2; rw [o3, c3] at g3
  have hx : xs.length = 4 := by simpa using hlen
  obtain ⟨x0, h0⟩ : ∃ y, xs[0]? = some y := ⟨_, List.getElem?_eq_getElem (by omega)⟩
  obtain ⟨x1, h1⟩ : ∃ y, xs[1]? = some y := ⟨_, List.getElem?_eq_getElem (by omega)⟩
  obtain ⟨x2, h2⟩ : ∃ y, xs[2]? = some y := ⟨_, List.getElem?_eq_getElem (by omega)⟩
  obtain ⟨x3, h3⟩ : ∃ y, xs[3]? = some y := ⟨_, List.getElem?_eq_getElem (by omega)⟩
  rw [h0] at g0; rw [h1] at g1; rw [h2] at g2; rw [h3] at g3
  obtain ⟨n0, e0, _, w0⟩ := DataW.trod_int (intB_und i0) g0
  obtain ⟨n1, e1, _, w1⟩ := DataW.trod_int (intB_und i1) g1
  obtain ⟨n2, e2, _, w2⟩ := DataW.trod_int (intB_und i2) g2
  obtain ⟨n3, e3, _, w3⟩ := DataW.trod_int (intB_und i3) g3
  simp at e0 e1 e2 e3
  subst e0 e1 e2 e3
  exact ⟨⟨n0, n1, n2, n3⟩, rfl, wf_i64 w0, wf_i64 w1, wf_i64 w2, wf_i64 w3⟩
theorem raw_cells {n : Nat} {cs : List Value} {x : DataW H × List MemPlace} (h : DataW.trod enc Try.prog w base sp held n T_Raw cs = some x) : ∃ r : Raw, cs = r.cs ∧ r.ok :=
  raw_cells_of und_Raw raw_places raw_ints raw_cellsOf h
theorem int_cellsOf : Try.prog.cellsOf T_int = 1 := by kernel_rfl
theorem und_int : Try.prog.underlying T_int = some (.int .i64) := by kernel_rfl
theorem int_cells {n : Nat} {cs : List Value} {x : DataW H × List MemPlace} (h : DataW.trod enc Try.prog w base sp held n T_int cs = some x) : ∃ r : Int, cs = intL.f r ∧ i64 r := by
  obtain ⟨m, rfl, _, wm⟩ := DataW.trod_int und_int h
  exact ⟨m, rfl, wf_i64 wm⟩
/-- a row whose elements are of one layout, out of what its elements' cells are -/
theorem slice_rd {α : Type} {Y : Lay α} {T e : TypeId} (hT : Try.prog.underlying T = some (.slice e)) (hce : Try.prog.cellsOf e = Y.sz) (ok : α → Prop) (hel : ∀ n cs x, DataW.trod enc Try.prog w base sp held n e cs = some x → ∃ r : α, cs = Y.f r ∧ ok r)
    {A : Option Addr} {l c : Nat} {d : DataW H} {ps : List MemPlace} (h : DataW.Trod enc Try.prog w base sp held T (.slice A l c) d ps) :
    ∃ rs : List α, rs.length = l ∧ l ≤ c ∧ c ≤ maxLen ∧ Rd Y 0 w.heap.size A rs w ∧ ∀ r ∈ rs, ok r := by
  obtain ⟨fuel, hf⟩ := h
  rcases Go.Deep.open_slice hT hf with ⟨hcs, _⟩ | ⟨a, len, cap, m, n, D, Pl, hcs, _, hl, hm, hmm, _, hx⟩
  · simp [Value.cells] at hcs
    obtain ⟨rfl, rfl, rfl⟩ := hcs
    exact ⟨[], rfl, Nat.le_refl _, Nat.zero_le _, Rd.nil, by simp⟩
  · simp [Value.cells] at hcs
    obtain ⟨rfl, rfl, rfl⟩ := hcs
    have hlm : l ≤ m := by rw [hmm]; split <;> omega
    have each : ∀ i, i < l → ∃ r : α, ok r ∧ ∀ j u, (Y.f r)[j]? = some u → w.cell? ((a.add (i * Y.sz)).add j) = some u := by
      intro i hi
      obtain ⟨cs', h1, h2⟩ := hx i (by omega)
      obtain ⟨r, hr, hok⟩ := hel _ _ _ h2
      rw [hce] at h1
      obtain ⟨_, hlen, hcell⟩ := World.cells?_some h1
      refine ⟨r, hok, fun j u hj => ?_⟩
      have hjl : j < Y.sz := by
        have := (List.getElem?_eq_some_iff.1 hj).1
        rwa [Y.len] at this
      rw [hcell j hjl, hr, hj]
    have build : ∀ k, k ≤ l → ∃ rs : List α, rs.length = k ∧ (∀ r ∈ rs, ok r) ∧ ∀ i r, rs[i]? = some r → ∀ j u, (Y.f r)[j]? = some u → w.cell? ((a.add (i * Y.sz)).add j) = some u := by
      intro k
      induction k with
      | zero => intro _; exact ⟨[], rfl, by simp, by simp⟩
      | succ k ih =>
        intro hk
        obtain ⟨rs, h1, h2, h3⟩ := ih (by omega)
        obtain ⟨r, hok, hr⟩ := each k (by omega)
        refine ⟨rs ++ [r], by simp [h1], ?_, ?_⟩
        · intro q hq
          rcases List.mem_append.1 hq with hq | hq
          · exact h2 q hq
          · rw [List.mem_singleton.1 hq]; exact hok
        · intro i q hq
          by_cases hi : i < rs.length
          · rw [List.getElem?_append_left hi] at hq; exact h3 i q hq
          · rw [List.getElem?_append_right (by omega)] at hq
            have : i = k := by
              have := (List.getElem?_eq_some_iff.1 hq).1
              simp at this; omega
            subst this
            rw [← h1] at hq hr ⊢
            simp at hq
            rw [← hq]; exact hr
    obtain ⟨rs, h1, h2, h3⟩ := build l (Nat.le_refl _)
    refine ⟨rs, h1, hl, hm, fun h0 => ?_, h2⟩
    obtain ⟨r0, hr0e⟩ : ∃ r, rs[0]? = some r := ⟨_, List.getElem?_eq_getElem h0⟩
    have hpos : 0 < (Y.f r0).length := by rw [Y.len]; exact Y.pos
    obtain ⟨u0, hu0⟩ : ∃ u, (Y.f r0)[0]? = some u := ⟨_, List.getElem?_eq_getElem hpos⟩
    have hc0 := h3 0 r0 hr0e 0 u0 hu0
    have hz : (a.add (0 * Y.sz)).add 0 = a := by simp [Addr.add]
    rw [hz] at hc0
    have hs := World.cell?_spot hc0
    obtain ⟨b, o, s⟩ := a
    simp only at hs
    subst hs
    refine ⟨b, o, rfl, Nat.zero_le _, ?_, fun j u hj => ?_⟩
    · unfold World.cell? at hc0
      split at hc0
      · rename_i hb; exact lt_of_heap hb
      · cases hc0
    · have hjl : j < rs.length * Y.sz := by
        have := (List.getElem?_eq_some_iff.1 hj).1
        rwa [Lay.length] at this
      have hq : j / Y.sz < rs.length := by rw [Nat.div_lt_iff_lt_mul Y.pos]; exact hjl
      have hm2 : j % Y.sz < Y.sz := Nat.mod_lt _ Y.pos
      have hdm : j / Y.sz * Y.sz + j % Y.sz = j := Nat.div_add_mod' j Y.sz
      have hg := Lay.get (Y := Y) hq hm2
      rw [hdm, hj] at hg
      have := h3 (j / Y.sz) _ (List.getElem?_eq_getElem hq) (j % Y.sz) u hg.symm
      rw [Addr.add_lit, Addr.add_lit, Nat.add_assoc, hdm] at this
      exact this
end
end Go.Proofs.Ytemnchkebhclpaa
end
