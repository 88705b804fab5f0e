/- RowB: a part of the proofs over this seat: what stands in its theorems holds for every input that they name. -/
import Derived.Test.YtemnchkebhclpaaW9
import Derived.Test.YtemnchkebhclpaaRows
import Derived.WalkKit
import Derived.ProofKit
import Derived.OpenShut
import Derived.ShutString
import Derived.ChangeOld
import Derived.Below
import Derived.JoinedCond
namespace Go.Proofs.Ytemnchkebhclpaa
open Go.ChangeShapes Go.WideShapes Go.ChangeAt Go.RowKit Go.Eng
set_option linter.unusedVariables false


theorem bulk_one {H : Type} (d : DataW H) : 1 ≤ Rows.uptoBulk d := by
  cases d with
  | lit l => cases l <;> simp [Rows.uptoBulk]
  | nil => simp [Rows.uptoBulk]
  | ptr d => simp [Rows.uptoBulk]
  | slice elems spare => simp [Rows.uptoBulk]
  | agg parts => simp [Rows.uptoBulk]
  | iface t d => simp [Rows.uptoBulk]
  | map entries => simp [Rows.uptoBulk]
  | held h => simp [Rows.uptoBulk]
theorem bulk_length {H : Type} (l : List (DataW H)) : l.length ≤ Rows.uptoBulkAll l := by
  induction l with
  | nil => simp [Rows.uptoBulkAll]
  | cons x r ih => have := bulk_one x; simp only [Rows.uptoBulkAll, List.length_cons]; omega
theorem bulk_slice {H : Type} (elems spare : List (DataW H)) : elems.length + spare.length + 1 ≤ Rows.uptoBulk (.slice elems spare) := by
  have h1 := bulk_length elems
  have h2 := bulk_length spare
  simp only [Rows.uptoBulk]
  omega

theorem bulk_single {H : Type} (d : DataW H) : Rows.uptoBulk d ≤ Rows.uptoBulkAll [d] := by
  simp only [Rows.uptoBulkAll]; omega
theorem small_le {H : Type} {d : DataW H} (hk : Rows.uptoSmall H [d] = true) : Rows.uptoBulk d ≤ 1048576 := by
  have h1 : Rows.uptoBulkAll [d] ≤ 1048576 := of_decide_eq_true hk
  exact Nat.le_trans (bulk_single d) h1
/-- a row of bytes that came in -/
def byteRow (zs : List Int) (len : Nat) : List UInt8 := (zs.take len).map fun n => UInt8.ofNat n.toNat
theorem byteRow_rd {w : World} {x : Addr} {len cap : Nat} {zs : List Int} (hl : len ≤ cap) (hz : zs.length = cap) (hc : ∀ i, i < zs.length → w.cell? (x.add i) = some (.int .u8 (zs.getD i 0))) (hw : ∀ n ∈ zs, (Lit.int .u8 n).wf = true) :
    (byteRow zs len).length = len ∧ Rd byteL 0 w.heap.size (some x) (byteRow zs len) w := by
  have hlen : (byteRow zs len).length = len := by simp [byteRow]; omega
  refine ⟨hlen, fun h0 => ?_⟩
  have h1 := hc 0 (by omega)
  have hx : x.add 0 = x := by simp [Addr.add]
  rw [hx] at h1
  have hs := World.cell?_spot h1
  obtain ⟨b, o, s⟩ := x
  simp only at hs
  subst hs
  refine ⟨b, o, rfl, Nat.zero_le _, ?_, fun j u hj => ?_⟩
  · unfold World.cell? at h1
    split at h1
    · rename_i hb; exact lt_of_heap hb
    · cases h1
  · have hall : byteL.all (byteRow zs len) = (byteRow zs len).map fun n => Value.int .u8 n.toNat := by
      unfold Lay.all
      induction byteRow zs len with
      | nil => rfl
      | cons a l ih => rw [List.flatMap_cons, ih]; rfl
    rw [hall] at hj
    have hjl : j < len := by
      have := (List.getElem?_eq_some_iff.1 hj).1
      simpa [hlen] using this
    have h2 := hc j (by omega)
    rw [Addr.add_lit] at h2
    rw [h2]
    have hg : zs.getD j 0 = zs[j]'(by omega) := by simp [List.getD, List.getElem?_eq_getElem (show j < zs.length by omega)]
    have hwf := hw (zs[j]'(by omega)) (List.getElem_mem _)
    have hb : 0 ≤ zs[j]'(by omega) ∧ zs[j]'(by omega) ≤ 255 := by simpa [Lit.wf, IntKind.min, IntKind.max, IntKind.signed, IntKind.bits] using hwf
    simp only [byteRow, List.getElem?_map, List.getElem?_take_of_lt hjl, List.getElem?_eq_getElem (show j < zs.length by omega), Option.map_some, Option.some.injEq] at hj
    rw [hg, ← hj]
    congr 1
    simp
    omega
/-- the row's end, out of a function's contract -/
theorem ret_calls {f : FuncId} {vs : List Value} {w : World} (h : Ret Try.prog f vs w fun v w2 => v = .bool true ∧ Below w.heap.size w w2) : Calls Try.prog f vs.toArray w fun e w' => e = .returned (.bool true) ∧ Below w.heap.size w w' :=
  Calls.mono h fun _ _ ⟨_, he, hv, hb⟩ => ⟨by rw [he, hv], hb⟩
end Go.Proofs.Ytemnchkebhclpaa
