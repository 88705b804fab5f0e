/- GE: a part of the proofs over this seat: what stands in its theorems holds for every input that they name. -/
import Derived.Test.YtemnchkebhclpaaGB
import Derived.Deep.OwnRows
import Derived.Maps.Keyed
import Derived.DeepKeys5
import Derived.Lib.ConvBytes
import Derived.Laws.MakeOwn
section
namespace Go.Eng
open Go Go.RowKit
/-- a row of new memory within a call's value -/
def Sp.nrow {α : Type} (lo : Nat) (Y : Lay α) (es : List α) (gv : Option Addr → Nat → Value) : Sp := ⟨fun v w => ∃ A c, v = gv A c ∧ es.length ≤ c ∧ Rd Y lo w.heap.size A es w, fun _ _ _ hb ⟨A, c, h1, h2, h3⟩ => ⟨A, c, h1, h2, (h3.below hb).mono (Nat.le_refl _) hb.size⟩⟩
section
variable {P : Program} {n : Nat} {ρ : Env} {ops : Array Oper} {d : Nat} {t : TypeId} {p : String} {af : Array Edge} {g : Option (Nat × Bool)}
variable {C : Fct} {lo pu : List Nat} {spec : Nat → Value → Fct} {T : Env → Fct → Prop} {r : List Nat} {Fc : Fct} {i : Nat} {α : Type} {Y : Lay α}
theorem awNRow {es : List α} {lo' : Nat} {gv : Option Addr → Nat → Value} {f : FuncId} {xs : List Operand} {ats : Array TypeId} {vs : List Value} (hf : callB P f = true) (hi : ops[i]? = some (Og (some d) (.call { callee := .value (.func f), args := xs.toArray, argTypes := ats }) t p af g)) (hw : wantE ops ρ (Og (some d) (.call { callee := .value (.func f), args := xs.toArray, argTypes := ats }) t p af g) = true) (hl : lo.contains i = true) (hdn : Nat.blt d n = true)
    (hs : spec i = (Sp.nrow lo' Y es gv).V) (hC : ∀ w', C w' → lo' ≤ w'.heap.size) (hc : ∀ w', C w' → Ret P f vs w' fun v w2 => ∃ A c, v = gv A c ∧ es.length ≤ c ∧ Rd Y w'.heap.size w2.heap.size A es w2 ∧ Below w'.heap.size w' w2) (hv : xs.map (ev ρ) = vs)
    (h : ∀ A c, es.length ≤ c → AW P n ops C lo pu spec T r (upd ρ d (gv A c)) (fun w => Fc w ∧ (Sp.nrow lo' Y es gv).V (gv A c) w)) : AW P n ops C lo pu spec T (i :: r) ρ Fc :=
  awCal hf hi hw hl hdn (fun w' hw' => (hc w' hw').mono fun v w2 ⟨A, c, h1, h2, h3, h4⟩ => ⟨h4, by rw [hs]; exact ⟨A, c, h1, h2, h3.mono (hC w' hw') (Nat.le_refl _)⟩⟩) hv fun v ⟨w', _, hv'⟩ => by
    rw [hs] at hv' ⊢
    obtain ⟨A, c, rfl, h2, _⟩ := hv'
    exact h A c h2
end
/-- a row of new memory beside a new block that is not its own -/
theorem Hp.learnApart {α : Type} {Y : Lay α} {w0 w w' : World} {L : List (Nat × Obj)} {F F0 : List Fact} {b : Nat} {o : Obj} {A : Option Addr} {es : List α} (H0 : Hp w0 w L F0) (H : Hp w0 w' ((b, o) :: L) F) (hw : w.heap.size ≤ w'.heap.size) (hr : Rd Y w.heap.size w'.heap.size A es w')
    (hap : 0 < es.length → ∃ (j : Nat) (u : Value), (Y.all es)[j]? = some u ∧ ∀ k, w'.cell? ⟨b, k, none⟩ ≠ some u) : ∃ lo hi, w.heap.size ≤ lo ∧ Hp w0 w' ((b, o) :: L) (FRd Y lo hi A es :: F) := by
  by_cases h0 : 0 < es.length
  · obtain ⟨b', o', hA, h1, h2, hc⟩ := hr h0
    obtain ⟨j, u, hj, hu⟩ := hap h0
    have hne : b ≠ b' := fun e => hu _ (e ▸ hc j u hj)
    refine ⟨b', b' + 1, h1, H.below, H.ents, H.nodup, fun f hf => ?_⟩
    rcases List.mem_cons.1 hf with rfl | hf
    · refine ⟨fun _ => ⟨b', o', hA, Nat.le_refl _, Nat.lt_succ_self _, hc⟩, h2, fun e he => ?_⟩
      show e.1 < b' ∨ b' + 1 ≤ e.1
      rcases List.mem_cons.1 he with rfl | he
      · dsimp only; omega
      · have := H0.ltAll e he
        omega
    · exact H.facts f hf
  · refine ⟨w.heap.size, w.heap.size, Nat.le_refl _, H.below, H.ents, H.nodup, fun f hf => ?_⟩
    rcases List.mem_cons.1 hf with rfl | hf
    · refine ⟨fun h => absurd h h0, hw, fun e _ => ?_⟩
      show e.1 < w.heap.size ∨ w.heap.size ≤ e.1
      omega
    · exact H.facts f hf
theorem Hp.joinR {w0 w w' : World} {L L' : List (Nat × Obj)} {F : List Fact} (H : Hp w0 w L F) (H' : Hp w w' L' []) : Hp w0 w' (L ++ L' ++ []) F := by
  rw [List.append_nil]; exact (H.join H').perm List.perm_append_comm
theorem cell_in {w : World} {b k : Nat} {cs : Array Value} {T : TypeId} {fr : Nat × Nat} {u : Value} (h : w.heap[b]? = some (.cells cs T fr)) (hc : w.cell? ⟨b, k, none⟩ = some u) : u ∈ cs := by
  simp only [World.cell?, h] at hc
  simp at hc
  exact Array.mem_of_getElem? hc
end Go.Eng
end

section
namespace Go.Eng
open Go Go.RowKit
section
variable {P : Program} {n : Nat} {Q : Post} {ρ : Env} {w : World} {ops : Array Oper} {rest : List Oper} {d : Nat} {t : TypeId} {p : String} {af : Array Edge}
variable {w0 : World} {L : List (Nat × Obj)} {F : List Fact}
/-- make([]T, m), T of one cell -/
theorem mks (H : Hp w0 w L F) {T E bytes m : Nat} {z : Value} {kx ky : IntKind} {x y : Operand} (hT : sliceB P T E 1 = true) (hI : (P.info? E).map (fun i => (i.zero, i.size, i.bytes)) = some (some z, 1, bytes)) (hz1 : z.cells = #[z])
    (hx : ev ρ x = .int kx (m : Nat)) (hy : ev ρ y = .int ky (m : Nat)) (hb : bytes * m ≤ 281474976710656) (h63 : m ≤ 9223372036854775807) (hdn : Nat.blt d n = true)
    (h : ∀ w' b, Hp w0 w' ((b, .cells (List.replicate m z).toArray E) :: L) F → LW P n ops rest Q (upd ρ d (.slice (some ⟨b, 0, none⟩) m m)) w') : LW P n ops (O d (.makeSlice T x y) t p af :: rest) Q ρ w := by
  obtain ⟨hu, -, -⟩ := slice_of hT
  have hm : madeCells #[z] m = (List.replicate m z).toArray := by
    apply Array.ext
    · simp [madeCells]
    · intro i h1 h2
      simp [madeCells, Nat.mod_one]
  refine lw_val rfl rfl hdn ?_ (h _ _ (H.alloc (.cells (List.replicate m z).toArray E)))
  have := run_make_row' (P := P) T E z bytes hu hI hz1 kx ky m hb h63 w
  rw [hm] at this
  simp only [execOp, hx, hy, Sem.run_bind, this]
  rfl
end
/-- a block of the call's own that is not written any more: a row to be read -/
theorem Hp.settle {α : Type} {Y : Lay α} {w0 w : World} {L : List (Nat × Obj)} {F : List Fact} {b : Nat} {cs : Array Value} {T : TypeId} {fr : Nat × Nat} {es : List α} (H : Hp w0 w ((b, .cells cs T fr) :: L) F) (hc : cs.toList = Y.all es) : Hp w0 w L (FRd Y b (b + 1) (some ⟨b, 0, none⟩) es :: F) := by
  have hb := (H.ents _ (List.mem_cons_self ..)).1
  refine ⟨H.below, fun e he => H.ents e (List.mem_cons_of_mem _ he), (List.nodup_cons.1 H.nodup).2, fun f hf => ?_⟩
  rcases List.mem_cons.1 hf with rfl | hf
  · refine ⟨fun _ => ⟨b, 0, rfl, Nat.le_refl _, Nat.lt_succ_self _, fun j u hj => ?_⟩, lt_of_heap hb, fun e he => ?_⟩
    · rw [Nat.zero_add]
      rw [← hc] at hj
      exact cellE hb (by simpa using hj)
    · show e.1 < b ∨ b + 1 ≤ e.1
      have hne : e.1 ≠ b := fun h => (List.nodup_cons.1 H.nodup).1 (by
        show b ∈ _
        exact h ▸ List.mem_map_of_mem he)
      omega
  · obtain ⟨h1, h2, h3⟩ := H.facts f hf
    exact ⟨h1, h2, fun e he => h3 e (List.mem_cons_of_mem _ he)⟩
end Go.Eng
end

section
namespace Go.Eng
open Go Go.RowKit Go.MapKept
open Go.Maps (Keyed)
set_option linter.unusedSectionVars false
set_option linter.unusedVariables false
set_option linter.unusedSimpArgs false
/-- a map to ints: what it answers for each key -/
structure MapF {κ : Type} (P : Program) (kt : TypeId) (kv : κ → Value) (f : κ → Int) (es : Array MapEntry) (clock : Nat) : Prop where
  vals : ∀ x ∈ es.toList, ∃ k, x.key = kv k ∧ x.val = .int .i64 (f k)
  keys : ∀ x ∈ es.toList, ∃ l, keyOf P kt x.key = some l
  has : ∀ k, f k ≠ 0 → ∃ x ∈ es.toList, x.key = kv k
  born : ∀ (i : Nat) (x : MapEntry), es.toList[i]? = some x → x.born = i
  clk : clock = es.size
  one : ∀ (i j : Nat) (x y : MapEntry), es.toList[i]? = some x → es.toList[j]? = some y → x.key = y.key → i = j
def setF {κ : Type} [DecidableEq κ] (f : κ → Int) (k : κ) (v : Int) : κ → Int := fun x => if x = k then v else f x
section
variable {κ : Type} [DecidableEq κ] {P : Program} {kt : TypeId} {kv : κ → Value} {f : κ → Int} {es : Array MapEntry} {clock : Nat}
theorem MapF.nil : MapF P kt kv (fun _ => 0) #[] 0 := ⟨by simp, by simp, fun k h => absurd rfl h, by simp, rfl, by simp⟩
theorem MapF.modify (M : MapF P kt kv f es clock) (hinj : ∀ a b, kv a = kv b → a = b) {j : Nat} {e : MapEntry} {k : κ} (hj : es.toList[j]? = some e) (hk : e.key = kv k) (v : Int) (g : MapEntry → MapEntry) (hg : ∀ x, x.key = kv k → g x = { x with val := .int .i64 v }) : MapF P kt kv (setF f k v) (es.modify j g) clock := by
  have hget : ∀ i x, (es.modify j g).toList[i]? = some x → ∃ y, es.toList[i]? = some y ∧ x.key = y.key ∧ x.born = y.born ∧ ((i = j ∧ x.val = .int .i64 v) ∨ (i ≠ j ∧ x.val = y.val)) := fun i x hx => by
    rw [Array.toList_modify, List.getElem?_modify] at hx
    cases hy : es.toList[i]? with
    | none => rw [hy] at hx; cases hx
    | some y =>
      rw [hy] at hx
      by_cases hij : j = i
      · subst hij
        rw [hj] at hy
        injection hy with hy
        subst hy
        simp at hx
        rw [hg e hk] at hx
        subst hx
        exact ⟨_, rfl, rfl, rfl, .inl ⟨rfl, rfl⟩⟩
      · simp [hij] at hx
        subst hx
        exact ⟨_, rfl, rfl, rfl, .inr ⟨fun h => hij h.symm, rfl⟩⟩
  refine ⟨fun x hx => ?_, fun x hx => ?_, fun a ha => ?_, fun i x hx => ?_, by rw [M.clk]; simp, fun i i' x y hx hy he => ?_⟩
  · obtain ⟨i, hi⟩ := List.mem_iff_getElem?.1 hx
    obtain ⟨y, hy, h1, h2, h3⟩ := hget i x hi
    rcases h3 with ⟨rfl, h3⟩ | ⟨hne, h3⟩
    · rw [hj] at hy; injection hy with hy; subst hy
      exact ⟨k, h1.trans hk, by rw [h3]; simp [setF]⟩
    · obtain ⟨a, ha, hv⟩ := M.vals y (List.mem_of_getElem? hy)
      refine ⟨a, h1.trans ha, ?_⟩
      rw [h3, hv]
      have : a ≠ k := fun h => hne (M.one i j y e hy hj (by rw [ha, hk, h]))
      simp [setF, this]
  · obtain ⟨i, hi⟩ := List.mem_iff_getElem?.1 hx
    obtain ⟨y, hy, h1, -, -⟩ := hget i x hi
    rw [h1]
    exact M.keys y (List.mem_of_getElem? hy)
  · have hold : ∀ (i : Nat) (y : MapEntry), es.toList[i]? = some y → ∃ x ∈ (es.modify j g).toList, x.key = y.key := fun i y hy => by
      have hlt : i < (es.modify j g).toList.length := by
        have := (List.getElem?_eq_some_iff.1 hy).1
        simpa using this
      obtain ⟨y', hy', h1, -, -⟩ := hget i _ (List.getElem?_eq_getElem hlt)
      rw [hy] at hy'; injection hy' with hy'; subst hy'
      exact ⟨_, List.getElem_mem hlt, h1⟩
    by_cases hak : a = k
    · subst hak
      obtain ⟨x, hx, h1⟩ := hold j e hj
      exact ⟨x, hx, h1.trans hk⟩
    · have : f a ≠ 0 := by simpa [setF, hak] using ha
      obtain ⟨y, hy, h1⟩ := M.has a this
      obtain ⟨i, hi⟩ := List.mem_iff_getElem?.1 hy
      obtain ⟨x, hx, h2⟩ := hold i y hi
      exact ⟨x, hx, h2.trans h1⟩
  · obtain ⟨y, hy, -, h2, -⟩ := hget i x hx
    rw [h2]; exact M.born i y hy
  · obtain ⟨x', hx', h1, -, -⟩ := hget i x hx
    obtain ⟨y', hy', h2, -, -⟩ := hget i' y hy
    exact M.one i i' x' y' hx' hy' (by rw [← h1, ← h2, he])
theorem MapF.push (M : MapF P kt kv f es clock) {k : κ} {l : Lit} (hl : keyOf P kt (kv k) = some l) (hno : ∀ e ∈ es.toList, e.key ≠ kv k) (v : Int) : MapF P kt kv (setF f k v) (es.push { key := kv k, val := .int .i64 v, born := clock }) (clock + 1) := by
  have hget : ∀ i x, (es.push { key := kv k, val := .int .i64 v, born := clock }).toList[i]? = some x → es.toList[i]? = some x ∨ (i = es.size ∧ x = { key := kv k, val := .int .i64 v, born := clock }) := fun i x hx => by
    rw [Array.toList_push, List.getElem?_append] at hx
    split at hx
    · exact .inl hx
    · rename_i h
      right
      simp at h
      have hi : i - es.toList.length = 0 := by
        have := (List.getElem?_eq_some_iff.1 hx).1
        simpa using this
      rw [hi] at hx
      simp at hx hi
      exact ⟨by omega, hx.symm⟩
  refine ⟨fun x hx => ?_, fun x hx => ?_, fun a ha => ?_, fun i x hx => ?_, by rw [M.clk]; simp, fun i i' x y hx hy he => ?_⟩
  · rw [Array.toList_push] at hx
    rcases List.mem_append.1 hx with hx | hx
    · obtain ⟨a, ha, hv⟩ := M.vals x hx
      refine ⟨a, ha, ?_⟩
      have : a ≠ k := fun h => hno x hx (by rw [ha, h])
      simp [setF, this, hv]
    · rw [List.mem_singleton.1 hx]
      exact ⟨k, rfl, by simp [setF]⟩
  · rw [Array.toList_push] at hx
    rcases List.mem_append.1 hx with hx | hx
    · exact M.keys x hx
    · rw [List.mem_singleton.1 hx]; exact ⟨l, hl⟩
  · rw [Array.toList_push]
    by_cases hak : a = k
    · subst hak; exact ⟨_, List.mem_append_right _ (List.mem_singleton_self _), rfl⟩
    · have : f a ≠ 0 := by simpa [setF, hak] using ha
      obtain ⟨y, hy, h1⟩ := M.has a this
      exact ⟨y, List.mem_append_left _ hy, h1⟩
  · rcases hget i x hx with hx | ⟨rfl, rfl⟩
    · exact M.born i x hx
    · exact M.clk
  · rcases hget i x hx with hx | ⟨rfl, rfl⟩
    · rcases hget i' y hy with hy | ⟨rfl, rfl⟩
      · exact M.one i i' x y hx hy he
      · exact absurd he (hno x (List.mem_of_getElem? hx))
    · rcases hget i' y hy with hy | ⟨rfl, rfl⟩
      · exact absurd he.symm (hno y (List.mem_of_getElem? hy))
      · rfl
theorem MapF.congr {g : κ → Int} (M : MapF P kt kv f es clock) (h : f = g) : MapF P kt kv g es clock := h ▸ M
end
section
variable {P : Program} {n : Nat} {Q : Post} {ρ : Env} {w : World} {ops : Array Oper} {rest : List Oper} {d : Nat} {t : TypeId} {p : String} {af : Array Edge} {g : Option (Nat × Bool)} {dst : Option Nat}
variable {w0 : World} {L : List (Nat × Obj)} {F : List Fact} {κ : Type} [DecidableEq κ] {kt et : TypeId} {kv : κ → Value} {f : κ → Int} {es : Array MapEntry} {clock : Nat} {T : TypeId} {b : Nat} {k : κ} {l : Lit}
theorem run_zero {e : TypeId} {z : Value} (hz : (P.info? e).bind (·.zero) = some z) (w : World) : (zeroValue e).run P w = .ok z w := by
  cases hi : P.info? e with
  | none => rw [hi] at hz; cases hz
  | some i =>
    rw [hi] at hz
    simp only [Option.bind_some] at hz
    simp [zeroValue, run_typeInfo hi, hz, Result.andThen]
theorem mkmI (H : Hp w0 w L F) (hdn : Nat.blt d n = true) (h : ∀ w' b, Hp w0 w' ((b, .map #[] 0) :: L) F → LW P n ops rest Q (upd ρ d (.map (some b))) w') : LW P n ops (O d (.makeMap T none) t p af :: rest) Q ρ w :=
  lw_val rfl rfl hdn (by simp only [execOp, Option.map, Sem.run_bind, Sem.run_pure]; rfl) (h _ _ (H.alloc (.map #[] 0)))
theorem lkp_r {x y : Operand} (hT : P.underlying T = some (.map kt et)) (hz : (P.info? et).bind (·.zero) = some (.int .i64 0)) (K : Keyed P kt) (hinj : ∀ a b, kv a = kv b → a = b) (M : MapF P kt kv f es clock) (hkey : keyOf P kt (kv k) = some l) (hx : ev ρ x = .map (some b)) (hy : ev ρ y = kv k) (hb : w.heap[b]? = some (.map es clock)) :
    (execOp (ev ρ) (Og dst (.lookup T x y false) t p af g)).run P w = .ok (.value (.int .i64 (f k))) w := by
  have key : (Instr.lookup T (.map (some b)) (kv k) false).run P w = .ok (.int .i64 (f k)) w := by
    rcases K.find w hkey es.toList M.keys with ⟨h1, h2⟩ | ⟨j, e, h1, h2, h3⟩
    · have h0 : f k = 0 := by
        cases Classical.em (f k = 0) with
        | inl h => exact h
        | inr h => obtain ⟨x, hx, he⟩ := M.has k h; exact absurd he (h2 x hx)
      rw [h0]
      simp [Instr.lookup, run_underlying hT, MapKept.run_getObj_map hb, K.check w _ hkey, h1, run_zero hz, Result.andThen]
    · obtain ⟨a, ha, hv⟩ := M.vals e (List.mem_of_getElem? h2)
      have : a = k := hinj a k (by rw [← ha, h3])
      subst this
      simp [Instr.lookup, run_underlying hT, MapKept.run_getObj_map hb, K.check w _ hkey, h1, hv, Result.andThen]
  simp only [execOp, hx, hy, Sem.run_bind, key, Result.andThen_ok, Sem.run_pure]
theorem mpU (H : Hp w0 w L F) (i : Nat) {x y z : Operand} {v : Int} (hT : P.underlying T = some (.map kt et)) (K : Keyed P kt) (hinj : ∀ a b, kv a = kv b → a = b) (M : MapF P kt kv f es clock) (hkey : keyOf P kt (kv k) = some l) (hx : ev ρ x = .map (some b)) (hy : ev ρ y = kv k) (hv : ev ρ z = .int .i64 v) (hi : L[i]? = some (b, .map es clock))
    (h : ∀ w' es' clock', MapF P kt kv (setF f k v) es' clock' → Hp w0 w' (L.set i (b, .map es' clock')) F → LW P n ops rest Q ρ w') : LW P n ops ({ dst := none, op := .mapUpdate T x y z, type := t, pos := p, after := af, guard := none } :: rest) Q ρ w := by
  have hb := H.ent hi
  rcases K.find w hkey es.toList M.keys with ⟨h1, h2⟩ | ⟨j, e, h1, h2, h3⟩
  · have key : (Instr.mapUpdate T (.map (some b)) (kv k) (.int .i64 v)).run P w = .ok () { w with heap := w.heap.setIfInBounds b (.map (es.push { key := kv k, val := .int .i64 v, born := clock }) (clock + 1)) } := by
      simp [Instr.mapUpdate, run_underlying hT, MapKept.run_getObj_map hb, K.check w _ hkey, h1, MapKept.run_setObj_map _ hb, Result.andThen]
    refine lw_skip rfl rfl (w' := { w with heap := w.heap.setIfInBounds b (.map (es.push { key := kv k, val := .int .i64 v, born := clock }) (clock + 1)) }) ?_ (h _ _ _ (M.push hkey h2 v) (H.put hi (heap_set hb).1 (by simp) rfl rfl rfl (heap_set hb).2))
    simp only [execOp, hx, hy, hv, Sem.run_bind, key, Result.andThen_ok, Sem.run_pure]
  · have hj : es[j]? = some e := by simpa using h2
    have key : (Instr.mapUpdate T (.map (some b)) (kv k) (.int .i64 v)).run P w = .ok () { w with heap := w.heap.setIfInBounds b (.map (es.modify j fun e => { e with key := kv k, val := .int .i64 v }) clock) } := by
      simp [Instr.mapUpdate, run_underlying hT, MapKept.run_getObj_map hb, K.check w _ hkey, h1, hj, h3, K.stays w hkey, MapKept.run_setObj_map _ hb, Result.andThen]
    refine lw_skip rfl rfl (w' := { w with heap := w.heap.setIfInBounds b (.map (es.modify j fun e => { e with key := kv k, val := .int .i64 v }) clock) }) ?_ (h _ _ _ (M.modify hinj h2 h3 v _ (fun x hx => by rw [← hx])) (H.put hi (heap_set hb).1 (by simp) rfl rfl rfl (heap_set hb).2))
    simp only [execOp, hx, hy, hv, Sem.run_bind, key, Result.andThen_ok, Sem.run_pure]
theorem setF_self (f : κ → Int) (k : κ) : setF f k (f k) = f := funext fun x => by unfold setF; split <;> simp_all
theorem mpE (H : Hp w0 w L F) (i : Nat) {x y : Operand} (hT : P.underlying T = some (.map kt et)) (hz : (P.info? et).bind (·.zero) = some (.int .i64 0)) (K : Keyed P kt) (hinj : ∀ a b, kv a = kv b → a = b) (M : MapF P kt kv f es clock) (hkey : keyOf P kt (kv k) = some l) (hx : ev ρ x = .map (some b)) (hy : ev ρ y = kv k) (hi : L[i]? = some (b, .map es clock)) (hdn : Nat.blt d n = true)
    (h : ∀ w' es' clock' j e, MapF P kt kv f es' clock' → es'.toList[j]? = some e → e.key = kv k → Hp w0 w' (L.set i (b, .map es' clock')) F → LW P n ops rest Q (upd ρ d (.tuple #[.int .i64 (f k), .int .i64 (j : Nat)])) w') : LW P n ops (O d (.mapEntry T x y) t p af :: rest) Q ρ w := by
  have hb := H.ent hi
  rcases K.find w hkey es.toList M.keys with ⟨h1, h2⟩ | ⟨j, e, h1, h2, h3⟩
  · have h0 : f k = 0 := by
      cases Classical.em (f k = 0) with
      | inl h => exact h
      | inr h => obtain ⟨x, hx, he⟩ := M.has k h; exact absurd he (h2 x hx)
    have key : (Instr.mapEntry T (.map (some b)) (kv k)).run P w = .ok (.tuple #[.int .i64 (f k), .int .i64 (clock : Nat)]) { w with heap := w.heap.setIfInBounds b (.map (es.push { key := kv k, val := .int .i64 0, born := clock }) (clock + 1)) } := by
      rw [h0]
      simp [Instr.mapEntry, run_underlying hT, MapKept.run_getObj_map hb, K.check w _ hkey, h1, run_zero hz, MapKept.run_setObj_map _ hb, Result.andThen, goInt]
    have hM := (M.push hkey h2 0).congr (g := f) (by rw [← h0]; exact setF_self f k)
    refine lw_val rfl rfl hdn (w' := { w with heap := w.heap.setIfInBounds b (.map (es.push { key := kv k, val := .int .i64 0, born := clock }) (clock + 1)) }) ?_ (h _ _ _ clock { key := kv k, val := .int .i64 0, born := clock } hM (by rw [Array.toList_push]; simp [M.clk]) rfl (H.put hi (heap_set hb).1 (by simp) rfl rfl rfl (heap_set hb).2))
    simp only [execOp, hx, hy, Sem.run_bind, key, Result.andThen_ok, Sem.run_pure]
  · have hj : es[j]? = some e := by simpa using h2
    obtain ⟨a, ha, hv⟩ := M.vals e (List.mem_of_getElem? h2)
    have hak : a = k := hinj a k (by rw [← ha, h3])
    subst hak
    have hbn := M.born j e h2
    have hmod : (es.modify j fun e => { e with key := kv a }) = es.modify j fun e => { e with key := kv a, val := .int .i64 (f a) } := by
      apply Array.ext_getElem?
      intro q
      rw [Array.getElem?_modify, Array.getElem?_modify]
      split
      · rename_i hq; subst hq; rw [hj]; simp only [Option.map_some]; rw [← hv]
      · rfl
    have key : (Instr.mapEntry T (.map (some b)) (kv a)).run P w = .ok (.tuple #[.int .i64 (f a), .int .i64 (j : Nat)]) { w with heap := w.heap.setIfInBounds b (.map (es.modify j fun e => { e with key := kv a, val := .int .i64 (f a) }) clock) } := by
      rw [← hmod]
      simp [Instr.mapEntry, run_underlying hT, MapKept.run_getObj_map hb, K.check w _ hkey, h1, hj, h3, hv, hbn, K.stays w hkey, MapKept.run_setObj_map _ hb, Result.andThen, goInt]
    have hM := (M.modify hinj h2 h3 (f a) (fun e => { e with key := kv a, val := .int .i64 (f a) }) (fun x hx => by rw [← hx])).congr (setF_self f a)
    refine lw_val rfl rfl hdn (w' := { w with heap := w.heap.setIfInBounds b (.map (es.modify j fun e => { e with key := kv a, val := .int .i64 (f a) }) clock) }) ?_ (h _ _ _ j { e with key := kv a, val := .int .i64 (f a) } hM (by rw [Array.toList_modify, List.getElem?_modify, h2]; simp) rfl (H.put hi (heap_set hb).1 (by simp) rfl rfl rfl (heap_set hb).2))
    simp only [execOp, hx, hy, Sem.run_bind, key, Result.andThen_ok, Sem.run_pure]
theorem enS (H : Hp w0 w L F) (i : Nat) {x y z : Operand} {v : Int} {j : Nat} {e : MapEntry} (hinj : ∀ a b, kv a = kv b → a = b) (M : MapF P kt kv f es clock) (hj : es.toList[j]? = some e) (hk : e.key = kv k) (hx : ev ρ x = .map (some b)) (hy : ev ρ y = .int .i64 (j : Nat)) (hv : ev ρ z = .int .i64 v) (hi : L[i]? = some (b, .map es clock))
    (h : ∀ w' es' clock', MapF P kt kv (setF f k v) es' clock' → Hp w0 w' (L.set i (b, .map es' clock')) F → LW P n ops rest Q ρ w') : LW P n ops ({ dst := none, op := .entryStore T x y z, type := t, pos := p, after := af, guard := none } :: rest) Q ρ w := by
  have hb := H.ent hi
  have hlt : j < es.size := by have := (List.getElem?_eq_some_iff.1 hj).1; simpa using this
  have hfi : es.findIdx? (fun e => (e.born : Int) == (j : Int)) = some j := by
    rw [Array.findIdx?_eq_some_iff_getElem]
    refine ⟨hlt, ?_, fun q hq => ?_⟩
    · have := M.born j es[j] (by simp [hlt])
      simp [this]
    · have := M.born q es[q] (by simp [Nat.lt_trans hq hlt])
      simp [this]; omega
  have key : (Instr.entryStore T (.map (some b)) (.int .i64 (j : Nat)) (.int .i64 v)).run P w = .ok () { w with heap := w.heap.setIfInBounds b (.map (es.modify j fun e => { e with val := .int .i64 v }) clock) } := by
    simp [Instr.entryStore, MapKept.run_getObj_map hb, asInt, asIntOf, hfi, MapKept.run_setObj_map _ hb, Result.andThen]
  refine lw_skip rfl rfl (w' := { w with heap := w.heap.setIfInBounds b (.map (es.modify j fun e => { e with val := .int .i64 v }) clock) }) ?_ (h _ _ _ (M.modify hinj hj hk v _ (fun x hx => rfl)) (H.put hi (heap_set hb).1 (by simp) rfl rfl rfl (heap_set hb).2))
  simp only [execOp, hx, hy, hv, Sem.run_bind, key, Result.andThen_ok, Sem.run_pure]
theorem blda_r {E N sz : Nat} {z : Value} {parts : List (Nat × Operand)} {cs : Array Value} (hu : P.underlying T = some (.array N E)) (hs : (P.info? E).map (·.size) = some sz) (hz : (P.info? T).bind (·.zero) = some z)
    (hf : Instr.fill (fun i => some (i * sz, sz)) z.cells (parts.map fun q => (q.1, ev ρ q.2)) = some cs) : (execOp (ev ρ) (Og dst (.build T parts.toArray) t p af g)).run P w = .ok (.value (.agg cs)) w := by
  have hz' := run_zero (P := P) hz w
  cases hi : P.info? E with
  | none => rw [hi] at hs; cases hs
  | some i =>
    rw [hi] at hs
    simp only [Option.map_some, Option.some.injEq] at hs
    simp [execOp, Instr.build, run_underlying hu, hz', run_size hi, hs, hf, Result.andThen]
end
end Go.Eng
end

section
namespace Go.Eng
open Go Go.RowKit
section
variable {P : Program} {n : Nat} {Q : Post} {ρ : Env} {w : World} {ops : Array Oper} {rest : List Oper} {d : Nat} {t : TypeId} {p : String} {af : Array Edge}
variable {w0 : World} {L : List (Nat × Obj)} {F : List Fact}
theorem str_of {T : TypeId} (h : strB P T = true) : P.underlying T = some .string := by
  unfold strB at h
  split at h
  · assumption
  · cases h
theorem int_of {T : TypeId} {k : IntKind} (h : intB P T k = true) : P.underlying T = some (.int k) := by
  unfold intB at h
  split at h
  · rename_i k' hk; rw [hk, of_decide_eq_true h]
  · cases h
/-- []byte(s) -/
theorem cvTB {Y : Lay UInt8} (H : Hp w0 w L F) {x : Operand} {S T E : TypeId} {s : ByteArray} (hS : strB P S = true) (hT : sliceB P T E 1 = true) (he : intB P E .u8 = true) (hx : ev ρ x = .string s) (hY : ∀ c : UInt8, Y.f c = [.int .u8 c.toNat]) (_h1 : Y.sz = 1) (hdn : Nat.blt d n = true)
    (h : ∀ w' A c, s.data.toList.length ≤ c → Hp w0 w' L (FRd Y w.heap.size w'.heap.size A s.data.toList :: F) → LW P n ops rest Q (upd ρ d (.slice A s.data.toList.length c)) w') : LW P n ops (O d (.convert S T x) t p af :: rest) Q ρ w := by
  obtain ⟨hT1, -, -⟩ := slice_of hT
  have hr := Lib.run_convert_string_bytes (P := P) w S T E s (str_of hS) hT1 (int_of he)
  have hsz : s.size = s.data.toList.length := by rw [Array.length_toList]; rfl
  have hall : ∀ l : List UInt8, Y.all l = (l.map fun c => Value.int .u8 c.toNat) := fun l => by
    unfold Lay.all
    induction l with
    | nil => rfl
    | cons a l ih =>
      rw [List.flatMap_cons, hY, ih]
      rfl
  have hB : Below w.heap.size w (Lib.bytesWorld w E s) := ⟨rfl, rfl, rfl, by rw [Lib.bytesWorld_size]; omega, fun k hk => Lib.bytesWorld_at_old w E s k hk⟩
  have hR : Rd Y w.heap.size (Lib.bytesWorld w E s).heap.size (some ⟨w.heap.size, 0, none⟩) s.data.toList (Lib.bytesWorld w E s) := fun h0 => ⟨w.heap.size, 0, rfl, Nat.le_refl _, by rw [Lib.bytesWorld_size]; omega, fun j u hj => by
    rw [hall] at hj
    have hjl : j < s.data.toList.length := by
      have := (List.getElem?_eq_some_iff.1 hj).1
      simpa using this
    rw [Nat.zero_add, Lib.bytesWorld_cell w E s j (by omega)]
    rw [List.getElem?_map, List.getElem?_eq_getElem hjl] at hj
    simp only [Option.map_some, Option.some.injEq] at hj
    rw [← hj, List.getD_eq_getElem?_getD, List.getElem?_eq_getElem hjl]
    rfl⟩
  rw [hsz] at hr
  refine lw_val rfl rfl hdn (w' := Lib.bytesWorld w E s) ?_ (h _ _ (grownCap w s.data.toList.length 0 E) (grownCap_ge _ _ _ _) (H.learnRd hB hR))
  simp only [execOp, hx, Sem.run_bind, hr, Result.andThen_ok, Sem.run_pure]
end
end Go.Eng
end

section
namespace Go.Eng
open Go Go.RowKit
/-- a row of new memory, to be written -/
def Sp.orow {α : Type} (lo : Nat) (Y : Lay α) (e : TypeId) (es : List α) : Sp := ⟨fun v w => ∃ (A : Option Addr) (c : Nat) (L' : List (Nat × Obj)), v = .slice A es.length c ∧ es.length ≤ c ∧ c ≤ maxLen ∧ Own Y (.slice A es.length c) e es L' ∧ (∀ q ∈ L', w.heap[q.1]? = some q.2 ∧ lo ≤ q.1) ∧ (L'.map Prod.fst).Nodup, fun _ _ _ hb ⟨A, c, L', h1, h2, h3, h4, h5, h6⟩ => ⟨A, c, L', h1, h2, h3, h4, fun q hq => ⟨(hb.block q.1 (lt_of_heap (h5 q hq).1)).trans (h5 q hq).1, (h5 q hq).2⟩, h6⟩⟩
section
variable {P : Program} {n : Nat} {ρ : Env} {ops : Array Oper} {d : Nat} {t : TypeId} {p : String} {af : Array Edge} {g : Option (Nat × Bool)}
variable {C : Fct} {lo pu : List Nat} {spec : Nat → Value → Fct} {T : Env → Fct → Prop} {r : List Nat} {Fc : Fct} {i : Nat} {α : Type} {Y : Lay α}
theorem awORow {es : List α} {lo' : Nat} {e : TypeId} {f : FuncId} {xs : List Operand} {ats : Array TypeId} {vs : List Value} (hf : callB P f = true) (hi : ops[i]? = some (Og (some d) (.call { callee := .value (.func f), args := xs.toArray, argTypes := ats }) t p af g)) (hw : wantE ops ρ (Og (some d) (.call { callee := .value (.func f), args := xs.toArray, argTypes := ats }) t p af g) = true) (hl : lo.contains i = true) (hdn : Nat.blt d n = true)
    (hs : spec i = (Sp.orow lo' Y e es).V) (hC : ∀ w', C w' → lo' ≤ w'.heap.size) (hc : ∀ w', C w' → Ret P f vs w' fun v w2 => ∃ A c L', v = .slice A es.length c ∧ es.length ≤ c ∧ c ≤ maxLen ∧ Own Y (.slice A es.length c) e es L' ∧ Hp w' w2 L' []) (hv : xs.map (ev ρ) = vs)
    (h : ∀ A c, es.length ≤ c → AW P n ops C lo pu spec T r (upd ρ d (.slice A es.length c)) (fun w => Fc w ∧ (Sp.orow lo' Y e es).V (.slice A es.length c) w)) : AW P n ops C lo pu spec T (i :: r) ρ Fc :=
  awCal hf hi hw hl hdn (fun w' hw' => (hc w' hw').mono fun v w2 ⟨A, c, L', h1, h2, h3, h4, h5⟩ => ⟨h5.below, by rw [hs]; exact ⟨A, c, L', h1, h2, h3, h4, fun q hq => ⟨(h5.ents q hq).1, Nat.le_trans (hC w' hw') (h5.ents q hq).2⟩, h5.nodup⟩⟩) hv fun v ⟨w', _, hv'⟩ => by
    rw [hs] at hv' ⊢
    obtain ⟨A, c, L', rfl, h2, _⟩ := hv'
    exact h A c h2
end
theorem Hp.ofNew {w w' : World} {L' : List (Nat × Obj)} (hb : Below w.heap.size w w') (h1 : ∀ q ∈ L', w'.heap[q.1]? = some q.2 ∧ w.heap.size ≤ q.1) (h2 : (L'.map Prod.fst).Nodup) : Hp w w' L' [] := ⟨hb, h1, h2, by simp⟩
end Go.Eng
end

section
namespace Go.Eng
open Go Go.RowKit
theorem Row.rd {α : Type} {Y : Lay α} {es : List α} {cap g : Nat} {cur : Array Value} {tt : TypeId} {fr : Nat × Nat} {w : World} (h : Row Y es cap cur) (hb : w.heap[g]? = some (.cells cur tt fr)) : Rd Y g (g + 1) (some ⟨g, 0, none⟩) es w := fun _ => by
  refine ⟨g, 0, rfl, Nat.le_refl _, Nat.lt_succ_self _, fun j u hu => ?_⟩
  have h2 : cur.toList[j]? = some u := by
    have h3 := h.all
    rw [← h3, List.getElem?_take] at hu
    split at hu
    · exact hu
    · cases hu
  rw [Nat.zero_add]
  exact cellE hb (by simpa using h2)
theorem Row.rd0 {α : Type} {Y : Lay α} {es : List α} {cap g : Nat} {cur : Array Value} {tt : TypeId} {fr : Nat × Nat} {w : World} (h : Row Y es cap cur) (hb : w.heap[g]? = some (.cells cur tt fr)) : Rd Y 0 w.heap.size (some ⟨g, 0, none⟩) es w := (h.rd hb).mono (Nat.zero_le _) (lt_of_heap hb)
theorem cl_sub {w : World} {b o : Nat} {ys : List Value} (h : ∀ j v, ys[j]? = some v → w.cell? ⟨b, o + j, none⟩ = some v) (off : Nat) {xs : List Value} (hx : (ys.drop off).take xs.length = xs) : ∀ j v, xs[j]? = some v → w.cell? ⟨b, o + off + j, none⟩ = some v := fun j v hj => by
  rw [← hx, List.getElem?_take] at hj
  split at hj
  · rw [List.getElem?_drop] at hj
    rw [Nat.add_assoc]
    exact h _ _ hj
  · cases hj
section
variable {P : Program} {ρ : Env} {w : World} {t : TypeId} {p : String} {af : Array Edge} {g : Option (Nat × Bool)} {dst : Option Nat}
/-- a struct within a block -/
theorem ldS_r {x : Operand} {T sz b : Nat} {cs : Array Value} {tt : TypeId} {fr : Nat × Nat} (off : Nat) (xs : List Value) (hT : aggB P T sz = true) (hx : ev ρ x = .pointer (some ⟨b, off, none⟩)) (hs : xs.length = sz) (hb : w.heap[b]? = some (.cells cs tt fr)) (hc : (cs.toList.drop off).take xs.length = xs) : (execOp (ev ρ) (Og dst (.load T x) t p af g)).run P w = .ok (.value (.agg xs.toArray)) w :=
  ldA_r hT hx hs (by
    have h0 := cl_sub (w := w) (b := b) (o := 0) (ys := cs.toList) (fun j v hj => by rw [Nat.zero_add]; exact cellE hb (by simpa using hj)) off hc
    intro j v hj
    have := h0 j v hj
    rwa [Nat.zero_add] at this)
/-- a struct within an element of a row of the call's own -/
theorem ldRS_r {α : Type} {Y : Lay α} {es : List α} {cap : Nat} {cur : Array Value} {x : Operand} {T sz b k : Nat} {tt : TypeId} {fr : Nat × Nat} {e : α} (off : Nat) (xs : List Value) (hT : aggB P T sz = true) (hR : Row Y es cap cur) (hk : es[k]? = some e) (hx : ev ρ x = .pointer (some ⟨b, k * Y.sz + off, none⟩)) (hs : xs.length = sz) (hb : w.heap[b]? = some (.cells cur tt fr)) (hc : ((Y.f e).drop off).take xs.length = xs) : (execOp (ev ρ) (Og dst (.load T x) t p af g)).run P w = .ok (.value (.agg xs.toArray)) w :=
  ldA_r hT hx hs (cl_sub (fun _ _ hj => cellE hb (hR.get hk hj)) off hc)
end
theorem cells_ne {w : World} {b1 b2 : Nat} {c1 c2 : Array Value} {T1 T2 : TypeId} {f1 f2 : Nat × Nat} (h1 : w.heap[b1]? = some (.cells c1 T1 f1)) (h2 : w.heap[b2]? = some (.cells c2 T2 f2)) (hT : Nat.beq T1 T2 = false) : b1 ≠ b2 := fun h => by
  subst h
  rw [h1] at h2
  injection h2 with h2
  injection h2 with _ h3 _
  subst h3
  simp at hT
theorem Hp.adopt2 {w0 w w' : World} {L : List (Nat × Obj)} {F : List Fact} (H : Hp w0 w L F) (hw : Below w.heap.size w w') {b1 b2 : Nat} {o1 o2 : Obj} (h1 : w'.heap[b1]? = some o1 ∧ w.heap.size ≤ b1) (h2 : w'.heap[b2]? = some o2 ∧ w.heap.size ≤ b2) (n12 : b1 ≠ b2) : Hp w0 w' ((b1, o1) :: (b2, o2) :: L) F := by
  have H2 := H.adoptNew hw h2.1 h2.2
  refine H2.adopt h1.1 (Nat.le_trans H.size h1.2) (fun e he => ?_) (fun f hf => ?_)
  · rcases List.mem_cons.1 he with rfl | he
    · exact fun h => n12 h.symm
    · have := H.ltAll e he; omega
  · have := (H.facts f hf).2.1; omega
theorem Hp.adopt3 {w0 w w' : World} {L : List (Nat × Obj)} {F : List Fact} (H : Hp w0 w L F) (hw : Below w.heap.size w w') {b1 b2 b3 : Nat} {o1 o2 o3 : Obj} (h1 : w'.heap[b1]? = some o1 ∧ w.heap.size ≤ b1) (h2 : w'.heap[b2]? = some o2 ∧ w.heap.size ≤ b2) (h3 : w'.heap[b3]? = some o3 ∧ w.heap.size ≤ b3) (n12 : b1 ≠ b2) (n13 : b1 ≠ b3) (n23 : b2 ≠ b3) : Hp w0 w' ((b1, o1) :: (b2, o2) :: (b3, o3) :: L) F := by
  have H2 := H.adopt2 hw h2 h3 n23
  refine H2.adopt h1.1 (Nat.le_trans H.size h1.2) (fun e he => ?_) (fun f hf => ?_)
  · rcases List.mem_cons.1 he with rfl | he
    · exact fun h => n12 h.symm
    · rcases List.mem_cons.1 he with rfl | he
      · exact fun h => n13 h.symm
      · have := H.ltAll e he; omega
  · have := (H.facts f hf).2.1; omega
theorem copyG {α β : Type} {f : α → β} {out xs : List α} {k : Nat} {x x' : α} (hx : out[k]? = some x) (hma : out.map f = xs.map f) (hdr : out.drop k = xs.drop k) (ha : f x' = f x) : (out.set k x').map f = xs.map f ∧ (out.set k x').drop (k + 1) = xs.drop (k + 1) ∧ (out.set k x').take (k + 1) = out.take k ++ [x'] := by
  have hl : k < out.length := (List.getElem?_eq_some_iff.1 hx).1
  refine ⟨?_, ?_, ?_⟩
  · rw [List.map_set, ha, ← hma]
    apply List.ext_getElem?
    intro i
    rw [List.getElem?_set]
    split
    · rename_i hi
      subst hi
      rw [List.getElem?_map, hx, if_pos (by simpa using hl)]
      rfl
    · rfl
  · rw [List.drop_set_of_lt (by omega)]
    have := congrArg (List.drop 1) hdr
    rwa [List.drop_drop, List.drop_drop] at this
  · rw [List.take_add_one, List.take_set_of_le (Nat.le_refl k), List.getElem?_set_self hl]
    rfl
theorem drop_at {α : Type} {out xs : List α} {k : Nat} {x : α} (hdr : out.drop k = xs.drop k) (hx : out[k]? = some x) : xs[k]? = some x := by
  have := congrArg (fun l => l[0]?) hdr
  simp only [List.getElem?_drop, Nat.add_zero] at this
  rw [← this]; exact hx
/-- what a call has made, rows to be written and rows to be read -/
theorem Hp.joinF {w0 w w' : World} {L L' : List (Nat × Obj)} {F F' : List Fact} (H : Hp w0 w L F) (H' : Hp w w' L' F') (hlo : ∀ f ∈ F', w.heap.size ≤ f.lo) : Hp w0 w' (L' ++ L) (F ++ F') := by
  have h := H.later H'.below
  refine ⟨h.below, fun e he => ?_, ?_, fun f hf => ?_⟩
  · rcases List.mem_append.1 he with he | he
    · obtain ⟨h1, h2⟩ := H'.ents e he
      exact ⟨h1, Nat.le_trans H.size h2⟩
    · exact h.ents e he
  · rw [List.map_append, List.nodup_append]
    refine ⟨H'.nodup, h.nodup, fun a ha b hb hab => ?_⟩
    obtain ⟨x, hx, rfl⟩ := List.mem_map.1 ha
    obtain ⟨y, hy, rfl⟩ := List.mem_map.1 hb
    have h1 := (H'.ents x hx).2
    have h2 := H.ltAll y hy
    omega
  · rcases List.mem_append.1 hf with hf | hf
    · obtain ⟨h1, h2, h3⟩ := h.facts f hf
      refine ⟨h1, h2, fun e he => ?_⟩
      rcases List.mem_append.1 he with he | he
      · have h4 := (H.facts f hf).2.1
        have h5 := (H'.ents e he).2
        exact .inr (by omega)
      · exact h3 e he
    · obtain ⟨h1, h2, h3⟩ := H'.facts f hf
      refine ⟨h1, h2, fun e he => ?_⟩
      rcases List.mem_append.1 he with he | he
      · exact h3 e he
      · have h4 := H.ltAll e he
        have h5 := hlo f hf
        exact .inl (by omega)
/-- an empty row, anywhere -/
theorem Hp.learnNil {α : Type} {Y : Lay α} {w0 w : World} {L : List (Nat × Obj)} {F : List Fact} (H : Hp w0 w L F) (n : Nat) (hn : n ≤ w.heap.size) (A : Option Addr) : Hp w0 w L (FRd Y n n A ([] : List α) :: F) := by
  refine ⟨H.below, H.ents, H.nodup, fun f hf => ?_⟩
  rcases List.mem_cons.1 hf with rfl | hf
  · exact ⟨Rd.nil, hn, fun e _ => Nat.lt_or_ge e.1 n⟩
  · exact H.facts f hf
theorem all_replicate {α : Type} {Y : Lay α} {a : α} {z : Array Value} (hz : z.toList = Y.f a) (m : Nat) : (madeCells z (m * Y.sz)).toList = Y.all (List.replicate m a) := by
  have hzs : z.size = Y.sz := by rw [← Array.length_toList, hz, Y.len]
  have hpos := Y.pos
  apply List.ext_getElem?
  intro i
  by_cases hi : i < m * Y.sz
  · have h1 : i / Y.sz < m := Nat.div_lt_of_lt_mul (by rw [Nat.mul_comm]; exact hi)
    have h2 : i % Y.sz < Y.sz := Nat.mod_lt _ hpos
    have h3 := Lay.get (Y := Y) (es := List.replicate m a) (k := i / Y.sz) (j := i % Y.sz) (by simpa using h1) h2
    have h4 : i / Y.sz * Y.sz + i % Y.sz = i := by rw [Nat.mul_comm]; exact Nat.div_add_mod i Y.sz
    rw [h4, List.getElem_replicate, ← hz] at h3
    rw [h3]
    simp only [madeCells, Array.getElem?_toList, Array.getElem?_map, hzs]
    rw [Array.getElem?_range]
    simp [hi, hzs, h2]
  · rw [List.getElem?_eq_none (by simp [madeCells]; omega), List.getElem?_eq_none (by rw [Lay.length]; simp; omega)]
section
variable {P : Program} {n : Nat} {Q : Post} {ρ : Env} {w : World} {ops : Array Oper} {rest : List Oper} {d : Nat} {t : TypeId} {p : String} {af : Array Edge}
variable {w0 : World} {L : List (Nat × Obj)} {F : List Fact}
/-- make([]T, m) -/
theorem mkR {α : Type} {Y : Lay α} (a : α) (m : Nat) (H : Hp w0 w L F) {T E bytes : Nat} {z : Value} {kx ky : IntKind} {x y : Operand} (hT : sliceB P T E Y.sz = true) (hI : (P.info? E).map (fun i => (i.zero, i.size, i.bytes)) = some (some z, Y.sz, bytes)) (hz1 : z.cells.toList = Y.f a)
    (hx : ev ρ x = .int kx (m : Nat)) (hy : ev ρ y = .int ky (m : Nat)) (hb : bytes * m ≤ 281474976710656) (h63 : m ≤ 9223372036854775807) (hdn : Nat.blt d n = true)
    (h : ∀ w' b cur, Row Y (List.replicate m a) m cur → Hp w0 w' ((b, .cells cur E (0, 0)) :: L) F → LW P n ops rest Q (upd ρ d (.slice (some ⟨b, 0, none⟩) m m)) w') : LW P n ops (O d (.makeSlice T x y) t p af :: rest) Q ρ w := by
  obtain ⟨hu, -, -⟩ := slice_of hT
  obtain ⟨i, hi, hzz⟩ := Option.map_eq_some_iff.1 hI
  simp only [Prod.mk.injEq] at hzz
  obtain ⟨hz, hs, hby⟩ := hzz
  have hb' : (i.bytes : Int) * (m : Int) ≤ 281474976710656 := by
    rw [hby]
    have h : ((bytes * m : Nat) : Int) ≤ 281474976710656 := by omega
    rwa [Int.natCast_mul] at h
  have hr := run_make (P := P) w T E i z hu hi hz kx ky m m (by omega) (Int.le_refl _) hb' (by omega)
  simp only [Int.toNat_natCast, hs] at hr
  have hrow : Row Y (List.replicate m a) m (madeCells z.cells (m * Y.sz)) :=
    ⟨size_madeCells _ _, by rw [all_replicate hz1, List.length_replicate]; exact List.take_of_length_le (by rw [Lay.length]; simp), by simp, h63⟩
  refine lw_val rfl rfl hdn ?_ (h _ _ _ hrow (H.alloc (.cells (madeCells z.cells (m * Y.sz)) E)))
  simp only [execOp, hx, hy, Sem.run_bind, hr]
  rfl
end
theorem xw4 {P : Program} {n : Nat} {Q : Post} {ρ : Env} {w : World} {ops : Array Oper} (i j m q : Nat) {f : Nat} {listed : Array Bool} (hr : (Region.ready .any ops listed == [i, j, m, q]) = true) (hi : (ops[i]?).isSome = true) (hj : (ops[j]?).isSome = true) (hm : (ops[m]?).isSome = true) (hq : (ops[q]?).isSome = true) (h1 : LW P n ops (pick ops [i]) (thn (XW P n ops Q f (listed.setIfInBounds i true)) Q) ρ w) (h2 : LW P n ops (pick ops [j]) (thn (XW P n ops Q f (listed.setIfInBounds j true)) Q) ρ w) (h3 : LW P n ops (pick ops [m]) (thn (XW P n ops Q f (listed.setIfInBounds m true)) Q) ρ w) (h4 : LW P n ops (pick ops [q]) (thn (XW P n ops Q f (listed.setIfInBounds q true)) Q) ρ w) : XW P n ops Q (f + 1) listed ρ w := fun a ha => by
  have hr' : Region.ready .any ops listed = [i, j, m, q] := by simpa using hr
  refine ⟨fun h0 => (by rw [hr'] at h0; cases h0), fun k hk => ?_⟩
  rw [hr'] at hk
  simp only [List.mem_cons, List.mem_nil_iff, or_false] at hk
  rcases hk with rfl | rfl | rfl | rfl
  · exact xw_op hi h1 a ha
  · exact xw_op hj h2 a ha
  · exact xw_op hm h3 a ha
  · exact xw_op hq h4 a ha
/-- a thing that lies in several blocks, from lo to below hi -/
structure Deep (τ : Type) where
  rd : τ → Nat → Nat → World → Prop
  st : ∀ t lo hi w w', (∀ k, lo ≤ k → k < hi → w'.heap[k]? = w.heap[k]?) → rd t lo hi w → rd t lo hi w'
  mono : ∀ t lo hi lo' hi' w, rd t lo hi w → lo' ≤ lo → hi ≤ hi' → rd t lo' hi' w
/-- such a thing of new memory, as a struct within a call's value -/
def Sp.deep {τ : Type} (lo : Nat) (D : Deep τ) (val : τ → Array Value) (g : Array Value → Value) (φ : τ → Prop) : Sp := ⟨fun v w => ∃ t, v = g (val t) ∧ φ t ∧ D.rd t lo w.heap.size w, fun _ _ _ hb ⟨t, h1, h2, h3⟩ => ⟨t, h1, h2, D.mono _ _ _ _ _ _ (D.st _ _ _ _ _ (fun k _ hk => hb.block k hk) h3) (Nat.le_refl _) hb.size⟩⟩
section
variable {P : Program} {n : Nat} {ρ : Env} {ops : Array Oper} {d : Nat} {t : TypeId} {p : String} {af : Array Edge} {g : Option (Nat × Bool)}
variable {C : Fct} {lo pu : List Nat} {spec : Nat → Value → Fct} {T : Env → Fct → Prop} {r : List Nat} {Fc : Fct} {i : Nat} {τ : Type} {D : Deep τ} {val : τ → Array Value} {gv : Array Value → Value} {φ : τ → Prop}
theorem awDeep {lo' : Nat} {f : FuncId} {xs : List Operand} {ats : Array TypeId} {vs : List Value} (hf : callB P f = true) (hi : ops[i]? = some (Og (some d) (.call { callee := .value (.func f), args := xs.toArray, argTypes := ats }) t p af g)) (hw : wantE ops ρ (Og (some d) (.call { callee := .value (.func f), args := xs.toArray, argTypes := ats }) t p af g) = true) (hl : lo.contains i = true) (hdn : Nat.blt d n = true)
    (hs : spec i = (Sp.deep lo' D val gv φ).V) (hC : ∀ w', C w' → lo' ≤ w'.heap.size) (hc : ∀ w', C w' → Ret P f vs w' fun v w2 => ∃ t, v = gv (val t) ∧ φ t ∧ D.rd t w'.heap.size w2.heap.size w2 ∧ Below w'.heap.size w' w2) (hv : xs.map (ev ρ) = vs)
    (h : ∀ cs, AW P n ops C lo pu spec T r (upd ρ d (gv cs)) (fun w => Fc w ∧ (Sp.deep lo' D val gv φ).V (gv cs) w)) : AW P n ops C lo pu spec T (i :: r) ρ Fc :=
  awCal hf hi hw hl hdn (fun w' hw' => (hc w' hw').mono fun v w2 ⟨t, h1, h2, h3, h4⟩ => ⟨h4, by rw [hs]; exact ⟨t, h1, h2, D.mono _ _ _ _ _ _ h3 (hC w' hw') (Nat.le_refl _)⟩⟩) hv fun v ⟨w', _, hv'⟩ => by
    rw [hs] at hv' ⊢
    obtain ⟨t, rfl, _, _⟩ := hv'
    exact h (val t)
end
theorem Hp.alsoF {w0 w w' : World} {L : List (Nat × Obj)} {F F0 : List Fact} (H0 : Hp w0 w L F0) (H : Hp w0 w' L F) (f : Fact) (hf : f.p w') (hlo : w.heap.size ≤ f.lo) (hhi : f.hi ≤ w'.heap.size) : Hp w0 w' L (f :: F) := by
  refine ⟨H.below, H.ents, H.nodup, fun g hg => ?_⟩
  rcases List.mem_cons.1 hg with rfl | hg
  · exact ⟨hf, hhi, fun e he => .inl (by have := H0.ltAll e he; omega)⟩
  · exact H.facts g hg
section
variable {P : Program} {ρ : Env} {w : World} {t : TypeId} {p : String} {af : Array Edge} {g : Option (Nat × Bool)} {dst : Option Nat}
theorem bneq_r {x y : Operand} {ty ty' : TypeId} {a b : Bool} (hT : P.underlying ty = some .bool) (hx : ev ρ x = .bool a) (hy : ev ρ y = .bool b) : (execOp (ev ρ) (Og dst (.binOp .neq ty x y ty') t p af g)).run P w = .ok (.value (.bool (a != b))) w := by
  have key : (Op.equal ty (.bool a) (.bool b)).run P w = .ok (a == b) w := by
    have := run_equalIn_bool' (P := P) w 9999 ty a b hT
    exact this
  simp only [execOp, hx, hy, eqGuard, Sem.run_bind, Sem.run_pure]
  simp [binOp, key, bne]
end
section
variable {P : Program} {ρ : Env} {w : World} {t : TypeId} {p : String} {af : Array Edge} {g : Option (Nat × Bool)} {dst : Option Nat}
theorem beqlC_r {x y : Operand} {ty ty' : TypeId} {a b r : Bool} (hT : P.underlying ty = some .bool) (hx : ev ρ x = .bool a) (hy : ev ρ y = .bool b) (h : (a == b) = r) : (execOp (ev ρ) (Og dst (.binOp .eql ty x y ty') t p af g)).run P w = .ok (.value (.bool r)) w := h ▸ beql_r hT hx hy
theorem bneqC_r {x y : Operand} {ty ty' : TypeId} {a b r : Bool} (hT : P.underlying ty = some .bool) (hx : ev ρ x = .bool a) (hy : ev ρ y = .bool b) (h : (a != b) = r) : (execOp (ev ρ) (Og dst (.binOp .neq ty x y ty') t p af g)).run P w = .ok (.value (.bool r)) w := h ▸ bneq_r hT hx hy
end
end Go.Eng
end
