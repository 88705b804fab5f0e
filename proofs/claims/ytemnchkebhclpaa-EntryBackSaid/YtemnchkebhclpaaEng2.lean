/- Eng2: a part of the proofs over this seat: what stands in its theorems holds for every input that they name. -/
import Derived.Test.YtemnchkebhclpaaEng
import Derived.Lib.AppendStr
import Derived.Laws.BytesArg
namespace Go.Eng
open Go Go.RowKit

/-- a fact on the blocks from lo to below hi -/
structure Fact where
  lo : Nat
  hi : Nat
  p : World → Prop
  st : ∀ w w', (∀ k, lo ≤ k → k < hi → w'.heap[k]? = w.heap[k]?) → p w → p w'

/-- what a call holds: L: the blocks that it has made and may write; F: what is known of other blocks -/
structure Hp (w0 w : World) (L : List (Nat × Obj)) (F : List Fact) : Prop where
  below : Below w0.heap.size w0 w
  ents : ∀ e ∈ L, w.heap[e.1]? = some e.2 ∧ w0.heap.size ≤ e.1
  nodup : (L.map (·.1)).Nodup
  facts : ∀ f ∈ F, f.p w ∧ f.hi ≤ w.heap.size ∧ ∀ e ∈ L, e.1 < f.lo ∨ f.hi ≤ e.1

section
variable {w0 w w' : World} {L : List (Nat × Obj)} {F : List Fact}
theorem lt_of_heap {b : Nat} {o : Obj} (h : w.heap[b]? = some o) : b < w.heap.size := by
  rcases Nat.lt_or_ge b w.heap.size with hl | hg
  · exact hl
  · rw [Array.getElem?_eq_none hg] at h; cases h
theorem Hp.start (w : World) : Hp w w [] [] := ⟨Below.refl _ _, by simp, by simp, by simp⟩
theorem Hp.ent (H : Hp w0 w L F) {i b : Nat} {o : Obj} (h : L[i]? = some (b, o)) : w.heap[b]? = some o := (H.ents _ (List.mem_of_getElem? h)).1
theorem Hp.fact (H : Hp w0 w L F) {i : Nat} {f : Fact} (h : F[i]? = some f) : f.p w := (H.facts _ (List.mem_of_getElem? h)).1
theorem Hp.old (H : Hp w0 w L F) {k : Nat} (hk : k < w0.heap.size) : w.heap[k]? = w0.heap[k]? := H.below.block k hk
theorem Hp.size (H : Hp w0 w L F) : w0.heap.size ≤ w.heap.size := H.below.size
theorem Hp.lt (H : Hp w0 w L F) {i b : Nat} {o : Obj} (h : L[i]? = some (b, o)) : b < w.heap.size := lt_of_heap (H.ent h)
theorem Hp.ge (H : Hp w0 w L F) {i b : Nat} {o : Obj} (h : L[i]? = some (b, o)) : w0.heap.size ≤ b := (H.ents _ (List.mem_of_getElem? h)).2
theorem Hp.ltAll (H : Hp w0 w L F) : ∀ e ∈ L, e.1 < w.heap.size := fun e he => lt_of_heap (H.ents e he).1

/-- whatever leaves what is there as it is -/
theorem Hp.later (H : Hp w0 w L F) (hb : Below w.heap.size w w') : Hp w0 w' L F := by
  refine ⟨H.below.trans (hb.mono H.below.size), fun e he => ?_, H.nodup, fun f hf => ?_⟩
  · obtain ⟨h1, h2⟩ := H.ents e he
    exact ⟨(hb.block _ (lt_of_heap h1)).trans h1, h2⟩
  · obtain ⟨h1, h2, h3⟩ := H.facts f hf
    exact ⟨f.st w w' (fun k _ hk => hb.block k (by omega)) h1, Nat.le_trans h2 hb.size, h3⟩
theorem Hp.drew (H : Hp w0 w L F) : Hp w0 w.drew L F := H.later (Below.refl _ w).drew
/-- a new block -/
theorem Hp.alloc (H : Hp w0 w L F) (o : Obj) : Hp w0 (w.alloc o) ((w.heap.size, o) :: L) F := by
  have h := H.later ((Below.refl w.heap.size w).alloc (Nat.le_refl _) o)
  refine ⟨h.below, fun e he => ?_, ?_, fun f hf => ?_⟩
  · rcases List.mem_cons.1 he with rfl | he
    · exact ⟨heap_alloc_new w o, H.size⟩
    · exact h.ents e he
  · simp only [List.map_cons, List.nodup_cons]
    refine ⟨fun hm => ?_, h.nodup⟩
    obtain ⟨e, he, hee⟩ := List.mem_map.1 hm
    have := H.ltAll e he
    omega
  · obtain ⟨h1, h2, h3⟩ := h.facts f hf
    refine ⟨h1, h2, fun e he => ?_⟩
    rcases List.mem_cons.1 he with rfl | he
    · exact .inr (H.facts f hf).2.1
    · exact h3 e he
/-- one of the call's own blocks is written -/
theorem Hp.put (H : Hp w0 w L F) {i b : Nat} {o o' : Obj} (hi : L[i]? = some (b, o)) (hw : w'.heap[b]? = some o') (hs : w'.heap.size = w.heap.size) (hot : w'.os = w.os) (ht : w'.tape = w.tape) (ho : w'.output = w.output)
    (hk : ∀ k, k ≠ b → w'.heap[k]? = w.heap[k]?) : Hp w0 w' (L.set i (b, o')) F := by
  have hge := H.ge hi
  have hne : ∀ (j : Nat) e, L[j]? = some e → j ≠ i → e.1 ≠ b := fun j e hj hji heq => by
    have hn := H.nodup
    have h1 : (L.map (·.1))[j]? = some b := by simp [hj, heq]
    have h2 : (L.map (·.1))[i]? = some b := by simp [hi]
    have hj' := (List.getElem?_eq_some_iff.1 h1)
    have hi' := (List.getElem?_eq_some_iff.1 h2)
    obtain ⟨l1, e1⟩ := hj'
    obtain ⟨l2, e2⟩ := hi'
    exact hji ((List.getElem_inj hn (i := j) (j := i)).1 (e1.trans e2.symm))
  refine ⟨⟨hot.trans H.below.os, ht.trans H.below.tape, ho.trans H.below.output, by rw [hs]; exact H.below.size, fun k hkk => (hk k (by omega)).trans (H.below.block k hkk)⟩, fun e he => ?_, ?_, fun f hf => ?_⟩
  · obtain ⟨j, hj⟩ := List.mem_iff_getElem?.1 he
    by_cases hji : j = i
    · subst hji
      rw [List.getElem?_set_self (List.getElem?_eq_some_iff.1 hi).1] at hj
      cases hj
      exact ⟨hw, hge⟩
    · rw [List.getElem?_set_ne (Ne.symm hji)] at hj
      obtain ⟨h1, h2⟩ := H.ents e (List.mem_of_getElem? hj)
      exact ⟨(hk _ (hne j e hj hji)).trans h1, h2⟩
  · have : (L.set i (b, o')).map (·.1) = L.map (·.1) := by
      apply List.ext_getElem?
      intro j
      simp only [List.getElem?_map]
      by_cases hji : i = j
      · subst hji
        rw [List.getElem?_set_self (List.getElem?_eq_some_iff.1 hi).1, hi]
        rfl
      · rw [List.getElem?_set_ne hji]
    rw [this]
    exact H.nodup
  · obtain ⟨h1, h2, h3⟩ := H.facts f hf
    have hb := h3 _ (List.mem_of_getElem? hi)
    simp only at hb
    refine ⟨f.st w w' (fun k hk1 hk2 => hk k (by omega)) h1, by rw [hs]; exact h2, fun e he => ?_⟩
    obtain ⟨j, hj⟩ := List.mem_iff_getElem?.1 he
    by_cases hji : j = i
    · subst hji
      rw [List.getElem?_set_self (List.getElem?_eq_some_iff.1 hi).1] at hj
      cases hj
      exact hb
    · rw [List.getElem?_set_ne (Ne.symm hji)] at hj
      exact h3 e (List.mem_of_getElem? hj)
/-- a fact more, behind a call that made memory: of blocks that were not there before it (or of such as were there when our call began) -/
theorem Hp.learn (H : Hp w0 w L F) (hb : Below w.heap.size w w') (f : Fact) (hf : f.p w') (hlo : w.heap.size ≤ f.lo) (hhi : f.hi ≤ w'.heap.size) : Hp w0 w' L (f :: F) := by
  have h := H.later hb
  refine ⟨h.below, h.ents, h.nodup, fun g hg => ?_⟩
  rcases List.mem_cons.1 hg with rfl | hg
  · exact ⟨hf, hhi, fun e he => .inl (by have := H.ltAll e he; omega)⟩
  · exact h.facts g hg
theorem Hp.learnOld (H : Hp w0 w L F) (f : Fact) (hf : f.p w) (hhi : f.hi ≤ w0.heap.size) : Hp w0 w L (f :: F) := by
  refine ⟨H.below, H.ents, H.nodup, fun g hg => ?_⟩
  rcases List.mem_cons.1 hg with rfl | hg
  · exact ⟨hf, Nat.le_trans hhi H.size, fun e he => .inr (by have := (H.ents e he).2; omega)⟩
  · exact H.facts g hg
/-- fresh blocks of a call become the call's own -/
theorem Hp.adopt (H : Hp w0 w L F) {b : Nat} {o : Obj} (hb : w.heap[b]? = some o) (hge : w0.heap.size ≤ b) (hl : ∀ e ∈ L, e.1 ≠ b) (hF : ∀ f ∈ F, b < f.lo ∨ f.hi ≤ b) : Hp w0 w ((b, o) :: L) F := by
  refine ⟨H.below, fun e he => ?_, ?_, fun f hf => ?_⟩
  · rcases List.mem_cons.1 he with rfl | he
    · exact ⟨hb, hge⟩
    · exact H.ents e he
  · simp only [List.map_cons, List.nodup_cons]
    exact ⟨fun hm => by obtain ⟨e, he, hee⟩ := List.mem_map.1 hm; exact hl e he hee, H.nodup⟩
  · obtain ⟨h1, h2, h3⟩ := H.facts f hf
    refine ⟨h1, h2, fun e he => ?_⟩
    rcases List.mem_cons.1 he with rfl | he
    · exact hF f hf
    · exact h3 e he
theorem Hp.forget (H : Hp w0 w L F) {L' : List (Nat × Obj)} {F' : List Fact} (hL : L'.Sublist L) (hF : ∀ f ∈ F', f ∈ F) : Hp w0 w L' F' :=
  ⟨H.below, fun e he => H.ents e (hL.subset he), H.nodup.sublist (hL.map _), fun f hf => by
    obtain ⟨h1, h2, h3⟩ := H.facts f (hF f hf)
    exact ⟨h1, h2, fun e he => h3 e (hL.subset he)⟩⟩

theorem cellE {b j : Nat} {cs : Array Value} {T : TypeId} {fr : Nat × Nat} {v : Value} (h : w.heap[b]? = some (.cells cs T fr)) (hj : cs[j]? = some v) : w.cell? ⟨b, j, none⟩ = some v := by
  simp [World.cell?, h, hj]
theorem frozenE {b j : Nat} {cs : Array Value} {T : TypeId} (h : w.heap[b]? = some (.cells cs T (0, 0))) : w.frozen? ⟨b, j, none⟩ = false := by
  simp [World.frozen?, h]
end
end Go.Eng
