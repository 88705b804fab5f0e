/- Q6: a part of the proofs over this seat: what stands in its theorems holds for every input that they name. -/
import Derived.Test.YtemnchkebhclpaaGQ
namespace Go.Proofs.Ytemnchkebhclpaa
open Go Go.Eng Go.RowKit
set_option linter.unusedSimpArgs false
set_option linter.unusedVariables false
theorem plain_stab {es : List Ent} (h : ∀ e ∈ es, Plain e) {st : Nat} (hs : isStab es st) : st = es.length := by
  rcases hs.2.2 with h1 | ⟨pid, e, h1, h2, h3, h4⟩
  · exact h1
  · have := (h e (List.mem_of_getElem? h1)).2.2
    rw [h3] at this; cases this
theorem plain_texts {es : List Ent} (h : ∀ e ∈ es, Plain e) (n : Nat) : ∀ b, b ≤ es.length → texts es n 0 b = (es.take b).map Ent.text
  | 0, _ => by simp [texts]
  | b + 1, hb => by
    obtain ⟨e, he⟩ : ∃ e, es[b]? = some e := ⟨_, List.getElem?_eq_getElem (by omega)⟩
    have hp := h e (List.mem_of_getElem? he)
    rw [texts_succ (Nat.zero_le b), plain_texts h n b (by omega), take_snoc he, List.map_append]
    congr 1
    unfold visL
    rw [he]
    dsimp only
    rw [if_pos ⟨hp.2.1, by unfold keptE; rw [hp.2.2]; rfl⟩]
    rfl
/-- what is read of a part whose entries are nobody's -/
theorem plain_read {K : List Ent} {m n : Nat} {few : Int} {p : PaA} (h : Gd Plain K m n few p) {l : Nat} {y : RA} (hy : p.reps[l]? = some y) {st b : Nat} {out : List ByteArray} (hs : isStab (y.es.take y.high.toNat) st) (hr : ReadS y.es y.high.toNat st 0 20 out b) : out = (K.map Ent.text).take out.length := by
  have hk := h.ok.at_ hy
  have h0 := hk.high0
  have h1 := hk.high1
  have hpl : ∀ e ∈ y.es, Plain e := h.ents l y hy
  obtain ⟨hh1, hh2⟩ := h.inv.hi l y hy
  have hst := plain_stab (fun e he => hpl e (List.take_subset _ _ he)) hs
  rw [List.length_take] at hst
  obtain ⟨r1, r2, r3, r4, r5⟩ := hr
  have hb : b ≤ y.high.toNat := by rcases r2 with r2 | r2 <;> omega
  rw [plain_texts hpl _ b (by omega)] at r3
  have hlen : out.length = b := by rw [r3, List.length_map, List.length_take]; omega
  rw [hlen, r3, ← List.map_take, take_min hh2 hb]
theorem reads_law {K K' : List Ent} (hK : K <+: K') {a b : List ByteArray} (ha : a = (K.map Ent.text).take a.length) (hb : b = (K'.map Ent.text).take b.length) : (b.length ≤ a.length → a.take b.length = b) ∧ (a.length ≤ b.length → b.take a.length = a) := by
  have hpre : (K.map Ent.text) <+: (K'.map Ent.text) := hK.map _
  have hal : a.length ≤ (K.map Ent.text).length := by have := congrArg List.length ha; rw [List.length_take] at this; omega
  have ha2 : a = (K'.map Ent.text).take a.length := by
    obtain ⟨t, ht⟩ := hpre
    rw [← ht, List.take_append_of_le_length hal]; exact ha
  refine ⟨fun h => ?_, fun h => ?_⟩
  · rw [ha2, List.take_take, Nat.min_eq_left h, ← hb]
  · rw [hb, List.take_take, Nat.min_eq_left h, ← ha2]
end Go.Proofs.Ytemnchkebhclpaa
