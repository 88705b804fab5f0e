/- GQ: a part of the proofs over this seat: what stands in its theorems holds for every input that they name. -/
import Derived.Test.YtemnchkebhclpaaGK
section
namespace Go.Proofs.Ytemnchkebhclpaa
open Go Go.Eng Go.RowKit
set_option linter.unusedSimpArgs false
set_option linter.unusedVariables false
theorem GL.of {es : List Ent} {s : Nat} (hg : ∀ e ∈ es, Good e) (hl : es.length ≤ 400) (hs : s ≤ es.length) : GL es s := by
  have := flat_le es hg
  exact ⟨hg, hl, by omega, hs⟩
def PaA.small (m : Nat) (p : PaA) : Prop := ∀ r ∈ p.reps, r.es.length ≤ m
theorem PaA.ok.at_ {p : PaA} (h : p.ok) {i : Nat} {x : RA} (hx : p.reps[i]? = some x) : x.ok := h.reps x (List.mem_of_getElem? hx)
theorem ok_reps {p : PaA} (h : p.ok) {rs : List RA} (hl : rs.length = p.reps.length) (hr : ∀ r ∈ rs, r.ok) (hu : ∀ (l : Nat) (r : RA), p.leader = l → rs[l]? = some r → r.up = true) : ({ p with reps := rs } : PaA).ok :=
  ⟨by dsimp only; rw [hl]; exact h.n1, by dsimp only; rw [hl]; exact h.n2, by dsimp only; rw [hl]; exact h.isrl, by dsimp only; rw [hl]; exact h.knownl, h.few1, by dsimp only; rw [hl]; exact h.few2, h.ep0, h.ep1, h.ld0, by dsimp only; rw [hl]; exact h.ld1, h.base0, h.base1, h.some_,
    fun l r h1 h2 => by
      have hlt := (List.getElem?_eq_some_iff.1 h2).1
      dsimp only at hlt h1 h2
      obtain ⟨y, hy⟩ : ∃ y, p.reps[l]? = some y := ⟨_, List.getElem?_eq_getElem (by omega)⟩
      exact ⟨(h.lead l y h1 hy).1, hu l r h1 h2⟩, hr, h.known⟩
theorem ok_set {p : PaA} (h : p.ok) {i : Nat} {x x' : RA} (hx : p.reps[i]? = some x) (hk : x'.ok) (hu : x'.up = x.up) : ({ p with reps := p.reps.set i x' } : PaA).ok :=
  ok_reps h (List.length_set ..) (fun r hr => by
    rcases List.mem_or_eq_of_mem_set hr with hr | rfl
    · exact h.reps r hr
    · exact hk) (fun l r h1 h2 => by
    by_cases hi : i = l
    · subst hi
      rw [List.getElem?_set_self (getE hx).1] at h2
      cases h2
      rw [hu]; exact (h.lead i x h1 hx).2
    · rw [List.getElem?_set_ne hi] at h2
      exact (h.lead l r h1 h2).2)
theorem ok_known {p : PaA} (h : p.ok) {kn : List Int} (hl : kn.length = p.known.length) (hb : ∀ n ∈ kn, 0 ≤ n ∧ n ≤ 400) : ({ p with known := kn } : PaA).ok :=
  ⟨h.n1, h.n2, h.isrl, by dsimp only; rw [hl]; exact h.knownl, h.few1, h.few2, h.ep0, h.ep1, h.ld0, h.ld1, h.base0, h.base1, h.some_, h.lead, h.reps, hb⟩
theorem ok_setK {p : PaA} (h : p.ok) (r : Nat) {v : Int} (h1 : 0 ≤ v) (h2 : v ≤ 400) : ({ p with known := p.known.set r v } : PaA).ok :=
  ok_known h (List.length_set ..) fun n hn => by
    rcases List.mem_or_eq_of_mem_set hn with hn | rfl
    · exact h.known n hn
    · exact ⟨h1, h2⟩
theorem ok_isr {p : PaA} (h : p.ok) {is : List Bool} (hl : is.length = p.isr.length) (hs : true ∈ is) (hd : ∀ l : Nat, p.leader = l → is[l]? = some true) : ({ p with isr := is } : PaA).ok :=
  ⟨h.n1, h.n2, by dsimp only; rw [hl]; exact h.isrl, h.knownl, h.few1, h.few2, h.ep0, h.ep1, h.ld0, h.ld1, h.base0, h.base1, hs, fun l r h1 h2 => ⟨hd l h1, (h.lead l r h1 h2).2⟩, h.reps, h.known⟩
theorem ok_none {p : PaA} (h : p.ok) : ({ p with leader := -1 } : PaA).ok :=
  ⟨h.n1, h.n2, h.isrl, h.knownl, h.few1, h.few2, h.ep0, h.ep1, by dsimp only; omega, by have := h.n1; dsimp only; omega, h.base0, h.base1, h.some_, fun l r h1 h2 => by dsimp only at h1; omega, h.reps, h.known⟩
theorem ok_lead {p : PaA} (h : p.ok) {r : Nat} {x : RA} {b : Int} (hx : p.reps[r]? = some x) (hu : x.up = true) (hi : p.isr[r]? = some true) (he : p.epoch ≠ 1073741824) (hb0 : 0 ≤ b) (hb1 : b ≤ 400) : ({ p with epoch := p.epoch + 1, leader := r, base := b } : PaA).ok :=
  ⟨h.n1, h.n2, h.isrl, h.knownl, h.few1, h.few2, by have := h.ep0; dsimp only; omega, by have := h.ep1; dsimp only; omega, by dsimp only; omega, by have := (getE hx).1; dsimp only; omega, hb0, hb1, h.some_, fun l y h1 h2 => by
    dsimp only at h1 h2
    have : l = r := by omega
    subst this
    rw [hx] at h2; cases h2
    exact ⟨hi, hu⟩, h.reps, h.known⟩
theorem ok_adv {p : PaA} (h : p.ok) : (advA p).ok := by
  unfold advA
  split
  · rename_i x hx
    split
    · exact h
    · have hk := h.at_ hx
      have := hk.high0
      have := hk.high1
      exact ok_set h hx ⟨hk.gl, by dsimp only; omega, by dsimp only; omega⟩ rfl
  · exact h
/-! how each operation goes well -/
theorem sync_inv {p : PaA} {r : Nat} (he : (syncA p r).2 = 0) : ∃ x, p.reps[r]? = some x ∧ x.up = true ∧ (syncA p r).1 = if p.leader = r then advA { p with reps := p.reps.set r { x with s := x.es.length }, known := p.known.set r x.es.length } else { p with reps := p.reps.set r { x with s := x.es.length } } := by
  unfold syncA at he ⊢
  cases hx : p.reps[r]? with
  | none => rw [hx] at he; simp at he
  | some x =>
    rw [hx] at he
    dsimp only at he ⊢
    by_cases hu : x.up = false
    · rw [if_pos hu] at he; simp at he
    · rw [if_neg hu]
      exact ⟨x, rfl, by simpa using hu, by split <;> rfl⟩
theorem rise_inv {p : PaA} {r : Nat} (he : (riseA p r).2 = 0) : ∃ x, p.reps[r]? = some x ∧ x.up = false ∧ (riseA p r).1 = { p with reps := p.reps.set r { x with up := true } } := by
  unfold riseA at he ⊢
  cases hx : p.reps[r]? with
  | none => rw [hx] at he; simp at he
  | some x =>
    rw [hx] at he
    dsimp only at he ⊢
    by_cases hu : x.up = true
    · rw [if_pos hu] at he; simp at he
    · rw [if_neg hu]
      exact ⟨x, rfl, by simpa using hu, rfl⟩
theorem crash_inv {p : PaA} {r keep : Nat} (he : (crashA p r keep).2 = 0) : ∃ x, p.reps[r]? = some x ∧ x.up = true ∧ (crashA p r keep).1 = { p with reps := p.reps.set r { up := false, es := x.es.take (crashN x.es x.s keep), s := crashN x.es x.s keep, high := min x.high (((x.es.take (crashN x.es x.s keep)).length : Nat) : Int) }, known := p.known.set r 0, leader := if p.leader = r then -1 else p.leader } := by
  unfold crashA at he ⊢
  cases hx : p.reps[r]? with
  | none => rw [hx] at he; simp at he
  | some x =>
    rw [hx] at he
    dsimp only at he ⊢
    by_cases hu : x.up = false
    · rw [if_pos hu] at he; simp at he
    · rw [if_neg hu]
      exact ⟨x, rfl, by simpa using hu, rfl⟩
theorem wipe_inv {p : PaA} {r : Nat} (he : (wipeA p r).2 = 0) : ∃ x, p.reps[r]? = some x ∧ x.up = false ∧ true ∈ p.isr.set r false ∧ (wipeA p r).1 = { p with reps := p.reps.set r ⟨false, [], 0, 0⟩, known := p.known.set r 0, isr := p.isr.set r false } := by
  unfold wipeA at he ⊢
  cases hx : p.reps[r]? with
  | none => rw [hx] at he; simp at he
  | some x =>
    rw [hx] at he
    dsimp only at he ⊢
    by_cases hu : x.up = true
    · rw [if_pos hu] at he; simp at he
    · rw [if_neg hu] at he ⊢
      by_cases ht : true ∉ p.isr.set r false
      · rw [if_pos ht] at he; simp at he
      · rw [if_neg ht]
        exact ⟨x, rfl, by simpa using hu, by simpa using ht, rfl⟩
theorem elect_inv {p : PaA} {r : Nat} (hil : p.isr.length = p.reps.length) (he : (electA p r).2 = 0) : ∃ x, p.reps[r]? = some x ∧ x.up = true ∧ p.isr[r]? = some true ∧ p.leader ≠ r ∧ p.epoch ≠ 1073741824 ∧ (electA p r).1 = advA { p with epoch := p.epoch + 1, leader := r, known := (List.replicate p.reps.length 0).set r x.s, base := x.es.length } := by
  unfold electA at he ⊢
  cases hx : p.reps[r]? with
  | none => rw [hx] at he; simp at he
  | some x =>
    rw [hx] at he
    dsimp only at he ⊢
    by_cases hu : x.up = false
    · rw [if_pos hu] at he; simp at he
    rw [if_neg hu] at he ⊢
    by_cases hi : p.isr[r]? = some false
    · rw [if_pos hi] at he; simp at he
    rw [if_neg hi] at he ⊢
    by_cases hl : p.leader = r
    · rw [if_pos hl] at he; simp at he
    rw [if_neg hl] at he ⊢
    by_cases hp : p.epoch = 1073741824
    · rw [if_pos hp] at he; simp at he
    rw [if_neg hp]
    obtain ⟨b, hb⟩ : ∃ b, p.isr[r]? = some b := ⟨_, List.getElem?_eq_getElem (by have := (getE hx).1; omega)⟩
    refine ⟨x, rfl, by simpa using hu, ?_, hl, hp, rfl⟩
    rw [hb] at hi ⊢
    cases b
    · exact absurd rfl hi
    · rfl
theorem shrink_inv {p : PaA} {r : Nat} (he : (shrinkA p r).2 = 0) : 0 ≤ p.leader ∧ p.leader ≠ r ∧ (shrinkA p r).1 = advA { p with isr := p.isr.set r false } := by
  unfold shrinkA at he ⊢
  by_cases h1 : p.leader < 0 ∨ p.leader = r
  · rw [if_pos h1] at he; simp at he
  rw [if_neg h1] at he ⊢
  by_cases h2 : p.isr[r]? = some false
  · rw [if_pos h2] at he; simp at he
  rw [if_neg h2]
  exact ⟨by omega, by omega, rfl⟩
theorem expand_inv {p : PaA} {r : Nat} (he : (expandA p r).2 = 0) : ∃ x, p.reps[r]? = some x ∧ 0 ≤ p.leader ∧ p.leader ≠ r ∧ x.up = true ∧ max p.base (highOf p) ≤ p.known.getD r 0 ∧ (expandA p r).1 = { p with isr := p.isr.set r true } := by
  unfold expandA at he ⊢
  by_cases h1 : p.leader < 0 ∨ p.leader = r
  · rw [if_pos h1] at he; simp at he
  rw [if_neg h1] at he ⊢
  by_cases h2 : p.isr[r]? = some true
  · rw [if_pos h2] at he; simp at he
  rw [if_neg h2] at he ⊢
  cases hx : p.reps[r]? with
  | none => rw [hx] at he; simp at he
  | some x =>
    rw [hx] at he
    dsimp only at he ⊢
    by_cases hu : x.up = false
    · rw [if_pos hu] at he; simp at he
    rw [if_neg hu] at he ⊢
    by_cases hk : p.known.getD r 0 < max p.base (highOf p)
    · rw [if_pos hk] at he; simp at he
    rw [if_neg hk]
    exact ⟨x, rfl, by omega, by omega, by simpa using hu, by omega, rfl⟩
theorem fetch_inv {p : PaA} {r : Nat} (h : p.ok) (he : (fetchA p r).2.2 = 0) : ∃ (x y : RA) (l : Nat), p.reps[r]? = some x ∧ p.leader = l ∧ r ≠ l ∧ x.up = true ∧ p.reps[l]? = some y := by
  unfold fetchA at he
  cases hx : p.reps[r]? with
  | none => rw [hx] at he; simp at he
  | some x =>
    rw [hx] at he
    dsimp only at he
    by_cases h1 : p.leader < 0 ∨ p.leader = r
    · rw [if_pos h1] at he; simp at he
    rw [if_neg h1] at he
    by_cases hu : x.up = false
    · rw [if_pos hu] at he; simp at he
    have h2 := h.ld1
    exact ⟨x, p.reps[p.leader.toNat]'(by omega), p.leader.toNat, rfl, by omega, by omega, by simpa using hu, List.getElem?_eq_getElem (by omega)⟩
theorem put_inv {p : PaA} {e : Ent} (he : (putA p e).2.2 = 0) : ∃ (x : RA) (l : Nat), p.leader = l ∧ p.reps[l]? = some x ∧ Good { e with epoch := p.epoch } ∧ (vchk x.es { e with epoch := p.epoch }).2 = 0 ∧
    ((0 ≤ (vchk x.es { e with epoch := p.epoch }).1 ∧ (putA p e).1 = p ∧ (putA p e).2.1 = (vchk x.es { e with epoch := p.epoch }).1) ∨ ((vchk x.es { e with epoch := p.epoch }).1 < 0 ∧ p.few ≤ upA p.isr p.reps 0 ∧ (putA p e).1 = { p with reps := p.reps.set l { x with es := x.es ++ [{ e with epoch := p.epoch }] } } ∧ (putA p e).2.1 = x.es.length)) := by
  unfold putA at he ⊢
  by_cases h1 : p.leader < 0
  · rw [if_pos h1] at he; simp at he
  rw [if_neg h1] at he ⊢
  cases hx : p.reps[p.leader.toNat]? with
  | none => rw [hx] at he; simp at he
  | some x =>
    rw [hx] at he
    dsimp only at he ⊢
    by_cases h2 : entCheck { e with epoch := p.epoch } ≠ 0
    · rw [if_pos h2] at he; exact absurd he h2
    rw [if_neg h2] at he ⊢
    by_cases h3 : (vchk x.es { e with epoch := p.epoch }).2 ≠ 0
    · rw [if_pos h3] at he; exact absurd he h3
    rw [if_neg h3] at he ⊢
    refine ⟨x, p.leader.toNat, by omega, hx, by unfold Good; simpa using h2, by simpa using h3, ?_⟩
    by_cases h4 : 0 ≤ (vchk x.es { e with epoch := p.epoch }).1
    · rw [if_pos h4]
      exact .inl ⟨h4, rfl, rfl⟩
    rw [if_neg h4] at he ⊢
    by_cases h5 : upA p.isr p.reps 0 < p.few
    · rw [if_pos h5] at he; simp at he
    rw [if_neg h5]
    exact .inr ⟨by omega, by omega, rfl, rfl⟩
end Go.Proofs.Ytemnchkebhclpaa
end

section
namespace Go.Proofs.Ytemnchkebhclpaa
open Go Go.Eng Go.RowKit
set_option linter.unusedSimpArgs false
set_option linter.unusedVariables false
theorem set_get {α : Type} {l : List α} {r : Nat} {x' : α} {i : Nat} {y : α} (h : (l.set r x')[i]? = some y) : (i = r ∧ y = x') ∨ (i ≠ r ∧ l[i]? = some y) := by
  by_cases hi : r = i
  · subst hi
    have hl := (List.getElem?_eq_some_iff.1 h).1
    rw [List.length_set] at hl
    rw [List.getElem?_set_self hl] at h
    cases h
    exact .inl ⟨rfl, rfl⟩
  · rw [List.getElem?_set_ne hi] at h
    exact .inr ⟨fun h => hi h.symm, h⟩
/-- what holds of all replicas of a part, K being what was ever kept by all -/
structure Inv (K : List Ent) (p : PaA) : Prop where
  ep : ∀ (i : Nat) (x : RA), p.reps[i]? = some x → ∀ e ∈ x.es, e.epoch ≤ p.epoch
  lm : ∀ (i j : Nat) (x y : RA) (n : Nat) (e f : Ent), p.reps[i]? = some x → p.reps[j]? = some y → x.es[n]? = some e → y.es[n]? = some f → e.epoch = f.epoch → x.es.take (n + 1) = y.es.take (n + 1)
  cur : ∀ (l : Nat) (y : RA) (i : Nat) (x : RA) (n : Nat) (e : Ent), p.leader = l → p.reps[l]? = some y → p.reps[i]? = some x → x.es[n]? = some e → e.epoch = p.epoch → n < y.es.length
  hi : ∀ (i : Nat) (x : RA), p.reps[i]? = some x → x.high.toNat ≤ K.length ∧ x.es.take x.high.toNat = K.take x.high.toNat
  keep : ∀ (i : Nat) (x : RA), p.reps[i]? = some x → p.isr[i]? = some true → K.length ≤ x.s ∧ x.es.take K.length = K
  kn : ∀ (l : Nat) (y : RA) (i : Nat) (x : RA) (v : Int), p.leader = l → p.reps[l]? = some y → p.reps[i]? = some x → p.known[i]? = some v → v.toNat ≤ x.s ∧ v.toNat ≤ y.es.length ∧ x.es.take v.toNat = y.es.take v.toNat
  base : ∀ (l : Nat) (y : RA), p.leader = l → p.reps[l]? = some y → (K.length : Int) ≤ max p.base y.high
/-- one replica becomes another one -/
theorem Inv.set {K : List Ent} {p : PaA} (h : Inv K p) {r : Nat} {x x' : RA} (hx : p.reps[r]? = some x)
    (c_ep : ∀ e ∈ x'.es, e.epoch ≤ p.epoch)
    (c_lm : ∀ (j : Nat) (y : RA) (n : Nat) (e f : Ent), j ≠ r → p.reps[j]? = some y → x'.es[n]? = some e → y.es[n]? = some f → e.epoch = f.epoch → x'.es.take (n + 1) = y.es.take (n + 1))
    (c_cur1 : ∀ (l : Nat) (y : RA) (n : Nat) (e : Ent), p.leader = l → l ≠ r → p.reps[l]? = some y → x'.es[n]? = some e → e.epoch = p.epoch → n < y.es.length)
    (c_cur2 : p.leader = r → x.es.length ≤ x'.es.length)
    (c_hi : x'.high.toNat ≤ K.length ∧ x'.es.take x'.high.toNat = K.take x'.high.toNat)
    (c_keep : p.isr[r]? = some true → K.length ≤ x'.s ∧ x'.es.take K.length = K)
    (c_kn1 : ∀ (l : Nat) (y : RA) (v : Int), p.leader = l → l ≠ r → p.reps[l]? = some y → p.known[r]? = some v → v.toNat ≤ x'.s ∧ v.toNat ≤ y.es.length ∧ x'.es.take v.toNat = y.es.take v.toNat)
    (c_kn2 : p.leader = r → ∀ (i : Nat) (z : RA) (v : Int), i ≠ r → p.reps[i]? = some z → p.known[i]? = some v → v.toNat ≤ x'.es.length ∧ z.es.take v.toNat = x'.es.take v.toNat)
    (c_kn3 : p.leader = r → ∀ v : Int, p.known[r]? = some v → v.toNat ≤ x'.s ∧ v.toNat ≤ x'.es.length)
    (c_base : p.leader = r → (K.length : Int) ≤ max p.base x'.high) : Inv K { p with reps := p.reps.set r x' } := by
  refine ⟨fun i y hy e he => ?_, fun i j y z n e f hy hz he hf hef => ?_, fun l y i z n e hl hy hz he hee => ?_, fun i y hy => ?_, fun i y hy hi => ?_, fun l y i z v hl hy hz hv => ?_, fun l y hl hy => ?_⟩
  · rcases set_get hy with ⟨rfl, rfl⟩ | ⟨_, hy2⟩
    · exact c_ep e he
    · exact h.ep i y hy2 e he
  · rcases set_get hy with ⟨rfl, rfl⟩ | ⟨hi, hy2⟩
    · rcases set_get hz with ⟨rfl, rfl⟩ | ⟨hj, hz2⟩
      · rfl
      · exact c_lm j z n e f hj hz2 he hf hef
    · rcases set_get hz with ⟨rfl, rfl⟩ | ⟨hj, hz2⟩
      · exact (c_lm i y n f e hi hy2 hf he hef.symm).symm
      · exact h.lm i j y z n e f hy2 hz2 he hf hef
  · rcases set_get hy with ⟨rfl, rfl⟩ | ⟨hlr, hy2⟩
    · rcases set_get hz with ⟨rfl, rfl⟩ | ⟨hir, hz2⟩
      · exact (getE he).1
      · exact Nat.lt_of_lt_of_le (h.cur l x i z n e hl hx hz2 he hee) (c_cur2 hl)
    · rcases set_get hz with ⟨rfl, rfl⟩ | ⟨hir, hz2⟩
      · exact c_cur1 l y n e hl hlr hy2 he hee
      · exact h.cur l y i z n e hl hy2 hz2 he hee
  · rcases set_get hy with ⟨rfl, rfl⟩ | ⟨_, hy2⟩
    · exact c_hi
    · exact h.hi i y hy2
  · rcases set_get hy with ⟨rfl, rfl⟩ | ⟨_, hy2⟩
    · exact c_keep hi
    · exact h.keep i y hy2 hi
  · rcases set_get hy with ⟨rfl, rfl⟩ | ⟨hlr, hy2⟩
    · rcases set_get hz with ⟨rfl, rfl⟩ | ⟨hir, hz2⟩
      · obtain ⟨h1, h2⟩ := c_kn3 hl v hv
        exact ⟨h1, h2, rfl⟩
      · have h1 := c_kn2 hl i z v hir hz2 hv
        exact ⟨(h.kn l x i z v hl hx hz2 hv).1, h1⟩
    · rcases set_get hz with ⟨rfl, rfl⟩ | ⟨hir, hz2⟩
      · exact c_kn1 l y v hl hlr hy2 hv
      · exact h.kn l y i z v hl hy2 hz2 hv
  · rcases set_get hy with ⟨rfl, rfl⟩ | ⟨_, hy2⟩
    · exact c_base hl
    · exact h.base l y hl hy2
theorem Inv.setK {K : List Ent} {p : PaA} (h : Inv K p) {r : Nat} {w : Int} (hw : ∀ (l : Nat) (y x : RA), p.leader = l → p.reps[l]? = some y → p.reps[r]? = some x → w.toNat ≤ x.s ∧ w.toNat ≤ y.es.length ∧ x.es.take w.toNat = y.es.take w.toNat) : Inv K { p with known := p.known.set r w } :=
  ⟨h.ep, h.lm, h.cur, h.hi, h.keep, fun l y i x v hl hy hx hv => by
    rcases set_get hv with ⟨rfl, rfl⟩ | ⟨_, hv⟩
    · exact hw l y x hl hy hx
    · exact h.kn l y i x v hl hy hx hv, h.base⟩
theorem Inv.setK0 {K : List Ent} {p : PaA} (h : Inv K p) (r : Nat) : Inv K { p with known := p.known.set r 0 } := h.setK fun _ _ _ _ _ _ => by simp
theorem Inv.none {K : List Ent} {p : PaA} (h : Inv K p) : Inv K { p with leader := -1 } :=
  ⟨h.ep, h.lm, fun l y i x n e hl => by dsimp only at hl; omega, h.hi, h.keep, fun l y i x v hl => by dsimp only at hl; omega, fun l y hl => by dsimp only at hl; omega⟩
theorem Inv.isrF {K : List Ent} {p : PaA} (h : Inv K p) (r : Nat) : Inv K { p with isr := p.isr.set r false } :=
  ⟨h.ep, h.lm, h.cur, h.hi, fun i x hx hi => by
    rcases set_get hi with ⟨_, h0⟩ | ⟨_, hi⟩
    · cases h0
    · exact h.keep i x hx hi, h.kn, h.base⟩
theorem Inv.rebase {K : List Ent} {p : PaA} (h : Inv K p) {b : Int} (hb : ∀ (l : Nat) (y : RA), p.leader = l → p.reps[l]? = some y → (K.length : Int) ≤ max b y.high) : Inv K { p with base := b } :=
  ⟨h.ep, h.lm, h.cur, h.hi, h.keep, h.kn, hb⟩
theorem least_le : ∀ (isr : List Bool) (kn : List Int) (m : Int), leastA isr kn m ≤ m ∧ ∀ (i : Nat) (v : Int), isr[i]? = some true → kn[i]? = some v → leastA isr kn m ≤ v
  | [], _, m => by simp [leastA]
  | _ :: _, [], m => by simp [leastA]
  | b :: bs, n :: ns, m => by
    obtain ⟨h1, h2⟩ := least_le bs ns (if b then min m n else m)
    refine ⟨by unfold leastA; split at h1 <;> split <;> first | omega | simp_all, fun i v hi hv => ?_⟩
    unfold leastA
    cases i with
    | zero =>
      simp at hi hv
      subst hi; subst hv
      simp at h1 ⊢
      omega
    | succ i => exact h2 i v (by simpa using hi) (by simpa using hv)
theorem take_min {α : Type} {a b : List α} {n m : Nat} (h : a.take m = b.take m) (hn : n ≤ m) : a.take n = b.take n := by
  have := congrArg (List.take n) h
  rwa [List.take_take, List.take_take, Nat.min_eq_left hn] at this
theorem Inv.adv {K : List Ent} {p : PaA} (h : Inv K p) (hok : p.ok) : ∃ K', K <+: K' ∧ Inv K' (advA p) := by
  by_cases hneg : p.leader < 0
  · have : advA p = p := by
      unfold advA
      split
      · rw [if_pos hneg]
      · rfl
    rw [this]
    exact ⟨K, List.prefix_refl K, h⟩
  obtain ⟨l, hl⟩ : ∃ l : Nat, p.leader = l := ⟨p.leader.toNat, by omega⟩
  obtain ⟨y, hy⟩ : ∃ y, p.reps[l]? = some y := ⟨_, List.getElem?_eq_getElem (by have := hok.ld1; omega)⟩
  rw [advA_at hl hy]
  obtain ⟨hisr, hup⟩ := hok.lead l y hl hy
  obtain ⟨hkp1, hkp2⟩ := h.keep l y hy hisr
  have hyok := hok.at_ hy
  have hys := hyok.gl.sle
  have hy0 := hyok.high0
  obtain ⟨hh1, hh2⟩ := h.hi l y hy
  generalize hH : max y.high (min (leastA p.isr p.known 400) y.es.length) = H
  by_cases hle : H.toNat ≤ K.length
  · refine ⟨K, List.prefix_refl K, h.set hy (h.ep l y hy) (fun j z n e f hj hz he hf hef => h.lm l j y z n e f hy hz he hf hef) (fun l' y' n e h1 h2 => absurd (by omega) h2) (fun _ => Nat.le_refl _) ⟨hle, ?_⟩ (fun hi => h.keep l y hy hi) (fun l' y' v h1 h2 => absurd (by omega) h2) (fun _ i z v _ hz hv => (h.kn l y i z v hl hy hz hv).2) (fun _ v hv => ⟨(h.kn l y l y v hl hy hy hv).1, (h.kn l y l y v hl hy hy hv).2.1⟩) (fun _ => ?_)⟩
    · have := congrArg (List.take H.toNat) hkp2
      rwa [List.take_take, Nat.min_eq_left hle] at this
    · have := h.base l y hl hy; dsimp only; omega
  · have hHm : H = min (leastA p.isr p.known 400) y.es.length := by omega
    have hHl : H.toNat ≤ y.es.length := by omega
    have hlen : (y.es.take H.toNat).length = H.toNat := by rw [List.length_take]; omega
    have hKy : K = (y.es.take H.toNat).take K.length := by rw [List.take_take, Nat.min_eq_left (by omega)]; exact hkp2.symm
    have hpre : K <+: y.es.take H.toNat := by rw [hKy]; exact List.take_prefix _ _
    have hKt : ∀ n, n ≤ K.length → K.take n = (y.es.take H.toNat).take n := fun n hn => by
      have := congrArg (List.take n) hkp2
      rw [List.take_take, Nat.min_eq_left hn] at this
      rw [← this, List.take_take, Nat.min_eq_left (by omega)]
    have hG : Inv (y.es.take H.toNat) { p with base := H } := by
      refine ⟨h.ep, h.lm, h.cur, fun i x hx => ?_, fun i x hx hi => ?_, h.kn, fun l' y' hl' hy' => by dsimp only; omega⟩
      · obtain ⟨h1, h2⟩ := h.hi i x hx
        exact ⟨by omega, by rw [h2]; exact hKt _ h1⟩
      · obtain ⟨v, hv⟩ : ∃ v, p.known[i]? = some v := ⟨_, List.getElem?_eq_getElem (by have := (getE hx).1; have := hok.knownl; dsimp only at *; omega)⟩
        have h1 := (least_le p.isr p.known 400).2 i v hi hv
        obtain ⟨h2, h3, h4⟩ := h.kn l y i x v hl hy hx hv
        refine ⟨by rw [hlen]; omega, ?_⟩
        rw [hlen]
        exact take_min h4 (by omega)
    have hS := hG.set (x' := { y with high := H }) hy (h.ep l y hy) (fun j z n e f hj hz he hf hef => h.lm l j y z n e f hy hz he hf hef) (fun l' y' n e h1 h2 => absurd (by dsimp only at h1; omega) h2) (fun _ => Nat.le_refl _) ⟨by rw [hlen]; exact Nat.le_refl _, by rw [List.take_take, Nat.min_self]⟩ (fun hi => hG.keep l y hy hi) (fun l' y' v h1 h2 => absurd (by dsimp only at h1; omega) h2) (fun _ i z v _ hz hv => (h.kn l y i z v hl hy hz hv).2) (fun _ v hv => ⟨(h.kn l y l y v hl hy hy hv).1, (h.kn l y l y v hl hy hy hv).2.1⟩) (fun _ => by dsimp only; omega)
    refine ⟨_, hpre, hS.rebase (b := p.base) fun l' z h1 hz => ?_⟩
    dsimp only at h1 hz
    have : l' = l := by omega
    subst this
    rw [List.getElem?_set_self (getE hy).1] at hz
    cases hz
    dsimp only
    omega
end Go.Proofs.Ytemnchkebhclpaa
end

section
namespace Go.Proofs.Ytemnchkebhclpaa
open Go Go.Eng Go.RowKit
set_option linter.unusedSimpArgs false
set_option linter.unusedVariables false
/-- a part that may be: m bounds its logs, n replicas, Φ holds of all entries -/
structure Gd (Φ : Ent → Prop) (K : List Ent) (m n : Nat) (few : Int) (p : PaA) : Prop where
  ok : p.ok
  inv : Inv K p
  small : ∀ (i : Nat) (x : RA), p.reps[i]? = some x → x.es.length ≤ m
  ents : ∀ (i : Nat) (x : RA), p.reps[i]? = some x → ∀ e ∈ x.es, Φ e
  len : p.reps.length = n
  few : p.few = few
variable {Φ : Ent → Prop} {K : List Ent} {m n : Nat} {few : Int} {p : PaA} {r : Nat}
theorem Gd.mono (h : Gd Φ K m n few p) {m' : Nat} (hm : m ≤ m') : Gd Φ K m' n few p := ⟨h.ok, h.inv, fun i x hx => Nat.le_trans (h.small i x hx) hm, h.ents, h.len, h.few⟩
theorem ok_set2 {p : PaA} (h : p.ok) {i : Nat} {x x' : RA} (hx : p.reps[i]? = some x) (hk : x'.ok) (hu : p.leader = i → x'.up = true) : ({ p with reps := p.reps.set i x' } : PaA).ok :=
  ok_reps h (List.length_set ..) (fun r hr => by
    rcases List.mem_or_eq_of_mem_set hr with hr | rfl
    · exact h.reps r hr
    · exact hk) (fun l r h1 h2 => by
    rcases set_get h2 with ⟨rfl, rfl⟩ | ⟨_, h3⟩
    · exact hu h1
    · exact (h.lead l r h1 h3).2)
theorem Gd.set (h : Gd Φ K m n few p) {r : Nat} {x x' : RA} (hx : p.reps[r]? = some x) (hk : x'.ok) (hu : p.leader = r → x'.up = true) (hm : x'.es.length ≤ m) (hΦ : ∀ e ∈ x'.es, Φ e)
    (c_ep : ∀ e ∈ x'.es, e.epoch ≤ p.epoch)
    (c_lm : ∀ (j : Nat) (y : RA) (n : Nat) (e f : Ent), j ≠ r → p.reps[j]? = some y → x'.es[n]? = some e → y.es[n]? = some f → e.epoch = f.epoch → x'.es.take (n + 1) = y.es.take (n + 1))
    (c_cur1 : ∀ (l : Nat) (y : RA) (n : Nat) (e : Ent), p.leader = l → l ≠ r → p.reps[l]? = some y → x'.es[n]? = some e → e.epoch = p.epoch → n < y.es.length)
    (c_cur2 : p.leader = r → x.es.length ≤ x'.es.length)
    (c_hi : x'.high.toNat ≤ K.length ∧ x'.es.take x'.high.toNat = K.take x'.high.toNat)
    (c_keep : p.isr[r]? = some true → K.length ≤ x'.s ∧ x'.es.take K.length = K)
    (c_kn1 : ∀ (l : Nat) (y : RA) (v : Int), p.leader = l → l ≠ r → p.reps[l]? = some y → p.known[r]? = some v → v.toNat ≤ x'.s ∧ v.toNat ≤ y.es.length ∧ x'.es.take v.toNat = y.es.take v.toNat)
    (c_kn2 : p.leader = r → ∀ (i : Nat) (z : RA) (v : Int), i ≠ r → p.reps[i]? = some z → p.known[i]? = some v → v.toNat ≤ x'.es.length ∧ z.es.take v.toNat = x'.es.take v.toNat)
    (c_kn3 : p.leader = r → ∀ v : Int, p.known[r]? = some v → v.toNat ≤ x'.s ∧ v.toNat ≤ x'.es.length)
    (c_base : p.leader = r → (K.length : Int) ≤ max p.base x'.high) : Gd Φ K m n few { p with reps := p.reps.set r x' } :=
  ⟨ok_set2 h.ok hx hk hu, h.inv.set hx c_ep c_lm c_cur1 c_cur2 c_hi c_keep c_kn1 c_kn2 c_kn3 c_base, fun i y hy => by
    rcases set_get hy with ⟨_, rfl⟩ | ⟨_, hy⟩
    · exact hm
    · exact h.small i y hy, fun i y hy => by
    rcases set_get hy with ⟨_, rfl⟩ | ⟨_, hy⟩
    · exact hΦ
    · exact h.ents i y hy, by dsimp only; rw [List.length_set]; exact h.len, h.few⟩
theorem Gd.setK0 (h : Gd Φ K m n few p) (r : Nat) : Gd Φ K m n few { p with known := p.known.set r 0 } := ⟨ok_setK h.ok r (by omega) (by omega), h.inv.setK0 r, h.small, h.ents, h.len, h.few⟩
theorem Gd.none (h : Gd Φ K m n few p) : Gd Φ K m n few { p with leader := -1 } := ⟨ok_none h.ok, h.inv.none, h.small, h.ents, h.len, h.few⟩
theorem adv_get {p : PaA} {i : Nat} {x : RA} (h : (advA p).reps[i]? = some x) : ∃ y, p.reps[i]? = some y ∧ x.es = y.es ∧ x.s = y.s ∧ x.up = y.up := by
  unfold advA at h
  split at h
  · rename_i z hz
    split at h
    · exact ⟨x, h, rfl, rfl, rfl⟩
    · rcases set_get h with ⟨rfl, rfl⟩ | ⟨_, h⟩
      · exact ⟨z, hz, rfl, rfl, rfl⟩
      · exact ⟨x, h, rfl, rfl, rfl⟩
  · exact ⟨x, h, rfl, rfl, rfl⟩
theorem adv_len {p : PaA} : (advA p).reps.length = p.reps.length ∧ (advA p).few = p.few ∧ (advA p).epoch = p.epoch ∧ (advA p).leader = p.leader ∧ (advA p).isr = p.isr ∧ (advA p).known = p.known := by
  unfold advA
  split
  · split
    · simp
    · simp
  · simp
theorem Gd.adv (h : Gd Φ K m n few p) : ∃ K', K <+: K' ∧ Gd Φ K' m n few (advA p) := by
  obtain ⟨K', h1, h2⟩ := h.inv.adv h.ok
  refine ⟨K', h1, ok_adv h.ok, h2, fun i x hx => ?_, fun i x hx e he => ?_, adv_len.1.trans h.len, adv_len.2.1.trans h.few⟩
  · obtain ⟨y, hy, he, -⟩ := adv_get hx
    rw [he]; exact h.small i y hy
  · obtain ⟨y, hy, hee, -⟩ := adv_get hx
    rw [hee] at he; exact h.ents i y hy e he
/-- one that differs in how much is safe, or whether it is up -/
theorem Gd.same (h : Gd Φ K m n few p) {x x' : RA} (hx : p.reps[r]? = some x) (he : x'.es = x.es) (hh : x'.high = x.high) (hs : x.s ≤ x'.s) (hsl : x'.s ≤ x.es.length) (hu : p.leader = r → x'.up = true) : Gd Φ K m n few { p with reps := p.reps.set r x' } := by
  have hk := h.ok.at_ hx
  refine h.set hx ⟨by rw [he]; exact ⟨hk.gl.good, hk.gl.len, hk.gl.sz, hsl⟩, by rw [hh]; exact hk.high0, by rw [hh, he]; exact hk.high1⟩ hu (by rw [he]; exact h.small r x hx) (by rw [he]; exact h.ents r x hx) (by rw [he]; exact h.inv.ep r x hx) (fun j y n e f hj hy => by rw [he]; exact h.inv.lm r j x y n e f hx hy) (fun l y n e h1 h2 hy => by rw [he]; exact h.inv.cur l y r x n e h1 hy hx) (fun _ => by rw [he]; exact Nat.le_refl _) (by rw [he, hh]; exact h.inv.hi r x hx) (fun hi => ?_) (fun l y v h1 h2 hy hv => ?_) (fun h1 i z v hi hz hv => ?_) (fun h1 v hv => ?_) (fun h1 => by rw [hh]; exact h.inv.base r x h1 hx)
  · obtain ⟨h1, h2⟩ := h.inv.keep r x hx hi
    exact ⟨by omega, by rw [he]; exact h2⟩
  · obtain ⟨h3, h4, h5⟩ := h.inv.kn l y r x v h1 hy hx hv
    exact ⟨by omega, h4, by rw [he]; exact h5⟩
  · obtain ⟨h3, h4, h5⟩ := h.inv.kn r x i z v h1 hx hz hv
    rw [he]; exact ⟨h4, h5⟩
  · obtain ⟨h3, h4, h5⟩ := h.inv.kn r x r x v h1 hx hx hv
    rw [he]; exact ⟨by omega, h4⟩
theorem sync_gd (h : Gd Φ K m n few p) (he : (syncA p r).2 = 0) : ∃ K', K <+: K' ∧ Gd Φ K' m n few (syncA p r).1 := by
  obtain ⟨x, hx, hu, hS⟩ := sync_inv he
  have hk := h.ok.at_ hx
  have hsl := hk.gl.sle
  have h1 := h.same (x' := { x with s := x.es.length }) hx rfl rfl hsl (Nat.le_refl _) (fun _ => hu)
  rw [hS]
  split
  · rename_i hl
    have hx1 : (p.reps.set r { x with s := x.es.length })[r]? = some { x with s := x.es.length } := List.getElem?_set_self (getE hx).1
    have h2 : Gd Φ K m n few { p with reps := p.reps.set r { x with s := x.es.length }, known := p.known.set r x.es.length } :=
      ⟨ok_setK h1.ok r (by omega) (by have := hk.gl.len; omega), h1.inv.setK (w := x.es.length) fun l y z hl' hy hz => by
        dsimp only at hl' hy hz
        have : l = r := by omega
        subst this
        rw [hx1] at hy hz; cases hy; cases hz
        simp, h1.small, h1.ents, h1.len, h1.few⟩
    exact h2.adv
  · exact ⟨K, List.prefix_refl K, h1⟩
theorem rise_gd (h : Gd Φ K m n few p) (he : (riseA p r).2 = 0) : ∃ K', K <+: K' ∧ Gd Φ K' m n few (riseA p r).1 := by
  obtain ⟨x, hx, hu, hS⟩ := rise_inv he
  rw [hS]
  exact ⟨K, List.prefix_refl K, h.same hx rfl rfl (Nat.le_refl _) (h.ok.at_ hx).gl.sle (fun _ => rfl)⟩
theorem crash_gd {keep : Nat} (h : Gd Φ K m n few p) (he : (crashA p r keep).2 = 0) : ∃ K', K <+: K' ∧ Gd Φ K' m n few (crashA p r keep).1 := by
  obtain ⟨x, hx, hu, hS⟩ := crash_inv he
  rw [hS]
  have hk := h.ok.at_ hx
  have hge := crashN_ge (keep := keep) hk.gl.sle
  have hle := crashN_le x.es x.s keep
  generalize hc : crashN x.es x.s keep = c at *
  have hlen : (x.es.take c).length = c := by rw [List.length_take]; omega
  rw [hlen]
  obtain ⟨q, hq, hqe⟩ : ∃ q : PaA, q = { p with leader := if p.leader = r then -1 else p.leader } ∧ Gd Φ K m n few q := by
    refine ⟨_, rfl, ?_⟩
    by_cases hl : p.leader = r
    · rw [if_pos hl]; exact h.none
    · rw [if_neg hl]; exact h
  have h2 := hqe.setK0 r
  have hql : q.leader ≠ r := by rw [hq]; dsimp only; split <;> omega
  have e1 : q.reps = p.reps := by rw [hq]
  have e2 : q.isr = p.isr := by rw [hq]
  have e3 : q.epoch = p.epoch := by rw [hq]
  have e4 : q.known = p.known := by rw [hq]
  have hxq : q.reps[r]? = some x := by rw [e1]; exact hx
  have hkn : r < q.known.length := by rw [e4, h.ok.knownl]; exact (getE hx).1
  have h0 := hk.high0
  have hgt : ∀ {j : Nat} {e : Ent}, (x.es.take c)[j]? = some e → x.es[j]? = some e ∧ j < c := fun {j e} hj => by
    rw [List.getElem?_take] at hj
    split at hj
    · exact ⟨hj, by assumption⟩
    · cases hj
  refine ⟨K, List.prefix_refl K, ?_⟩
  have h3 := h2.set (x' := ⟨false, x.es.take c, c, min x.high (c : Nat)⟩) hxq ⟨hk.gl.take c (by rw [hlen]; exact Nat.le_refl _), by dsimp only; omega, by dsimp only; omega⟩ (fun hl => absurd hl hql) (by dsimp only; rw [hlen]; have := h.small r x hx; omega) (fun e he => h.ents r x hx e (List.take_subset _ _ he)) (fun e he => by rw [show ({ q with known := q.known.set r 0 } : PaA).epoch = p.epoch from e3]; exact h.inv.ep r x hx e (List.take_subset _ _ he))
    (fun j y n e f hj hy h4 h5 hef => by
      obtain ⟨h6, h7⟩ := hgt h4
      have := h.inv.lm r j x y n e f hx (by rw [← e1]; exact hy) h6 h5 hef
      dsimp only
      rw [List.take_take, Nat.min_eq_left (by omega)]; exact this)
    (fun l y n e hl hlr hy h4 hee => by
      obtain ⟨h6, h7⟩ := hgt h4
      have := hqe.inv.cur l y r x n e hl hy hxq h6 hee
      exact this) (fun hl => absurd hl hql) ?_ (fun hi => ?_) (fun l y v hl hlr hy hv => ?_) (fun hl => absurd hl hql) (fun hl => absurd hl hql) (fun hl => absurd hl hql)
  · subst hq; exact h3
  · obtain ⟨h4, h5⟩ := h.inv.hi r x hx
    dsimp only
    have h6 : (min x.high (c : Int)).toNat ≤ x.high.toNat := by omega
    refine ⟨by omega, ?_⟩
    rw [List.take_take, Nat.min_eq_left (by omega)]
    exact take_min h5 h6
  · obtain ⟨h4, h5⟩ := h.inv.keep r x hx (by rw [← e2]; exact hi)
    dsimp only
    exact ⟨by omega, by rw [List.take_take, Nat.min_eq_left (by omega)]; exact h5⟩
  · dsimp only at hv
    rw [List.getElem?_set_self hkn] at hv
    cases hv
    simp
end Go.Proofs.Ytemnchkebhclpaa
end

section
namespace Go.Proofs.Ytemnchkebhclpaa
open Go Go.Eng Go.RowKit
set_option linter.unusedSimpArgs false
set_option linter.unusedVariables false
variable {Φ : Ent → Prop} {K : List Ent} {m n : Nat} {few : Int} {p : PaA} {r : Nat}
theorem wipe_gd (h : Gd Φ K m n few p) (he : (wipeA p r).2 = 0) : ∃ K', K <+: K' ∧ Gd Φ K' m n few (wipeA p r).1 := by
  obtain ⟨x, hx, hu, hi, hS⟩ := wipe_inv he
  rw [hS]
  have hlr : p.leader ≠ r := fun hl => by
    have := (h.ok.lead r x hl hx).2
    rw [hu] at this; cases this
  have h1 : Gd Φ K m n few { p with isr := p.isr.set r false } :=
    ⟨ok_isr h.ok (List.length_set ..) hi (fun l hl => by
      have hlt : l < p.reps.length := by have := h.ok.ld1; omega
      rw [List.getElem?_set_ne (by rintro rfl; exact hlr hl)]
      exact (h.ok.lead l _ hl (List.getElem?_eq_getElem hlt)).1), h.inv.isrF r, h.small, h.ents, h.len, h.few⟩
  have h2 := h1.setK0 r
  have hkn : r < p.known.length := by rw [h.ok.knownl]; exact (getE hx).1
  have hil : r < p.isr.length := by rw [h.ok.isrl]; exact (getE hx).1
  refine ⟨K, List.prefix_refl K, ?_⟩
  have h3 := h2.set (x' := ⟨false, [], 0, 0⟩) hx ⟨GL.of (by simp) (by simp) (by simp), by simp, by simp⟩ (fun hl => absurd hl hlr) (by simp) (by simp) (by simp) (fun j y n e f hj hy h4 => by simp at h4) (fun l y n e hl hlr hy h4 => by simp at h4) (fun hl => absurd hl hlr) (by simp) (fun hi => ?_) (fun l y v hl hlr hy hv => ?_) (fun hl => absurd hl hlr) (fun hl => absurd hl hlr) (fun hl => absurd hl hlr)
  · exact h3
  · dsimp only at hi
    rw [List.getElem?_set_self hil] at hi
    cases hi
  · dsimp only at hv
    rw [List.getElem?_set_self hkn] at hv
    cases hv
    simp
theorem shrink_gd (h : Gd Φ K m n few p) (he : (shrinkA p r).2 = 0) : ∃ K', K <+: K' ∧ Gd Φ K' m n few (shrinkA p r).1 := by
  obtain ⟨h0, hne, hS⟩ := shrink_inv he
  rw [hS]
  obtain ⟨l, hl⟩ : ∃ l : Nat, p.leader = l := ⟨p.leader.toNat, by omega⟩
  have hlt : l < p.reps.length := by have := h.ok.ld1; omega
  have hli := (h.ok.lead l _ hl (List.getElem?_eq_getElem hlt)).1
  have hlr : r ≠ l := by omega
  have h1 : Gd Φ K m n few { p with isr := p.isr.set r false } :=
    ⟨ok_isr h.ok (List.length_set ..) (List.mem_of_getElem? (i := l) (by rw [List.getElem?_set_ne hlr]; exact hli)) (fun l' hl' => by
      have : l' = l := by omega
      subst this
      rw [List.getElem?_set_ne hlr]; exact hli), h.inv.isrF r, h.small, h.ents, h.len, h.few⟩
  exact h1.adv
theorem expand_gd (h : Gd Φ K m n few p) (he : (expandA p r).2 = 0) : ∃ K', K <+: K' ∧ Gd Φ K' m n few (expandA p r).1 := by
  obtain ⟨x, hx, h0, hne, hu, hk, hS⟩ := expand_inv he
  rw [hS]
  obtain ⟨l, hl⟩ : ∃ l : Nat, p.leader = l := ⟨p.leader.toNat, by omega⟩
  obtain ⟨y, hy⟩ : ∃ y, p.reps[l]? = some y := ⟨_, List.getElem?_eq_getElem (by have := h.ok.ld1; omega)⟩
  have hli := (h.ok.lead l y hl hy).1
  have hlr : r ≠ l := by omega
  have hho : highOf p = y.high := by
    unfold highOf
    rw [show p.leader.toNat = l by omega, hy]
  obtain ⟨v, hv⟩ : ∃ v, p.known[r]? = some v := ⟨_, List.getElem?_eq_getElem (by rw [h.ok.knownl]; exact (getE hx).1)⟩
  have hkg : p.known.getD r 0 = v := by rw [List.getD_eq_getElem?_getD, hv]; rfl
  rw [hho, hkg] at hk
  have hb := h.inv.base l y hl hy
  obtain ⟨k1, k2, k3⟩ := h.inv.kn l y r x v hl hy hx hv
  obtain ⟨k4, k5⟩ := h.inv.keep l y hy hli
  refine ⟨K, List.prefix_refl K, ⟨ok_isr h.ok (List.length_set ..) (List.mem_of_getElem? (i := r) (List.getElem?_set_self (by rw [h.ok.isrl]; exact (getE hx).1))) (fun l' hl' => by
      have : l' = l := by omega
      subst this
      rw [List.getElem?_set_ne hlr]; exact hli), ⟨h.inv.ep, h.inv.lm, h.inv.cur, h.inv.hi, fun i z hz hi => ?_, h.inv.kn, h.inv.base⟩, h.small, h.ents, h.len, h.few⟩⟩
  rcases set_get hi with ⟨rfl, _⟩ | ⟨_, hi⟩
  · dsimp only at hz
    rw [hx] at hz; cases hz
    have h1 : K.length ≤ v.toNat := by omega
    exact ⟨by omega, by rw [take_min k3 h1]; exact k5⟩
  · exact h.inv.keep i z hz hi
theorem elect_gd (h : Gd Φ K m n few p) (he : (electA p r).2 = 0) : ∃ K', K <+: K' ∧ Gd Φ K' m n few (electA p r).1 := by
  obtain ⟨x, hx, hu, hi, hne, hep, hS⟩ := elect_inv h.ok.isrl he
  rw [hS]
  have hk := h.ok.at_ hx
  have hsl := hk.gl.sle
  have hln := hk.gl.len
  obtain ⟨k1, k2⟩ := h.inv.keep r x hx hi
  have hok1 := ok_lead h.ok (b := (x.es.length : Nat)) hx hu hi hep (by omega) (by omega)
  have h1 : Gd Φ K m n few { p with epoch := p.epoch + 1, leader := (r : Nat), known := (List.replicate p.reps.length 0).set r x.s, base := (x.es.length : Nat) } := by
    refine ⟨ok_known hok1 (by simp [h.ok.knownl]) (fun v hv => ?_), ⟨fun i y hy e he => ?_, h.inv.lm, fun l y i z j e hl hy hz hj hee => ?_, h.inv.hi, h.inv.keep, fun l y i z v hl hy hz hv => ?_, fun l y hl hy => ?_⟩, h.small, h.ents, h.len, h.few⟩
    · rcases List.mem_or_eq_of_mem_set hv with hv | rfl
      · rw [List.eq_of_mem_replicate hv]; omega
      · omega
    · have := h.inv.ep i y hy e he; dsimp only; omega
    · have := h.inv.ep i z hz e (List.mem_of_getElem? hj); dsimp only at hee; omega
    · dsimp only at hl hy hz hv
      have : l = r := by omega
      subst this
      rw [hx] at hy; cases hy
      rcases set_get hv with ⟨rfl, rfl⟩ | ⟨_, hv⟩
      · rw [hx] at hz; cases hz
        simp; omega
      · have := List.eq_of_mem_replicate (List.mem_of_getElem? hv)
        subst this
        simp
    · dsimp only at hl hy ⊢
      have : l = r := by omega
      subst this
      rw [hx] at hy; cases hy
      omega
  exact h1.adv
theorem put_gd {e : Ent} (h : Gd Φ K m n few p) (hΦ : Φ { e with epoch := p.epoch }) (hm : m < 400) (he : (putA p e).2.2 = 0) : ∃ K', K <+: K' ∧ Gd Φ K' (m + 1) n few (putA p e).1 := by
  obtain ⟨x, l, hl, hx, hg, -, hS⟩ := put_inv he
  rcases hS with ⟨-, hS, -⟩ | ⟨-, -, hS, -⟩
  · rw [hS]; exact ⟨K, List.prefix_refl K, h.mono (Nat.le_succ m)⟩
  rw [hS]
  have hk := h.ok.at_ hx
  have hsm := h.small l x hx
  have hm1 := h.mono (Nat.le_succ m)
  have hlu := (h.ok.lead l x hl hx).2
  have happ : ∀ {j : Nat} {f : Ent}, (x.es ++ [{ e with epoch := p.epoch }])[j]? = some f → x.es[j]? = some f ∨ (j = x.es.length ∧ f = { e with epoch := p.epoch }) := fun {j f} hj => by
    by_cases hjl : j < x.es.length
    · rw [List.getElem?_append_left hjl] at hj; exact .inl hj
    · have h1 := (List.getElem?_eq_some_iff.1 hj).1
      simp at h1
      have : j = x.es.length := by omega
      subst this
      simp at hj
      exact .inr ⟨rfl, hj.symm⟩
  have htk : ∀ j, j ≤ x.es.length → (x.es ++ [{ e with epoch := p.epoch }]).take j = x.es.take j := fun j hj => List.take_append_of_le_length hj
  have hhi := hk.high1
  have hh0 := hk.high0
  have hsl := hk.gl.sle
  refine ⟨K, List.prefix_refl K, hm1.set (x' := { x with es := x.es ++ [{ e with epoch := p.epoch }] }) hx ⟨GL.of (fun f hf => ?_) (by simp; omega) (by simp; omega), hh0, by simp; omega⟩ (fun _ => hlu) (by simp; omega) (fun f hf => ?_) (fun f hf => ?_) (fun j y i e' f hj hy h4 h5 hef => ?_) (fun l' y i e' h1 h2 => absurd (by omega) h2) (fun _ => by simp) ?_ (fun hi => ?_) (fun l' y v h1 h2 => absurd (by omega) h2) (fun _ i z v hi hz hv => ?_) (fun _ v hv => ?_) (fun _ => h.inv.base l x hl hx)⟩
  · rcases List.mem_append.1 hf with hf | hf
    · exact hk.gl.good f hf
    · rw [List.mem_singleton.1 hf]; exact hg
  · rcases List.mem_append.1 hf with hf | hf
    · exact h.ents l x hx f hf
    · rw [List.mem_singleton.1 hf]; exact hΦ
  · rcases List.mem_append.1 hf with hf | hf
    · exact h.inv.ep l x hx f hf
    · rw [List.mem_singleton.1 hf]; exact Int.le_refl _
  · rcases happ h4 with h6 | ⟨rfl, rfl⟩
    · have := h.inv.lm l j x y i e' f hx hy h6 h5 hef
      dsimp only
      rw [htk _ (by have := (getE h6).1; omega)]; exact this
    · have := h.inv.cur l x j y _ f hl hx hy h5 hef.symm
      omega
  · obtain ⟨h1, h2⟩ := h.inv.hi l x hx
    exact ⟨h1, by dsimp only; rw [htk _ (by omega)]; exact h2⟩
  · obtain ⟨h1, h2⟩ := h.inv.keep l x hx hi
    exact ⟨h1, by dsimp only; rw [htk _ (by omega)]; exact h2⟩
  · obtain ⟨h1, h2, h3⟩ := h.inv.kn l x i z v hl hx hz hv
    exact ⟨by simp; omega, by dsimp only; rw [htk _ h2]; exact h3⟩
  · obtain ⟨h1, h2, h3⟩ := h.inv.kn l x l x v hl hx hx hv
    exact ⟨h1, by simp; omega⟩
theorem match_ge : ∀ {a b : List Ent} {k : Nat}, k ≤ a.length → a.take k = b.take k → k ≤ matchN a b
  | _, _, 0, _, _ => Nat.zero_le _
  | [], _, k + 1, h, _ => by simp at h
  | a :: l, [], k + 1, _, h => by simp at h
  | a :: l, b :: m, k + 1, hl, h => by
    simp at h
    obtain ⟨rfl, h⟩ := h
    unfold matchN
    rw [if_pos rfl]
    have := match_ge (by simpa using hl) h
    omega
theorem match_last : ∀ {a b : List Ent} {k : Nat}, k < matchN a b → ∃ e f, a[k]? = some e ∧ b[k]? = some f ∧ e.epoch = f.epoch
  | [], _, _, h => by simp [matchN] at h
  | _ :: _, [], _, h => by simp [matchN] at h
  | a :: l, b :: m, k, h => by
    unfold matchN at h
    split at h
    · rename_i hab
      cases k with
      | zero => exact ⟨a, b, rfl, rfl, hab⟩
      | succ k =>
        obtain ⟨e, f, h1, h2, h3⟩ := match_last (a := l) (b := m) (k := k) (by omega)
        exact ⟨e, f, h1, h2, h3⟩
    · omega
theorem fetch_gd (h : Gd Φ K m n few p) (he : (fetchA p r).2.2 = 0) : ∃ K', K <+: K' ∧ Gd Φ K' m n few (fetchA p r).1 := by
  obtain ⟨x, y, l, hx, hl, hne, hu, hy⟩ := fetch_inv h.ok he
  rw [fetchA_at hx hl hne hu hy]
  have hkx := h.ok.at_ hx
  have hky := h.ok.at_ hy
  have hle := matchN_le x.es y.es
  have hge := fun k h1 h2 => match_ge (a := x.es) (b := y.es) (k := k) h1 h2
  have hpre : x.es.take (matchN x.es y.es) = y.es.take (matchN x.es y.es) := by
    cases hc : matchN x.es y.es with
    | zero => simp
    | succ c =>
      obtain ⟨e, f, h1, h2, h3⟩ := match_last (a := x.es) (b := y.es) (k := c) (by omega)
      exact h.inv.lm r l x y c e f hx hy h1 h2 h3
  generalize hc : matchN x.es y.es = c at *
  have hlen : (x.es.take c).length = c := by rw [List.length_take]; omega
  have hsx := hkx.gl.sle
  have hxh0 := hkx.high0
  have hyh0 := hky.high0
  have hyh1 := hky.high1
  have hyl := hky.gl.len
  have hkn : r < p.known.length := by rw [h.ok.knownl]; exact (getE hx).1
  have hlr : p.leader ≠ (r : Nat) := by omega
  obtain ⟨hb1, hb2⟩ := h.inv.keep l y hy (h.ok.lead l y hl hy).1
  -- what is behind the leader's: a replica with the first entries of the leader
  have key : ∀ {K : List Ent} {q : PaA} {x0 : RA} (x1 : RA) (c' : Nat) (y' : RA), Gd Φ K m n few q → q.reps[r]? = some x0 → q.leader = l → q.reps[l]? = some y' → y'.es = y.es → q.epoch = p.epoch → x1.es = y.es.take c' → c' ≤ y.es.length → x1.s ≤ c' → 0 ≤ x1.high → x1.high ≤ c' → x1.high.toNat ≤ K.length →
      (q.isr[r]? = some true → K.length ≤ x1.s) → (∀ v : Int, q.known[r]? = some v → v.toNat ≤ x1.s) → Gd Φ K m n few { q with reps := q.reps.set r x1 } := by
    intro K q x0 x1 c' y' hq hx0 hql hqy hye hqe h1 hc' h2 h3 h4 h5 h6 h7
    have hqlr : q.leader ≠ (r : Nat) := by omega
    obtain ⟨hb3, hb4⟩ := hq.inv.keep l y' hqy (hq.ok.lead l y' hql hqy).1
    have hKl : K.length ≤ y.es.length := by have := (hq.ok.at_ hqy).gl.sle; rw [hye] at this; omega
    rw [hye] at hb4
    have hmem : ∀ e ∈ x1.es, e ∈ y'.es := fun e he => by rw [h1] at he; rw [hye]; exact List.take_subset _ _ he
    have hget : ∀ {j : Nat} {e : Ent}, x1.es[j]? = some e → y.es[j]? = some e ∧ j < c' := fun {j e} hj => by
      rw [h1, List.getElem?_take] at hj
      split at hj
      · exact ⟨hj, by assumption⟩
      · cases hj
    have hKt : ∀ k, k ≤ K.length → y.es.take k = K.take k := fun k hk => by
      have := congrArg (List.take k) hb4
      rwa [List.take_take, Nat.min_eq_left hk] at this
    have hx1l : x1.es.length = c' := by rw [h1, List.length_take]; omega
    refine hq.set hx0 ⟨GL.of (fun e he => (hq.ok.at_ hqy).gl.good e (hmem e he)) (by omega) (by omega), h3, by omega⟩ (fun hl => absurd hl hqlr) (by have := hq.small l y' hqy; rw [hye] at this; omega) (fun e he => hq.ents l y' hqy e (hmem e he)) (fun e he => hq.inv.ep l y' hqy e (hmem e he)) (fun j z i e f hj hz h8 h9 hef => ?_) (fun l' z i e hl' hlr' hz h8 hee => ?_) (fun hl => absurd hl hqlr) ⟨h5, ?_⟩ (fun hi => ⟨h6 hi, ?_⟩) (fun l' z v hl' hlr' hz hv => ?_) (fun hl => absurd hl hqlr) (fun hl => absurd hl hqlr) (fun hl => absurd hl hqlr)
    · obtain ⟨h10, h11⟩ := hget h8
      have := hq.inv.lm l j y' z i e f hqy hz (by rw [hye]; exact h10) h9 hef
      rw [h1, List.take_take, Nat.min_eq_left (by omega), ← hye]; exact this
    · have : l' = l := by omega
      subst this
      rw [hqy] at hz; cases hz
      rw [hye]
      exact (getE (hget h8).1).1
    · rw [h1, List.take_take, Nat.min_eq_left (by omega)]
      exact hKt _ h5
    · have := h6 hi
      rw [h1, List.take_take, Nat.min_eq_left (by omega)]; exact hb4
    · have : l' = l := by omega
      subst this
      rw [hqy] at hz; cases hz
      have := h7 v hv
      exact ⟨this, by rw [hye]; omega, by rw [h1, List.take_take, Nat.min_eq_left (by omega), hye]⟩
  have hKc : p.isr[r]? = some true → K.length ≤ min x.s c := fun hi => by
    obtain ⟨h1, h2⟩ := h.inv.keep r x hx hi
    have := hge K.length (by omega) (by rw [h2, hb2])
    omega
  obtain ⟨hhx1, hhx2⟩ := h.inv.hi r x hx
  have hmx : min x.s c ≤ c := by omega
  -- cut
  have g1 := h.setK0 r
  have g2 := key (K := K) (q := { p with known := p.known.set r 0 }) (x0 := x) ⟨x.up, y.es.take c, min x.s c, min x.high c⟩ c y g1 hx hl hy rfl rfl rfl hle.2 hmx (by dsimp only; omega) (by dsimp only; omega) (by dsimp only; omega) hKc (fun v hv => by
    dsimp only at hv
    rw [List.getElem?_set_self hkn] at hv
    cases hv; simp)
  have hx2 : (p.reps.set r ⟨x.up, y.es.take c, min x.s c, min x.high c⟩)[r]? = some ⟨x.up, y.es.take c, min x.s c, min x.high c⟩ := List.getElem?_set_self (getE hx).1
  have hy2 : (p.reps.set r ⟨x.up, y.es.take c, min x.s c, min x.high c⟩)[l]? = some y := by rw [List.getElem?_set_ne hne]; exact hy
  have g3 : Gd Φ K m n few { p with reps := p.reps.set r ⟨x.up, y.es.take c, min x.s c, min x.high c⟩, known := p.known.set r (min x.s c : Nat) } := by
    refine ⟨?_, ?_, g2.small, g2.ents, g2.len, g2.few⟩
    · have := ok_setK g2.ok r (v := (min x.s c : Nat)) (by omega) (by have := hky.gl.len; omega)
      dsimp only at this
      rw [List.set_set] at this
      exact this
    · have := g2.inv.setK (r := r) (w := (min x.s c : Nat)) fun l' z z2 hl' hz hz2 => by
        dsimp only at hl' hz hz2
        have : l' = l := by omega
        subst this
        rw [hy2] at hz; cases hz
        rw [hx2] at hz2; cases hz2
        dsimp only
        simp only [Int.toNat_natCast]
        refine ⟨Nat.le_refl _, by omega, by rw [List.take_take, Nat.min_eq_left hmx]⟩
      dsimp only at this
      rw [List.set_set] at this
      exact this
  obtain ⟨K', hK', g4⟩ := g3.adv
  rw [advA_at (p := { p with reps := p.reps.set r ⟨x.up, y.es.take c, min x.s c, min x.high c⟩, known := p.known.set r (min x.s c : Nat) }) (l := l) (r := y) hl hy2] at g4
  generalize hH : max y.high (min (leastA p.isr (p.known.set r (min x.s c : Nat)) 400) y.es.length) = H at *
  have hy4 : ((p.reps.set r ⟨x.up, y.es.take c, min x.s c, min x.high c⟩).set l { y with high := H })[l]? = some { y with high := H } := List.getElem?_set_self (by rw [List.length_set]; exact (getE hy).1)
  have hx4 : ((p.reps.set r ⟨x.up, y.es.take c, min x.s c, min x.high c⟩).set l { y with high := H })[r]? = some ⟨x.up, y.es.take c, min x.s c, min x.high c⟩ := by rw [List.getElem?_set_ne (Ne.symm hne)]; exact hx2
  have hK'l : K.length ≤ K'.length := hK'.length_le
  have hHK : H.toNat ≤ K'.length := (g4.inv.hi l _ hy4).1
  have hset : ∀ x1 : RA, (((p.reps.set r ⟨x.up, y.es.take c, min x.s c, min x.high c⟩).set l { y with high := H }).set r x1) = (p.reps.set l { y with high := H }).set r x1 := fun x1 => by
    rw [List.set_comm _ _ (Ne.symm hne), List.set_set, List.set_comm _ _ hne]
  have hK'c : p.isr[r]? = some true → K'.length ≤ min x.s c := fun hi => (g4.inv.keep r _ hx4 hi).1
  have hknr : ∀ v : Int, (p.known.set r (min x.s c : Nat))[r]? = some v → v.toNat ≤ min x.s c := fun v hv => by
    rw [List.getElem?_set_self hkn] at hv
    cases hv; simp
  refine ⟨K', hK', ?_⟩
  unfold fetched
  rw [hc]
  cases hz : y.es[c]? with
  | none =>
    have g5 := key ⟨x.up, x.es.take c, min x.s c, min (max x.high H) (c : Nat)⟩ c { y with high := H } g4 hx4 hl hy4 rfl rfl hpre hle.2 hmx (by dsimp only; omega) (by dsimp only; omega) (by dsimp only; omega) hK'c hknr
    dsimp only at g5 ⊢
    rw [hset] at g5
    exact g5
  | some z =>
    have hzl := (getE hz).1
    have hes : x.es.take c ++ [z] = y.es.take (c + 1) := by rw [hpre, List.take_add_one, hz]; rfl
    have g5 := key ⟨x.up, x.es.take c ++ [z], min x.s c, min (max x.high H) ((c : Nat) + 1)⟩ (c + 1) { y with high := H } g4 hx4 hl hy4 rfl rfl hes (by omega) (by dsimp only; omega) (by dsimp only; omega) (by dsimp only; omega) (by dsimp only; omega) hK'c hknr
    dsimp only at g5 ⊢
    rw [hset] at g5
    exact g5
theorem new_gd {n few : Nat} (h1 : 1 ≤ n) (h5 : n ≤ 5) (hf : 1 ≤ few) (hfn : few ≤ n) : Gd Φ [] 0 n few (newA n few) := by
  have hr : ∀ (i : Nat) (x : RA), (newA n few).reps[i]? = some x → x = ⟨true, [], 0, 0⟩ := fun i x hx => List.eq_of_mem_replicate (List.mem_of_getElem? hx)
  refine ⟨⟨by simp [newA] <;> omega, by simp [newA] <;> omega, by simp [newA] <;> omega, by simp [newA] <;> omega, by simp [newA] <;> omega, by simp [newA] <;> omega, by simp [newA] <;> omega, by simp [newA] <;> omega, by simp [newA] <;> omega, by simp [newA] <;> omega, by simp [newA] <;> omega, by simp [newA] <;> omega, by simp [newA] <;> omega, fun l r hl => by simp [newA] at hl <;> omega, fun r hr => ?_, fun v hv => ?_⟩, ⟨fun i x hx => by rw [hr i x hx]; simp, fun i j x y k e f hx hy he => by rw [hr i x hx] at he; simp at he, fun l y i x k e hl => by simp [newA] at hl <;> omega, fun i x hx => by rw [hr i x hx]; simp, fun i x hx _ => by rw [hr i x hx]; simp, fun l y i x v hl => by simp [newA] at hl <;> omega, fun l y hl => by simp [newA] at hl <;> omega⟩, fun i x hx => by rw [hr i x hx]; simp, fun i x hx => by rw [hr i x hx]; simp, by simp [newA] <;> omega, rfl⟩
  · rw [List.eq_of_mem_replicate hr]
    exact ⟨GL.of (by simp) (by simp) (by simp), by simp, by simp⟩
  · rw [List.eq_of_mem_replicate hv]; omega
end Go.Proofs.Ytemnchkebhclpaa
end

section
namespace Go.Proofs.Ytemnchkebhclpaa
open Go Go.Eng Go.RowKit
set_option linter.unusedSimpArgs false
set_option linter.unusedVariables false
def putE (seq : Nat) : Ent := ⟨0, 0, 0, 0, 1, false, wordT seq⟩
/-- what a raw does to a part -/
def stepA (n : Nat) (hard : Bool) (p : PaA) (seq : Nat) (r : Raw) : PaA × Int :=
  if pk r.kind 16 < 5 then ((putA p (putE seq)).1, (putA p (putE seq)).2.2)
  else if pk r.kind 16 < 9 then ((fetchA p (pk r.a n)).1, (fetchA p (pk r.a n)).2.2)
  else if pk r.kind 16 < 12 ∨ hard = false then syncA p (pk r.a n)
  else if pk r.kind 16 = 12 then crashA p (pk r.a n) (pk r.b 30)
  else if pk r.kind 16 = 13 then riseA p (pk r.a n)
  else if pk r.kind 16 = 14 then electA p (pk r.a n)
  else if pk r.c 3 = 0 then wipeA p (pk r.a n)
  else if pk r.c 3 = 1 then shrinkA p (pk r.a n)
  else expandA p (pk r.a n)
def nextA (n : Nat) (hard : Bool) (p : PaA) (seq : Nat) (r : Raw) : PaA := if (stepA n hard p seq r).2 = 0 then (stepA n hard p seq r).1 else p
def seqA (seq : Nat) (r : Raw) : Nat := if pk r.kind 16 < 5 then seq + 1 else seq
def highs1 (x : RA) : List (List Ent) := if 0 < x.high ∧ x.high ≤ x.es.length then [x.es.take x.high.toNat] else []
def highsL (rs : List RA) : List (List Ent) := rs.flatMap highs1
abbrev PlS := PaA × Nat × List (List Ent)
def playS (n : Nat) (hard : Bool) (s : PlS) (r : Raw) : PlS := (nextA n hard s.1 s.2.1 r, seqA s.2.1 r, s.2.2 ++ highsL (nextA n hard s.1 s.2.1 r).reps)
def play0 (n few : Nat) : PlS := ((electA (newA n few) 0).1, 0, [])
def playA (n few : Nat) (hard : Bool) (l : List Raw) : PlS := l.foldl (playS n hard) (play0 n few)
theorem playA_snoc {n few : Nat} {hard : Bool} {l : List Raw} {k : Nat} {x : Raw} (h : l[k]? = some x) : playA n few hard (l.take (k + 1)) = playS n hard (playA n few hard (l.take k)) x := by
  unfold playA
  rw [take_snoc h, List.foldl_append]
  rfl
def Plain (e : Ent) : Prop := e.pid = 0 ∧ e.kind = 1 ∧ e.txn = false
theorem step_gd {K : List Ent} {m n : Nat} {few : Int} {p : PaA} {hard : Bool} {seq : Nat} {r : Raw} (h : Gd Plain K m n few p) (hm : m < 400) (he : (stepA n hard p seq r).2 = 0) : ∃ K', K <+: K' ∧ Gd Plain K' (if pk r.kind 16 < 5 then m + 1 else m) n few (stepA n hard p seq r).1 := by
  unfold stepA at he ⊢
  split
  · rename_i hk
    rw [if_pos hk] at he
    exact put_gd h ⟨rfl, rfl, rfl⟩ hm he
  rename_i hk
  rw [if_neg hk] at he
  split
  · rename_i hk
    rw [if_pos hk] at he
    exact fetch_gd h he
  rename_i hk
  rw [if_neg hk] at he
  split
  · rename_i hk
    rw [if_pos hk] at he
    exact sync_gd h he
  rename_i hk
  rw [if_neg hk] at he
  split
  · rename_i hk
    rw [if_pos hk] at he
    exact crash_gd h he
  rename_i hk
  rw [if_neg hk] at he
  split
  · rename_i hk
    rw [if_pos hk] at he
    exact rise_gd h he
  rename_i hk
  rw [if_neg hk] at he
  split
  · rename_i hk
    rw [if_pos hk] at he
    exact elect_gd h he
  rename_i hk
  rw [if_neg hk] at he
  split
  · rename_i hk
    rw [if_pos hk] at he
    exact wipe_gd h he
  rename_i hk
  rw [if_neg hk] at he
  split
  · rename_i hk
    rw [if_pos hk] at he
    exact shrink_gd h he
  rename_i hk
  rw [if_neg hk] at he
  exact expand_gd h he
theorem elect0 {n few : Nat} (h1 : 1 ≤ n) : (electA (newA n few) 0).2 = 0 := by
  obtain ⟨k, rfl⟩ : ∃ k, n = k + 1 := ⟨n - 1, by omega⟩
  simp [electA, newA, List.replicate_succ]
theorem prefix_high {Φ : Ent → Prop} {K : List Ent} {m n : Nat} {few : Int} {p : PaA} (h : Gd Φ K m n few p) {x : RA} (hx : x ∈ p.reps) : ∀ e ∈ highs1 x, e <+: K := by
  obtain ⟨i, hi⟩ := List.mem_iff_getElem?.1 hx
  intro e he
  unfold highs1 at he
  split at he
  · rw [List.mem_singleton] at he
    rw [he, (h.inv.hi i x hi).2]
    exact List.take_prefix _ _
  · cases he
/-- what holds behind any raws -/
structure PlG (n few : Nat) (K : List Ent) (s : PlS) : Prop where
  gd : Gd Plain K s.2.1 n few s.1
  highs : ∀ h ∈ s.2.2, h <+: K
theorem play0_ok {n few : Nat} (h1 : 1 ≤ n) (h5 : n ≤ 5) (hf : 1 ≤ few) (hfn : few ≤ n) : ∃ K, PlG n few K (play0 n few) := by
  obtain ⟨K', -, h⟩ := elect_gd (new_gd (Φ := Plain) h1 h5 hf hfn) (elect0 h1)
  exact ⟨K', h, by simp [play0]⟩
theorem playS_ok {n few : Nat} {hard : Bool} {K : List Ent} {s : PlS} {r : Raw} (h : PlG n few K s) (hm : s.2.1 < 400) : ∃ K', K <+: K' ∧ PlG n few K' (playS n hard s r) := by
  obtain ⟨K', hK, hg⟩ : ∃ K', K <+: K' ∧ Gd Plain K' (seqA s.2.1 r) n few (nextA n hard s.1 s.2.1 r) := by
    unfold nextA seqA
    by_cases he : (stepA n hard s.1 s.2.1 r).2 = 0
    · rw [if_pos he]
      exact step_gd h.gd hm he
    · rw [if_neg he]
      exact ⟨K, List.prefix_refl K, h.gd.mono (by split <;> omega)⟩
  refine ⟨K', hK, hg, fun e he => ?_⟩
  rcases List.mem_append.1 he with he | he
  · exact (h.highs e he).trans hK
  · obtain ⟨x, hx, hex⟩ := List.mem_flatMap.1 he
    exact prefix_high hg hx e hex
theorem seqA_le (s : Nat) (r : Raw) : seqA s r ≤ s + 1 := by unfold seqA; split <;> omega
theorem foldl_ok {n few : Nat} {hard : Bool} : ∀ (l : List Raw) (K : List Ent) (s : PlS), PlG n few K s → s.2.1 + l.length < 400 → ∃ K', K <+: K' ∧ PlG n few K' (l.foldl (playS n hard) s) ∧ (l.foldl (playS n hard) s).2.1 ≤ s.2.1 + l.length
  | [], K, s, h, _ => ⟨K, List.prefix_refl K, h, by simp⟩
  | r :: l, K, s, h, hl => by
    simp only [List.length_cons] at hl
    obtain ⟨K1, hK1, h1⟩ := playS_ok (hard := hard) (r := r) h (by omega)
    have hs : (playS n hard s r).2.1 ≤ s.2.1 + 1 := seqA_le _ _
    obtain ⟨K2, hK2, h2, h3⟩ := foldl_ok l K1 (playS n hard s r) h1 (by omega)
    exact ⟨K2, hK1.trans hK2, h2, by simp only [List.foldl_cons, List.length_cons]; omega⟩
theorem play_ok {n few : Nat} {hard : Bool} (h1 : 1 ≤ n) (h5 : n ≤ 5) (hf : 1 ≤ few) (hfn : few ≤ n) (l : List Raw) (hl : l.length < 400) : ∃ K, PlG n few K (playA n few hard l) ∧ (playA n few hard l).2.1 ≤ l.length := by
  obtain ⟨K0, h0⟩ := play0_ok h1 h5 hf hfn
  obtain ⟨K, -, h, hb⟩ := foldl_ok (hard := hard) l K0 _ h0 (by show 0 + _ < _; omega)
  exact ⟨K, h, by have : (play0 n few).2.1 = 0 := rfl; unfold playA; omega⟩
/-- behind more raws more is kept -/
theorem play_more {n few : Nat} {hard : Bool} (h1 : 1 ≤ n) (h5 : n ≤ 5) (hf : 1 ≤ few) (hfn : few ≤ n) (l m : List Raw) (hl : (l ++ m).length < 400) : ∃ K K', K <+: K' ∧ PlG n few K (playA n few hard l) ∧ PlG n few K' (playA n few hard (l ++ m)) := by
  rw [List.length_append] at hl
  obtain ⟨K, hg, hb⟩ := play_ok (hard := hard) h1 h5 hf hfn l (by omega)
  obtain ⟨K', hK, h, -⟩ := foldl_ok (hard := hard) m K _ hg (by omega)
  exact ⟨K, K', hK, hg, by unfold playA; rw [List.foldl_append]; exact h⟩
theorem highs_step {rs : List RA} {k : Nat} {x : RA} (h : rs[k]? = some x) : highsL (rs.take (k + 1)) = highsL (rs.take k) ++ highs1 x := by
  unfold highsL
  rw [take_snoc h, List.flatMap_append]
  simp
end Go.Proofs.Ytemnchkebhclpaa
end
