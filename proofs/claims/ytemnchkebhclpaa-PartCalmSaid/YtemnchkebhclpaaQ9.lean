/- Q9: a part of the proofs over this seat: what stands in its theorems holds for every input that they name. -/
import Derived.Test.YtemnchkebhclpaaGQ
namespace Go.Proofs.Ytemnchkebhclpaa
open Go Go.Eng Go.RowKit
set_option linter.unusedSimpArgs false
set_option linter.unusedVariables false
/-- a part that is calm: the first replica leads, all keep up and are up, and have first entries of the leader's log L -/
structure Calm (L : List Ent) (n : Nat) (p : PaA) : Prop where
  lead : p.leader = 0
  isr : p.isr = List.replicate n true
  log : ∃ y, p.reps[0]? = some y ∧ y.es = L
  up : ∀ (i : Nat) (x : RA), p.reps[i]? = some x → x.up = true
  pre : ∀ (i : Nat) (x : RA), p.reps[i]? = some x → x.es = L.take x.es.length
variable {L : List Ent} {n r : Nat} {p : PaA}
theorem Calm.setS (h : Calm L n p) {x x' : RA} (hx : p.reps[r]? = some x) (hu : x'.up = true) (he : x'.es = L.take x'.es.length) (h0 : r = 0 → x'.es = L) {k : List Int} : Calm L n { p with reps := p.reps.set r x', known := k } := by
  obtain ⟨y, hy, hyL⟩ := h.log
  refine ⟨h.lead, h.isr, ?_, fun i z hz => ?_, fun i z hz => ?_⟩
  · by_cases hr : r = 0
    · subst hr
      exact ⟨x', List.getElem?_set_self (getE hx).1, h0 rfl⟩
    · exact ⟨y, by dsimp only; rw [List.getElem?_set_ne hr]; exact hy, hyL⟩
  · rcases set_get hz with ⟨_, rfl⟩ | ⟨_, hz⟩
    · exact hu
    · exact h.up i z hz
  · rcases set_get hz with ⟨_, rfl⟩ | ⟨_, hz⟩
    · exact he
    · exact h.pre i z hz
theorem Calm.adv (h : Calm L n p) : Calm L n (advA p) := by
  obtain ⟨y, hy, hyL⟩ := h.log
  obtain ⟨a1, a2, a3, a4, a5, a6⟩ := adv_len (p := p)
  refine ⟨a4.trans h.lead, a5.trans h.isr, ?_, fun i z hz => ?_, fun i z hz => ?_⟩
  · rw [advA_at (l := 0) (r := y) h.lead hy]
    exact ⟨_, List.getElem?_set_self (getE hy).1, hyL⟩
  · obtain ⟨w, hw, -, -, h3⟩ := adv_get hz
    rw [h3]; exact h.up i w hw
  · obtain ⟨w, hw, h1, -, -⟩ := adv_get hz
    rw [h1]; exact h.pre i w hw
theorem Calm.len {y : RA} (h : Calm L n p) {i : Nat} (hy : p.reps[i]? = some y) : y.es.length ≤ L.length := by
  have := congrArg List.length (h.pre i y hy)
  rw [List.length_take] at this; omega
theorem calm_sync_at (h : Calm L n p) {x : RA} (hx : p.reps[r]? = some x) : (syncA p r).2 = 0 ∧ (syncA p r).1 = if r = 0 then advA { p with reps := p.reps.set r { x with s := x.es.length }, known := p.known.set r x.es.length } else { p with reps := p.reps.set r { x with s := x.es.length } } := by
  unfold syncA
  rw [hx]
  dsimp only
  rw [if_neg (by rw [h.up r x hx]; decide), h.lead]
  by_cases hr : r = 0
  · subst hr
    rw [if_pos (show (0 : Int) = ((0 : Nat) : Int) from rfl), if_pos rfl]; exact ⟨rfl, rfl⟩
  · rw [if_neg (by omega), if_neg hr]; exact ⟨rfl, rfl⟩
theorem calm_sync (h : Calm L n p) {x : RA} (hx : p.reps[r]? = some x) : Calm L n (syncA p r).1 := by
  rw [(calm_sync_at h hx).2]
  split
  · rename_i hr
    subst hr
    exact (h.setS (x' := { x with s := x.es.length }) (k := p.known.set 0 x.es.length) hx (h.up 0 x hx) (h.pre 0 x hx) (fun _ => by obtain ⟨y, hy, hyL⟩ := h.log; rw [hx] at hy; cases hy; exact hyL)).adv
  · rename_i hr
    exact h.setS (x' := { x with s := x.es.length }) (k := p.known) hx (h.up r x hx) (h.pre r x hx) (fun h0 => absurd h0 hr)
theorem match_take {L : List Ent} {j : Nat} (h : j ≤ L.length) : matchN (L.take j) L = j := by
  have h1 := (matchN_le (L.take j) L).1
  have h2 := match_ge (a := L.take j) (b := L) (k := j) (by rw [List.length_take]; omega) (by rw [List.take_take, Nat.min_self])
  rw [List.length_take] at h1
  omega
/-- what a fetch does to a part that is calm -/
theorem calm_fetch_at (h : Calm L n p) (hr : r ≠ 0) {x y : RA} (hx : p.reps[r]? = some x) (hy : p.reps[0]? = some y) : (fetchA p r).2.2 = 0 ∧ ∃ (H : Int) (x' : RA), H = max y.high (min (leastA p.isr (p.known.set r (min x.s x.es.length : Nat)) 400) L.length) ∧ x'.up = true ∧ x'.es = L.take (x.es.length + 1) ∧ x'.s = min x.s x.es.length ∧ x'.high = min (max x.high H) (min (x.es.length + 1) L.length : Nat) ∧
    (fetchA p r).1 = { p with known := p.known.set r (min x.s x.es.length : Nat), reps := (p.reps.set 0 { y with high := H }).set r x' } := by
  obtain ⟨y', hy', hyL⟩ := h.log
  rw [hy] at hy'; cases hy'
  have hp := h.pre r x hx
  have hlen := h.len hx
  have hm : matchN x.es y.es = x.es.length := by rw [hyL]; conv => lhs; rw [hp]
                                                 exact match_take hlen
  have hF := fetchA_at hx h.lead hr (h.up r x hx) hy
  rw [hm] at hF
  rw [hF]
  refine ⟨rfl, _, (fetched x y (max y.high (min (leastA p.isr (p.known.set r (min x.s x.es.length : Nat)) 400) L.length))).1, rfl, ?_, ?_, ?_, ?_, by rw [hyL]⟩
  all_goals
    unfold fetched
    rw [hm, hyL]
  · cases L[x.es.length]? <;> exact h.up r x hx
  · cases hz : L[x.es.length]? with
    | none =>
      have : L.length ≤ x.es.length := by simpa using hz
      dsimp only
      rw [List.take_of_length_le (by omega), List.take_of_length_le (by omega), hp, List.take_of_length_le (by omega)]
    | some z =>
      dsimp only
      rw [List.take_length, List.take_add_one, hz, ← hp]; rfl
  · cases L[x.es.length]? <;> rfl
  · cases hz : L[x.es.length]? with
    | none =>
      have : L.length ≤ x.es.length := by simpa using hz
      dsimp only; congr 1; omega
    | some z =>
      have := (getE hz).1
      dsimp only; congr 1; omega
theorem calm_fetch (h : Calm L n p) (hr : r ≠ 0) {x : RA} (hx : p.reps[r]? = some x) : Calm L n (fetchA p r).1 := by
  obtain ⟨y, hy, hyL⟩ := h.log
  obtain ⟨-, H, x', h1, h2, h3, h4, h5, h6⟩ := calm_fetch_at h hr hx hy
  rw [h6]
  have a := h.setS (r := 0) (x' := { y with high := H }) (k := p.known.set r (min x.s x.es.length : Nat)) hy (h.up 0 y hy) (h.pre 0 y hy) (fun _ => hyL)
  have b := a.setS (r := r) (x := x) (x' := x') (k := p.known.set r (min x.s x.es.length : Nat)) (by dsimp only; rw [List.getElem?_set_ne (Ne.symm hr)]; exact hx) h2 (by rw [h3, List.length_take]; by_cases hl : x.es.length + 1 ≤ L.length; rw [Nat.min_eq_left hl]; rw [List.take_of_length_le (by omega), List.take_of_length_le (by omega)]) (fun h0 => absurd h0 hr)
  exact b
theorem calm_put {e : Ent} (h : Calm L n p) (he0 : e.pid = 0) (he : (putA p e).2.2 = 0) : ∃ L', Calm L' n (putA p e).1 ∧ L'.length ≤ L.length + 1 := by
  obtain ⟨x, l, hl, hx, hg, -, hS⟩ := put_inv he
  rcases hS with ⟨-, hS, -⟩ | ⟨-, -, hS, -⟩
  · rw [hS]; exact ⟨L, h, by omega⟩
  rw [hS]
  have hl0 : l = 0 := by have := h.lead; omega
  subst hl0
  obtain ⟨y, hy, hyL⟩ := h.log
  rw [hx] at hy; cases hy
  refine ⟨L ++ [{ e with epoch := p.epoch }], ⟨h.lead, h.isr, ⟨_, List.getElem?_set_self (getE hx).1, by rw [hyL]⟩, fun i z hz => ?_, fun i z hz => ?_⟩, by simp⟩
  · rcases set_get hz with ⟨_, rfl⟩ | ⟨_, hz⟩
    · exact h.up 0 x hx
    · exact h.up i z hz
  · rcases set_get hz with ⟨_, rfl⟩ | ⟨_, hz⟩
    · dsimp only; rw [hyL, List.take_length]
    · have := h.len hz
      rw [List.take_append_of_le_length this]; exact h.pre i z hz
/-- how far each replica is, having been looked after c i times -/
structure Far (L : List Ent) (n : Nat) (p : PaA) (c : Nat → Nat) : Prop where
  len : ∀ (i : Nat) (x : RA), p.reps[i]? = some x → min (c i) L.length ≤ x.es.length
  known : ∀ (i : Nat) (v : Int), p.known[i]? = some v → 1 ≤ c i → ((min (c i - 1) L.length : Nat) : Int) ≤ v
  safe : 1 ≤ c 0 → (∀ x : RA, p.reps[0]? = some x → x.s = L.length) ∧ (∀ v : Int, p.known[0]? = some v → v = L.length)
  high0 : (∀ i, i < n → L.length + 1 ≤ c i) → ∀ x : RA, p.reps[0]? = some x → x.high = L.length
  high : ∀ (i : Nat) (x : RA), p.reps[i]? = some x → i ≠ 0 → L.length + 2 ≤ c i → x.high = L.length
theorem least_ge : ∀ (n : Nat) (kn : List Int) (m k : Int), m ≤ k → (∀ (i : Nat) (v : Int), kn[i]? = some v → m ≤ v) → m ≤ leastA (List.replicate n true) kn k
  | 0, kn, m, k, h, _ => by simp [leastA]; exact h
  | n + 1, [], m, k, h, _ => by simp [List.replicate_succ, leastA]; exact h
  | n + 1, v :: kn, m, k, h, hv => by
    rw [List.replicate_succ]
    unfold leastA
    rw [if_pos rfl]
    exact least_ge n kn m _ (by have := hv 0 v rfl; omega) (fun i u hu => hv (i + 1) u (by simpa using hu))
theorem far_sync0 {c : Nat → Nat} (h : Calm L n p) (hok : p.ok) (hn : p.reps.length = n) (hf : Far L n p c) {x : RA} (hx : p.reps[0]? = some x) : Far L n (syncA p 0).1 (fun i => if i = 0 then c i + 1 else c i) := by
  rw [(calm_sync_at h hx).2, if_pos rfl]
  obtain ⟨y, hy, hyL⟩ := h.log
  rw [hx] at hy; cases hy
  have hxl : x.es.length = L.length := by rw [hyL]
  have hx1 : (p.reps.set 0 { x with s := x.es.length })[0]? = some { x with s := x.es.length } := List.getElem?_set_self (getE hx).1
  rw [advA_at (p := { p with reps := p.reps.set 0 { x with s := x.es.length }, known := p.known.set 0 x.es.length }) (l := 0) (r := { x with s := x.es.length }) h.lead hx1]
  dsimp only
  have hk := hok.at_ hx
  have hh := hk.high1
  have hl4 := hk.gl.len
  have hget : ∀ (i : Nat) (z : RA) (H : Int), ((p.reps.set 0 { x with s := x.es.length }).set 0 { up := x.up, es := x.es, s := x.es.length, high := H })[i]? = some z → (i = 0 ∧ z = ⟨x.up, x.es, x.es.length, H⟩) ∨ (i ≠ 0 ∧ p.reps[i]? = some z) := fun i z H hz => by
    rcases set_get hz with ⟨h1, h2⟩ | ⟨h1, hz⟩
    · exact .inl ⟨h1, h2⟩
    · rcases set_get hz with ⟨h2, _⟩ | ⟨_, hz⟩
      · exact absurd h2 h1
      · exact .inr ⟨h1, hz⟩
  refine ⟨fun i z hz => ?_, fun i v hv hc => ?_, fun _ => ⟨fun z hz => ?_, fun v hv => ?_⟩, fun hall z hz => ?_, fun i z hz hi hc => ?_⟩
  · rcases hget i z _ hz with ⟨rfl, rfl⟩ | ⟨hi, hz⟩
    · dsimp only; omega
    · rw [if_neg hi]; exact hf.len i z hz
  · rcases set_get hv with ⟨rfl, rfl⟩ | ⟨hi, hv⟩
    · omega
    · rw [if_neg hi] at hc ⊢; exact hf.known i v hv hc
  · rcases hget 0 z _ hz with ⟨_, rfl⟩ | ⟨hi, hz⟩
    · exact hxl
    · exact absurd rfl hi
  · rcases set_get hv with ⟨_, rfl⟩ | ⟨hi, hv⟩
    · omega
    · exact absurd rfl hi
  · rcases hget 0 z _ hz with ⟨_, rfl⟩ | ⟨hi, hz⟩
    · dsimp only
      have hle : (L.length : Int) ≤ leastA p.isr (p.known.set 0 x.es.length) 400 := by
        rw [h.isr]
        refine least_ge n _ _ _ (by omega) fun i v hv => ?_
        rcases set_get hv with ⟨rfl, rfl⟩ | ⟨hi, hv⟩
        · omega
        · have hin : i < n := by have := (getE hv).1; have := hok.knownl; omega
          have h1 := hall i hin
          rw [if_neg hi] at h1
          have := hf.known i v hv (by omega)
          omega
      omega
    · exact absurd rfl hi
  · rw [if_neg hi] at hc
    rcases hget i z _ hz with ⟨h0, _⟩ | ⟨_, hz⟩
    · exact absurd h0 hi
    · exact hf.high i z hz hi hc
theorem far_same {c : Nat → Nat} (hf : Far L n p c) (hr : r ≠ 0) {x : RA} (hx : p.reps[r]? = some x) : Far L n { p with reps := p.reps.set r { x with s := x.es.length } } c := by
  refine ⟨fun i z hz => ?_, hf.known, fun h1 => ⟨fun z hz => ?_, (hf.safe h1).2⟩, fun hall z hz => ?_, fun i z hz hi hc => ?_⟩
  · rcases set_get hz with ⟨rfl, rfl⟩ | ⟨_, hz⟩
    · exact hf.len i x hx
    · exact hf.len i z hz
  · rcases set_get hz with ⟨h0, _⟩ | ⟨_, hz⟩
    · exact absurd h0.symm hr
    · exact (hf.safe h1).1 z hz
  · rcases set_get hz with ⟨h0, _⟩ | ⟨_, hz⟩
    · exact absurd h0.symm hr
    · exact hf.high0 hall z hz
  · rcases set_get hz with ⟨rfl, rfl⟩ | ⟨_, hz⟩
    · exact hf.high i x hx hi hc
    · exact hf.high i z hz hi hc
theorem far_fetch {c : Nat → Nat} (h : Calm L n p) (hok : p.ok) (hn : p.reps.length = n) (hf : Far L n p c) (hr : r ≠ 0) {x : RA} (hx : p.reps[r]? = some x) (hs : x.s = x.es.length) (hmin : ∀ i, i < n → c r ≤ c i) : Far L n (fetchA p r).1 (fun i => if i = r then c i + 1 else c i) := by
  obtain ⟨y, hy, hyL⟩ := h.log
  obtain ⟨-, H, x', hH, -, h3, h4, h5, h6⟩ := calm_fetch_at h hr hx hy
  rw [h6]
  rw [hs, Nat.min_self] at *
  have hky := hok.at_ hy
  have hyh := hky.high1
  have hyl := hky.gl.len
  have hkx := hok.at_ hx
  have hxh := hkx.high1
  have hlx := h.len hx
  have hlen := hf.len r x hx
  rw [hyL] at hyh hyl
  have hx'l : x'.es.length = min (x.es.length + 1) L.length := by rw [h3, List.length_take]
  have hHN : (∀ i, i < n → i ≠ r → L.length + 1 ≤ c i) → L.length ≤ c r → H = L.length := fun hall hcr => by
    have hle : (L.length : Int) ≤ leastA p.isr (p.known.set r x.es.length) 400 := by
      rw [h.isr]
      refine least_ge n _ _ _ (by omega) fun i v hv => ?_
      rcases set_get hv with ⟨rfl, rfl⟩ | ⟨hi, hv⟩
      · omega
      · have hin : i < n := by have := (getE hv).1; have := hok.knownl; omega
        have h1 := hall i hin hi
        have := hf.known i v hv (by omega)
        omega
    omega
  have hget : ∀ (i : Nat) (z : RA), ((p.reps.set 0 { y with high := H }).set r x')[i]? = some z → (i = r ∧ z = x') ∨ (i ≠ r ∧ i = 0 ∧ z = { y with high := H }) ∨ (i ≠ r ∧ i ≠ 0 ∧ p.reps[i]? = some z) := fun i z hz => by
    rcases set_get hz with ⟨h1, h2⟩ | ⟨h1, hz⟩
    · exact .inl ⟨h1, h2⟩
    · rcases set_get hz with ⟨h2, h3⟩ | ⟨h2, hz⟩
      · exact .inr (.inl ⟨h1, h2, h3⟩)
      · exact .inr (.inr ⟨h1, h2, hz⟩)
  refine ⟨fun i z hz => ?_, fun i v hv hc => ?_, fun h1 => ⟨fun z hz => ?_, fun v hv => ?_⟩, fun hall z hz => ?_, fun i z hz hi hc => ?_⟩
  · rcases hget i z hz with ⟨rfl, rfl⟩ | ⟨h1, rfl, rfl⟩ | ⟨h1, h2, hz⟩
    · rw [if_pos rfl]; omega
    · rw [if_neg h1]; dsimp only; rw [hyL]; omega
    · rw [if_neg h1]; exact hf.len i z hz
  · rcases set_get hv with ⟨rfl, rfl⟩ | ⟨hi, hv⟩
    · rw [if_pos rfl]; omega
    · rw [if_neg hi] at hc ⊢; exact hf.known i v hv hc
  · rw [if_neg (Ne.symm hr)] at h1
    rcases hget 0 z hz with ⟨h0, _⟩ | ⟨_, _, rfl⟩ | ⟨_, h0, _⟩
    · exact absurd h0.symm hr
    · exact (hf.safe h1).1 y hy
    · exact absurd rfl h0
  · rw [if_neg (Ne.symm hr)] at h1
    rcases set_get hv with ⟨h0, _⟩ | ⟨_, hv⟩
    · exact absurd h0.symm hr
    · exact (hf.safe h1).2 v hv
  · rcases hget 0 z hz with ⟨h0, _⟩ | ⟨_, _, rfl⟩ | ⟨_, h0, _⟩
    · exact absurd h0.symm hr
    · exact hHN (fun i hi hir => by have := hall i hi; rwa [if_neg hir] at this) (by have := hall r (by have := (getE hx).1; omega); rw [if_pos rfl] at this; omega)
    · exact absurd rfl h0
  · rcases hget i z hz with ⟨rfl, rfl⟩ | ⟨_, h0, _⟩ | ⟨h1, _, hz⟩
    · rw [if_pos rfl] at hc
      have := hHN (fun j hj _ => by have := hmin j hj; omega) (by omega)
      omega
    · exact absurd h0 hi
    · rw [if_neg h1] at hc; exact hf.high i z hz hi hc
theorem far_start (hn : 1 ≤ n) : Far L n p (fun _ => 0) := ⟨fun i x _ => by simp, fun i v _ h => by omega, fun h => by omega, fun h => absurd (h 0 hn) (by omega), fun i x _ _ h => by omega⟩
theorem Far.congr {c c' : Nat → Nat} (hf : Far L n p c) (hok : p.ok) (hn : p.reps.length = n) (hn1 : 1 ≤ n) (hc : ∀ i, i < n → c i = c' i) : Far L n p c' :=
  ⟨fun i x hx => by rw [← hc i (by have := (getE hx).1; omega)]; exact hf.len i x hx, fun i v hv => by rw [← hc i (by have := (getE hv).1; have := hok.knownl; omega)]; exact hf.known i v hv, by rw [← hc 0 hn1]; exact hf.safe, fun h => hf.high0 fun i hi => by rw [hc i hi]; exact h i hi, fun i x hx => by rw [← hc i (by have := (getE hx).1; omega)]; exact hf.high i x hx⟩
theorem calm_fetch0 (h : Calm L n p) : (fetchA p 0).2.2 = 8 := by
  obtain ⟨y, hy, -⟩ := h.log
  unfold fetchA
  rw [hy]
  dsimp only
  rw [if_pos (.inr h.lead)]
def calmR (r : Nat) (p : PaA) : PaA := if r = 0 then (syncA p 0).1 else (fetchA (syncA p r).1 r).1
/-- a replica is looked after -/
theorem calmR_ok {c : Nat → Nat} {K : List Ent} {m : Nat} {few : Int} (hg : Gd Plain K m n few p) (h : Calm L n p) (hf : Far L n p c) (hr : r < n) (hmin : ∀ i, i < n → c r ≤ c i) :
    (syncA p r).2 = 0 ∧ (∃ K', Gd Plain K' m n few (syncA p r).1) ∧ Calm L n (syncA p r).1 ∧ (∃ K', Gd Plain K' m n few (calmR r p)) ∧ Calm L n (calmR r p) ∧ Far L n (calmR r p) (fun i => if i = r then c i + 1 else c i) ∧ (r ≠ 0 → (fetchA (syncA p r).1 r).2.2 = 0) := by
  obtain ⟨x, hx⟩ : ∃ x, p.reps[r]? = some x := ⟨_, List.getElem?_eq_getElem (by rw [hg.len]; exact hr)⟩
  obtain ⟨h1, h2⟩ := calm_sync_at h hx
  obtain ⟨K1, -, g1⟩ := sync_gd hg h1
  have c1 := calm_sync h hx
  refine ⟨h1, ⟨K1, g1⟩, c1, ?_⟩
  unfold calmR
  by_cases hr0 : r = 0
  · subst hr0
    rw [if_pos rfl]
    exact ⟨⟨K1, g1⟩, c1, far_sync0 h hg.ok hg.len hf hx, fun h => absurd rfl h⟩
  · rw [if_neg hr0]
    rw [if_neg hr0] at h2
    have hx1 : (syncA p r).1.reps[r]? = some { x with s := x.es.length } := by rw [h2]; exact List.getElem?_set_self (getE hx).1
    have f1 : Far L n (syncA p r).1 c := by rw [h2]; exact far_same hf hr0 hx
    obtain ⟨y, hy, -⟩ := c1.log
    obtain ⟨e1, -⟩ := calm_fetch_at c1 hr0 hx1 hy
    obtain ⟨K2, -, g2⟩ := fetch_gd g1 e1
    exact ⟨⟨K2, g2⟩, calm_fetch c1 hr0 hx1, far_fetch c1 g1.ok g1.len f1 hr0 hx1 rfl hmin, fun _ => e1⟩
theorem play_calm {n : Nat} (hn : 1 ≤ n) (hn5 : n ≤ 5) : ∀ (l : List Raw), l.length < 400 → ∃ L, Calm L n (playA n 1 false l).1 ∧ L.length ≤ l.length := by
  intro l
  induction l using snoc_ind with
  | h0 =>
    intro _
    refine ⟨[], ?_, Nat.le_refl _⟩
    obtain ⟨k, rfl⟩ : ∃ k, n = k + 1 := ⟨n - 1, by omega⟩
    obtain ⟨x, hx, hu, hi, hne, hep, hS⟩ := elect_inv (p := newA (k + 1) 1) (r := 0) (by simp [newA]) (elect0 hn)
    show Calm [] (k + 1) (electA (newA (k + 1) 1) 0).1
    rw [hS]
    have hr : ∀ (i : Nat) (x : RA), (newA (k + 1) 1).reps[i]? = some x → x = ⟨true, [], 0, 0⟩ := fun i x hx => List.eq_of_mem_replicate (List.mem_of_getElem? hx)
    refine Calm.adv ⟨rfl, rfl, ⟨x, hx, by rw [hr 0 x hx]⟩, fun i z hz => by rw [hr i z hz], fun i z hz => by rw [hr i z hz]; rfl⟩
  | h1 l r ih =>
    intro hl
    rw [List.length_append, List.length_singleton] at hl
    obtain ⟨L, hc, hL⟩ := ih (by omega)
    obtain ⟨K, hp, hb⟩ := play_ok (hard := false) hn hn5 (Nat.le_refl 1) hn l (by omega)
    have hlen := hp.gd.len
    have hi : pk r.a n < n := pk_lt _ (by omega)
    obtain ⟨x, hx⟩ : ∃ x, (playA n 1 false l).1.reps[pk r.a n]? = some x := ⟨_, List.getElem?_eq_getElem (by rw [hlen]; exact hi)⟩
    have e : playA n 1 false (l ++ [r]) = playS n false (playA n 1 false l) r := by unfold playA; rw [List.foldl_append]; rfl
    rw [e, List.length_append, List.length_singleton]
    show ∃ L', Calm L' n (nextA n false (playA n 1 false l).1 (playA n 1 false l).2.1 r) ∧ _
    unfold nextA
    split
    · rename_i he
      unfold stepA at he ⊢
      split
      · rename_i hk
        rw [if_pos hk] at he
        obtain ⟨L', h1, h2⟩ := calm_put hc rfl he
        exact ⟨L', h1, by omega⟩
      rename_i hk
      rw [if_neg hk] at he
      split
      · rename_i hk
        rw [if_pos hk] at he
        by_cases h0 : pk r.a n = 0
        · rw [h0] at he
          dsimp only at he
          rw [calm_fetch0 hc] at he
          cases he
        · exact ⟨L, calm_fetch hc h0 hx, by omega⟩
      rename_i hk
      rw [if_pos (.inr rfl)]
      exact ⟨L, calm_sync hc hx, by omega⟩
    · exact ⟨L, hc, by omega⟩
/-- when all is calm -/
theorem calm_end {c : Nat → Nat} {K : List Ent} {m : Nat} {few : Int} (hg : Gd Plain K m n few p) (h : Calm L n p) (hf : Far L n p c) (hc : ∀ i, i < n → L.length + 2 ≤ c i) {i : Nat} {x : RA} (hx : p.reps[i]? = some x) : x.es = L ∧ x.high = L.length ∧ (i = 0 → x.s = L.length) := by
  have hin : i < n := by have := (getE hx).1; have := hg.len; omega
  have h1 := hf.len i x hx
  have h2 := h.len hx
  have h3 := hc i hin
  have hl : x.es.length = L.length := by omega
  refine ⟨by rw [h.pre i x hx, hl, List.take_length], ?_, fun h0 => ?_⟩
  · by_cases h0 : i = 0
    · subst h0
      exact hf.high0 (fun j hj => by have := hc j hj; omega) x hx
    · exact hf.high i x hx h0 h3
  · subst h0
    exact (hf.safe (by omega)).1 x hx
end Go.Proofs.Ytemnchkebhclpaa
