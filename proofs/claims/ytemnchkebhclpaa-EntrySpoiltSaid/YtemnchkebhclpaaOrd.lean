/- Ord: a part of the proofs over this seat: what stands in its theorems holds for every input that they name. -/
import Derived.Test.YtemnchkebhclpaaEng6
import Derived.Orders
namespace Go.Eng
open Go Go.RowKit

abbrev Fct := World → Prop
/-- run in the world w the operation leaves what is there as it is, and yields what V says -/
def exA (P : Program) (o : Oper) (a : Act) (V : Value → Fct) (w : World) : Prop :=
  match (execOp a.eval o).run P w with
  | .ok (.value u) w' => Below w.heap.size w w' ∧ V u w'
  | .ok (.enter f vs) w' => w' = w ∧ Calls P f vs w fun e w2 => ∃ u, e = .returned u ∧ Below w.heap.size w w2 ∧ V u w2
  | _ => False
/-- one value, whatever the world (of C) -/
def ex1 (P : Program) (o : Oper) (a : Act) (C : Fct) (v : Value) : Prop := ∀ w, C w → (execOp a.eval o).run P w = .ok (.value v) w

section
variable {P : Program} {ops : Array Oper} {md : Region.Mode} {C : Fct} {S lo pu : List Nat} {spec : Nat → Value → Fct} {Q : Exit → Act → World → Prop}

/-- one operation, what follows being K -/
def opA (P : Program) (ops : Array Oper) (C : Fct) (lo pu : List Nat) (spec : Nat → Value → Fct) (i : Nat) (K : Act → Fct → Prop) (a : Act) (Fc : Fct) : Prop :=
  match ops[i]? with
  | none => False
  | some o =>
    if Region.wanted o (yielded ops a.tmps) = true then
      if lo.contains i = true then (∀ w, C w → exA P o a (spec i) w) ∧ ∀ v, (∃ w, C w ∧ spec i v w) → K (a.put o.dst v) (fun w => Fc w ∧ spec i v w)
      else ∃ v, ex1 P o a (if pu.contains i then fun _ => True else C) v ∧ K (a.put o.dst v) Fc
    else K (a.put o.dst undef) Fc
theorem opA_mono {i : Nat} {K K' : Act → Fct → Prop} {a : Act} {Fc Fc' : Fct} (hk : ∀ a f f', (∀ w, f' w → f w) → K a f → K' a f') (hf : ∀ w, Fc' w → Fc w) (h : opA P ops C lo pu spec i K a Fc) : opA P ops C lo pu spec i K' a Fc' := by
  unfold opA at *
  split at h
  · exact h.elim
  · split
    · rename_i hw
      rw [if_pos hw] at h
      split
      · rename_i hl
        rw [if_pos hl] at h
        exact ⟨h.1, fun v hv => hk _ _ _ (fun w hw => ⟨hf w hw.1, hw.2⟩) (h.2 v hv)⟩
      · rename_i hl
        rw [if_neg hl] at h
        obtain ⟨v, h1, h2⟩ := h
        exact ⟨v, h1, hk _ _ _ hf h2⟩
    · rename_i hw
      rw [if_neg hw] at h
      exact hk _ _ _ hf h

def wpG (P : Program) (md : Region.Mode) (ops : Array Oper) (C : Fct) (S lo pu : List Nat) (spec : Nat → Value → Fct) (Q : Exit → Act → World → Prop) : Nat → Array Bool → Act → Fct → Prop
  | 0, listed, a, Fc => Region.ready md ops listed = [] ∧ ∀ w, C w → Fc w → Q .normal a w
  | f + 1, listed, a, Fc => (Region.ready md ops listed = [] → ∀ w, C w → Fc w → Q .normal a w) ∧ ∀ i ∈ Region.ready md ops listed,
      if S.contains i = true then ∀ w, C w → Fc w → wpOp P ops Q i (wpAny P md ops Q f (listed.setIfInBounds i true)) a w
      else opA P ops C lo pu spec i (wpG P md ops C S lo pu spec Q f (listed.setIfInBounds i true)) a Fc
theorem wpG_mono : ∀ (f : Nat) (listed : Array Bool) (a : Act) (Fc Fc' : Fct), (∀ w, Fc' w → Fc w) → wpG P md ops C S lo pu spec Q f listed a Fc → wpG P md ops C S lo pu spec Q f listed a Fc'
  | 0, _, _, _, _, hf, h => ⟨h.1, fun w hc hw => h.2 w hc (hf w hw)⟩
  | f + 1, _, _, _, _, hf, h => ⟨fun hr w hc hw => h.1 hr w hc (hf w hw), fun i hi => by
      have := h.2 i hi
      split
      · rename_i hs; rw [if_pos hs] at this; exact fun w hc hw => this w hc (hf w hw)
      · rename_i hs; rw [if_neg hs] at this; exact opA_mono (fun a f1 f2 h12 hk => wpG_mono f _ a f1 f2 h12 hk) hf this⟩

theorem wpG_sound (hC : ∀ w w', C w → Below w.heap.size w w' → C w') (hsp : ∀ i v w w', C w → Below w.heap.size w w' → spec i v w → spec i v w') :
    ∀ (f : Nat) (listed : Array Bool) (a : Act) (Fc : Fct), (∀ w w', C w → Below w.heap.size w w' → Fc w → Fc w') → wpG P md ops C S lo pu spec Q f listed a Fc → ∀ w, C w → Fc w → wpAny P md ops Q f listed a w
  | 0, _, _, _, _, h, w, hc, hw => ⟨h.1, h.2 w hc hw⟩
  | f + 1, listed, a, Fc, hF, h, w, hc, hw => ⟨fun hr => h.1 hr w hc hw, fun i hi => by
      have hk := h.2 i hi
      split at hk
      · exact hk w hc hw
      · unfold opA at hk
        unfold wpOp
        split at hk
        · exact hk.elim
        · rename_i o ho
          simp only [ho]
          split at hk
          · rename_i hwt
            rw [if_pos hwt]
            refine .inl ?_
            split at hk
            · obtain ⟨h1, h2⟩ := hk
              have h3 := h1 w hc
              unfold exA at h3
              unfold Oper.wp
              generalize (execOp a.eval o).run P w = r at *
              cases r with
              | halt x w' => exact h3.elim
              | ok n w' =>
                cases n <;> simp only at h3 <;> simp only [Oper.upon]
                case value u => exact wpG_sound hC hsp f _ _ _ (fun w w' hc hb hx => ⟨hF w w' hc hb hx.1, hsp _ _ _ _ hc hb hx.2⟩) (h2 u ⟨w', hC w w' hc h3.1, h3.2⟩) w' (hC w w' hc h3.1) ⟨hF w w' hc h3.1 hw, h3.2⟩
                case enter g vs =>
                  obtain ⟨rfl, hcl⟩ := h3
                  exact hcl.mono fun e w2 ⟨u, he, hb, hv⟩ => by
                    subst he
                    exact wpG_sound hC hsp f _ _ _ (fun w w' hc hb hx => ⟨hF w w' hc hb hx.1, hsp _ _ _ _ hc hb hx.2⟩) (h2 u ⟨w2, hC _ w2 hc hb, hv⟩) w2 (hC _ w2 hc hb) ⟨hF _ w2 hc hb hw, hv⟩
            · obtain ⟨v, h1, h2⟩ := hk
              have h3 := h1 w (by split <;> trivial)
              unfold Oper.wp
              rw [h3]
              exact wpG_sound hC hsp f _ _ _ hF h2 w hc hw
          · rename_i hwt
            rw [if_neg hwt]
            exact wpG_sound hC hsp f _ _ _ hF hk w hc hw⟩

theorem exA_put {oj : Oper} (hsj : ∀ cs b, oj.op ≠ .select cs b) {a : Act} {d : Option Tmp} {v : Value} {V : Value → Fct} {w : World} (h : ∀ x, d = some x → x ∉ oj.looksAt ops) : exA P oj (a.put d v) V w ↔ exA P oj a V w := by
  unfold exA; rw [execOp_put oj hsj a d v h]
theorem ex1_put {oj : Oper} (hsj : ∀ cs b, oj.op ≠ .select cs b) {a : Act} {d : Option Tmp} {v u : Value} {D : Fct} (h : ∀ x, d = some x → x ∉ oj.looksAt ops) : ex1 P oj (a.put d v) D u ↔ ex1 P oj a D u := by
  unfold ex1; rw [execOp_put oj hsj a d v h]
theorem exA_some {o : Oper} {a : Act} {V : Value → Fct} {w : World} (hC : ∀ w w', C w → Below w.heap.size w w' → C w') (hc : C w) (h : exA P o a V w) : ∃ v w', C w' ∧ V v w' := by
  unfold exA at h
  split at h
  · rename_i u w' _; exact ⟨u, w', hC _ _ hc h.1, h.2⟩
  · rename_i f vs w' _
    obtain ⟨hw, hcl⟩ := h
    obtain ⟨e, w2, fr, ⟨u, _, hb, hv⟩, _⟩ := hcl []
    exact ⟨u, w2, hC _ _ hc hb, hv⟩
  · exact h.elim

theorem opA_some {i : Nat} {K : Act → Fct → Prop} {a : Act} {Fc : Fct} (hC : ∀ w w', C w → Below w.heap.size w w' → C w') (h0 : ∃ w, C w) (h : opA P ops C lo pu spec i K a Fc) : ∃ a' f', K a' f' := by
  obtain ⟨w, hc⟩ := h0
  unfold opA at h
  split at h
  · exact h.elim
  · split at h
    · split at h
      · obtain ⟨v, w', hw', hv⟩ := exA_some hC hc (h.1 w hc)
        exact ⟨_, _, h.2 v ⟨w', hw', hv⟩⟩
      · obtain ⟨v, _, hk⟩ := h; exact ⟨_, _, hk⟩
    · exact ⟨_, _, h⟩

theorem ex1_uniq {o : Oper} {a : Act} {D : Fct} {u v : Value} (h0 : ∃ w, D w) (h : ex1 P o a D u) (h' : ex1 P o a D v) : u = v := by
  obtain ⟨w, hw⟩ := h0
  have := (h w hw).symm.trans (h' w hw)
  simpa using this

theorem opA_swap {i j : Nat} {oi oj : Oper} {K : Act → Fct → Prop} (hC : ∀ w w', C w → Below w.heap.size w w' → C w') (h0 : ∃ w, C w) (hK : ∀ a f f', (∀ w, f' w → f w) → K a f → K a f')
    (hi : ops[i]? = some oi) (hj : ops[j]? = some oj) (hap : oi.apart ops oj = true) (hsi : ∀ cs b, oi.op ≠ .select cs b) (hsj : ∀ cs b, oj.op ≠ .select cs b) {a : Act} {Fc : Fct}
    (h : opA P ops C lo pu spec i (opA P ops C lo pu spec j K) a Fc) : opA P ops C lo pu spec j (opA P ops C lo pu spec i K) a Fc := by
  obtain ⟨h1, h2, h3⟩ := Oper.apart_spec hap
  have hD : ∀ b : Bool, ∃ w, (if b = true then (fun _ => True : Fct) else C) w := fun b => by
    obtain ⟨w, hw⟩ := h0
    exact ⟨w, by cases b <;> first | exact hw | trivial⟩
  have wj : ∀ v, Region.wanted oj (yielded ops (a.put oi.dst v).tmps) = Region.wanted oj (yielded ops a.tmps) := fun v => wanted_put oj a oi.dst v h1
  have wi : ∀ v, Region.wanted oi (yielded ops (a.put oj.dst v).tmps) = Region.wanted oi (yielded ops a.tmps) := fun v => wanted_put oi a oj.dst v h3
  have pc : ∀ v u, (a.put oi.dst v).put oj.dst u = (a.put oj.dst u).put oi.dst v := fun v u => Act.put_comm a v u h2
  unfold opA at h ⊢
  simp only [hi, hj, wj, wi] at h ⊢
  by_cases hwi : Region.wanted oi (yielded ops a.tmps) = true
  · by_cases hwj : Region.wanted oj (yielded ops a.tmps) = true
    · simp only [hwi, hwj, if_true] at h ⊢
      by_cases hli : lo.contains i = true
      · by_cases hlj : lo.contains j = true
        · simp only [hli, hlj, if_true] at h ⊢
          obtain ⟨e1, e2⟩ := h
          refine ⟨fun w hw => ?_, fun u hu => ⟨fun w hw => (exA_put hsi h3).2 (e1 w hw), fun v hv => ?_⟩⟩
          · obtain ⟨v, w', hw', hv⟩ := exA_some hC hw (e1 w hw)
            exact (exA_put hsj h1).1 ((e2 v ⟨w', hw', hv⟩).1 w hw)
          · rw [← pc]
            exact hK _ _ _ (fun w hw => ⟨⟨hw.1.1, hw.2⟩, hw.1.2⟩) ((e2 v hv).2 u hu)
        · simp only [hli, hlj, if_true, if_false, Bool.false_eq_true] at h ⊢
          obtain ⟨e1, e2⟩ := h
          obtain ⟨w0, hw0⟩ := h0
          obtain ⟨v0, w', hw', hv0⟩ := exA_some hC hw0 (e1 w0 hw0)
          obtain ⟨u, hu, _⟩ := e2 v0 ⟨w', hw', hv0⟩
          have hu' := (ex1_put hsj h1).1 hu
          refine ⟨u, hu', fun w hw => (exA_put hsi h3).2 (e1 w hw), fun v hv => ?_⟩
          obtain ⟨u2, hu2, hk⟩ := e2 v hv
          obtain rfl := ex1_uniq (hD _) hu' ((ex1_put hsj h1).1 hu2)
          rw [← pc]
          exact hk
      · by_cases hlj : lo.contains j = true
        · simp only [hli, hlj, if_true, if_false, Bool.false_eq_true] at h ⊢
          obtain ⟨v, e1, e2, e3⟩ := h
          exact ⟨fun w hw => (exA_put hsj h1).1 (e2 w hw), fun u hu => ⟨v, (ex1_put hsi h3).2 e1, by rw [← pc]; exact e3 u hu⟩⟩
        · simp only [hli, hlj, if_false, Bool.false_eq_true] at h ⊢
          obtain ⟨v, e1, u, e2, e3⟩ := h
          exact ⟨u, (ex1_put hsj h1).1 e2, v, (ex1_put hsi h3).2 e1, by rw [← pc]; exact e3⟩
    · simp only [hwi, hwj, if_true, if_false, Bool.false_eq_true] at h ⊢
      by_cases hli : lo.contains i = true
      · simp only [hli, if_true] at h ⊢
        exact ⟨fun w hw => (exA_put hsi h3).2 (h.1 w hw), fun v hv => by rw [← pc]; exact h.2 v hv⟩
      · simp only [hli, if_false, Bool.false_eq_true] at h ⊢
        obtain ⟨v, e1, e2⟩ := h
        exact ⟨v, (ex1_put hsi h3).2 e1, by rw [← pc]; exact e2⟩
  · by_cases hwj : Region.wanted oj (yielded ops a.tmps) = true
    · simp only [hwi, hwj, if_true, if_false, Bool.false_eq_true] at h ⊢
      by_cases hlj : lo.contains j = true
      · simp only [hlj, if_true] at h ⊢
        exact ⟨fun w hw => (exA_put hsj h1).1 (h.1 w hw), fun u hu => by rw [← pc]; exact h.2 u hu⟩
      · simp only [hlj, if_false, Bool.false_eq_true] at h ⊢
        obtain ⟨u, e2, e3⟩ := h
        exact ⟨u, (ex1_put hsj h1).1 e2, by rw [← pc]; exact e3⟩
    · simp only [hwi, hwj, if_false, Bool.false_eq_true] at h ⊢
      rw [← pc]; exact h

/-- j waits for i, by one edge or more -/
def depB (md : Region.Mode) (ops : Array Oper) (i : Nat) : Nat → Nat → Bool
  | 0, _ => false
  | f + 1, j => match ops[j]? with
    | some oj => oj.after.any fun e => Region.binds md e && (Nat.beq e.on i || depB md ops i f e.on)
    | none => false
def Clo (md : Region.Mode) (ops : Array Oper) (listed : Array Bool) : Prop := ∀ k ok, ops[k]? = some ok → listed.getD k true = true → ∀ e ∈ ok.after, Region.binds md e = true → listed.getD e.on true = true
theorem getD_ft {listed : Array Bool} {j : Nat} (h : listed.getD j false = true) : listed.getD j true = true := by
  rcases Nat.lt_or_ge j listed.size with h' | h'
  · simp [h'] at h ⊢; exact h
  · simp [Array.getElem?_eq_none h'] at h
theorem getD_set_tt {listed : Array Bool} {i j : Nat} (h : listed.getD j true = true) : (listed.setIfInBounds i true).getD j true = true := by
  by_cases hij : i = j
  · subst hij
    rcases Nat.lt_or_ge i listed.size with h' | h'
    · simp [h']
    · simp [h']
  · rw [getD_set_ne true hij]; exact h
theorem Clo.put {listed : Array Bool} {j : Nat} (h : Clo md ops listed) (hj : j ∈ Region.ready md ops listed) : Clo md ops (listed.setIfInBounds j true) := fun k ok hk hl e he hb => by
  refine getD_set_tt ?_
  by_cases hjk : j = k
  · subst hjk
    obtain ⟨-, o, ho, hall⟩ := mem_ready.1 hj
    rw [ho] at hk
    obtain rfl := Option.some.inj hk
    exact getD_ft (hall e he hb)
  · rw [getD_set_ne true hjk] at hl
    exact h k ok hk hl e he hb
theorem Clo.dep {listed : Array Bool} {i : Nat} (h : Clo md ops listed) (hi : listed.getD i true = false) : ∀ (f j : Nat), depB md ops i f j = true → listed.getD j true = false
  | 0, _, hd => by cases hd
  | f + 1, j, hd => by
    unfold depB at hd
    split at hd
    · rename_i oj hoj
      obtain ⟨e, he, hb⟩ := Array.any_eq_true'.1 hd
      simp only [Bool.and_eq_true, Bool.or_eq_true] at hb
      obtain ⟨hb, hon⟩ := hb
      cases hl : listed.getD j true with
      | false => rfl
      | true =>
        have h1 := h j oj hoj hl e he hb
        rcases hon with hon | hon
        · rw [Nat.eq_of_beq_eq_true hon, hi] at h1; cases h1
        · rw [h.dep hi f _ hon] at h1; cases h1
    · cases hd
theorem Clo.unready {listed : Array Bool} {i f j : Nat} (h : Clo md ops listed) (hi : listed.getD i true = false) (hd : depB md ops i f j = true) : ¬ j ∈ Region.ready md ops listed := fun hj => by
  cases f with
  | zero => cases hd
  | succ f =>
    obtain ⟨-, o, ho, hall⟩ := mem_ready.1 hj
    unfold depB at hd
    rw [ho] at hd
    obtain ⟨e, he, hb⟩ := Array.any_eq_true'.1 hd
    simp only [Bool.and_eq_true, Bool.or_eq_true] at hb
    obtain ⟨hb, hon⟩ := hb
    have h1 := getD_ft (hall e he hb)
    rcases hon with hon | hon
    · rw [Nat.eq_of_beq_eq_true hon, hi] at h1; cases h1
    · rw [h.dep hi f _ hon] at h1; cases h1

theorem wpG_first {i : Nat} {oi : Oper} (hC : ∀ w w', C w → Below w.heap.size w w' → C w') (h0 : ∃ w, C w) (hi : ops[i]? = some oi) (hsel : ∀ (j : Nat) (o : Oper) cs b, ops[j]? = some o → o.op ≠ .select cs b)
    (hiS : S.contains i = false) (hlp : pu.contains i = true → lo.contains i = false)
    (hB : pu.contains i = false → ∀ j, S.contains j = true → depB md ops i 8 j = true)
    (hQ : ∀ c a w, ¬ Q (.panic c) a w) :
    ∀ (f : Nat) (listed : Array Bool) (a : Act) (Fc : Fct), Clo md ops listed →
      (∀ j oj, ops[j]? = some oj → j ≠ i → listed.getD j true = false → (∀ e ∈ oj.after, Region.binds md e = true → e.on ≠ i) → oi.apart ops oj = true) →
      i ∈ Region.ready md ops listed → opA P ops C lo pu spec i (wpG P md ops C S lo pu spec Q f (listed.setIfInBounds i true)) a Fc → wpG P md ops C S lo pu spec Q (f + 1) listed a Fc := by
  intro f
  induction f with
  | zero =>
    intro listed a Fc _ _ hr H
    refine ⟨fun h => (by rw [h] at hr; cases hr), fun j hj => ?_⟩
    by_cases hji : j = i
    · subst hji; rw [if_neg (by rw [hiS]; simp)]; exact H
    · obtain ⟨a', f', hk⟩ := opA_some hC h0 H
      have := ready_mono hj hji
      rw [hk.1] at this
      cases this
  | succ f ih =>
    intro listed a Fc hclo hfree hr H
    refine ⟨fun h => (by rw [h] at hr; cases hr), fun j hj => ?_⟩
    by_cases hji : j = i
    · subst hji; rw [if_neg (by rw [hiS]; simp)]; exact H
    · obtain ⟨hjun, oj, hoj, hall⟩ := mem_ready.1 hj
      have hnot : ∀ e ∈ oj.after, Region.binds md e = true → e.on ≠ i := fun e he hb heq => by
        have h1 := hall e he hb
        have h0 := (mem_ready.1 hr).1
        rw [heq] at h1
        rcases Nat.lt_or_ge i listed.size with h' | h'
        · simp [h'] at h0 h1; rw [h0] at h1; cases h1
        · simp [Array.getElem?_eq_none h'] at h1
      have hapt := hfree j oj hoj hji hjun hnot
      have hfree' : ∀ k ok, ops[k]? = some ok → k ≠ i → (listed.setIfInBounds j true).getD k true = false →
          (∀ e ∈ ok.after, Region.binds md e = true → e.on ≠ i) → oi.apart ops ok = true := fun k ok hk hki hun hno => by
        refine hfree k ok hk hki ?_ hno
        by_cases hjk : j = k
        · subst hjk; exact hjun
        · rw [getD_set_ne true hjk] at hun; exact hun
      split
      · rename_i hjS
        cases hp : pu.contains i with
        | false =>
          exact absurd hj (hclo.unready (mem_ready.1 hr).1 (hB hp j hjS))
        | true =>
          intro w hc hw
          have hy : ∃ v, Yields P ops oi v a ∧ wpG P md ops C S lo pu spec Q (f + 1) (listed.setIfInBounds i true) (a.put oi.dst v) Fc := by
            unfold opA at H
            simp only [hi, hlp hp, hp, if_true, Bool.false_eq_true, if_false] at H
            by_cases hwi : Region.wanted oi (yielded ops a.tmps) = true
            · simp only [hwi, if_true] at H
              obtain ⟨v, e1, e2⟩ := H
              exact ⟨v, .inl ⟨hwi, fun w => e1 w trivial⟩, e2⟩
            · simp only [hwi, Bool.false_eq_true, if_false] at H
              exact ⟨undef, .inr ⟨by simpa using hwi, rfl⟩, H⟩
          obtain ⟨v, hy, hG⟩ := hy
          have h1 := hG.2 j (ready_mono hj hji)
          rw [if_pos hjS] at h1
          have h2 := wpOp_put hoj hapt (fun cs b => hsel i oi cs b hi) (fun cs b => hsel j oj cs b hoj) (fun c a w h => absurd h (hQ c _ w)) hy (h1 w hc hw)
          refine wpOp_mono (fun a' w' h3 => wpAny_first hi hsel (fun c a w h => absurd h (hQ c _ w)) f (listed.setIfInBounds j true) a' w' hfree' (ready_mono hr (Ne.symm hji)) h3.1 ?_) h2
          rw [Array.setIfInBounds_comm _ _ hji]
          exact h3.2
      · rename_i hjS
        have h1 : opA P ops C lo pu spec i (opA P ops C lo pu spec j (wpG P md ops C S lo pu spec Q f ((listed.setIfInBounds i true).setIfInBounds j true))) a Fc :=
          opA_mono (fun a' f1 f2 h12 hk => by
            have h4 := hk.2 j (ready_mono hj hji)
            rw [if_neg hjS] at h4
            exact opA_mono (fun a'' g1 g2 hg hk' => wpG_mono f _ a'' g1 g2 hg hk') h12 h4) (fun _ h => h) H
        have h2 := opA_swap hC h0 (fun a f1 f2 h12 hk => wpG_mono f _ a f1 f2 h12 hk) hi hoj hapt (fun cs b => hsel i oi cs b hi) (fun cs b => hsel j oj cs b hoj) h1
        refine opA_mono (fun a' f1 f2 h12 h3 => ih (listed.setIfInBounds j true) a' f2 (hclo.put hj) hfree' (ready_mono hr (Ne.symm hji)) ?_) (fun _ h => h) h2
        rw [Array.setIfInBounds_comm _ _ hji]
        exact opA_mono (fun a f1 f2 hfg hk => wpG_mono f _ a f1 f2 hfg hk) h12 h3

/-- the operations of 'ord' in their order, then those of S: the Bool -/
def ordB (md : Region.Mode) (ops : Array Oper) (S pu lo : List Nat) : List Nat → Array Bool → Bool
  | [], listed => seqB S listed
  | i :: r, listed => (Region.ready md ops listed).contains i && Region.free md ops listed i && !S.contains i && !(pu.contains i && lo.contains i) &&
      (pu.contains i || S.all fun j => depB md ops i 8 j) && ordB md ops S pu lo r (listed.setIfInBounds i true)
where seqB : List Nat → Array Bool → Bool
  | [], listed => (Region.ready md ops listed).isEmpty
  | j :: r, listed => (match Region.ready md ops listed with | [k] => Nat.beq k j | _ => false) && seqB r (listed.setIfInBounds j true)

/-- the walk in that order -/
def wpR (P : Program) (ops : Array Oper) (C : Fct) (lo pu : List Nat) (spec : Nat → Value → Fct) (T : Act → Fct → Prop) : List Nat → Act → Fct → Prop
  | [], a, Fc => T a Fc
  | i :: r, a, Fc => opA P ops C lo pu spec i (wpR P ops C lo pu spec T r) a Fc

theorem wpAny_seq : ∀ (S : List Nat) (listed : Array Bool) (a : Act) (w : World), ordB.seqB md ops S listed = true → wpOps P ops Q S a w → wpAny P md ops Q S.length listed a w
  | [], listed, a, w, hB, h => ⟨by simpa [ordB.seqB] using hB, by simpa [wpOps] using h⟩
  | j :: r, listed, a, w, hB, h => by
    simp only [ordB.seqB, Bool.and_eq_true] at hB
    obtain ⟨h1, h2⟩ := hB
    split at h1
    · rename_i k hk
      obtain rfl := Nat.eq_of_beq_eq_true h1
      refine ⟨fun h => (by rw [hk] at h; cases h), fun i hi => ?_⟩
      rw [hk] at hi
      obtain rfl := List.mem_singleton.1 hi
      rw [wpOps_cons] at h
      exact wpOp_mono (fun a w h => wpAny_seq r _ a w h2 h) h
    · cases h1
theorem wpG_seq (S' : List Nat) (hS : ∀ j ∈ S', S.contains j = true) (listed : Array Bool) (a : Act) (Fc : Fct) (hB : ordB.seqB md ops S' listed = true) (h : ∀ w, C w → Fc w → wpOps P ops Q S' a w) : wpG P md ops C S lo pu spec Q S'.length listed a Fc := by
  cases S' with
  | nil => exact ⟨by simpa [ordB.seqB] using hB, fun w hc hw => by simpa [wpOps] using h w hc hw⟩
  | cons j r =>
    have hB' := hB
    simp only [ordB.seqB, Bool.and_eq_true] at hB
    obtain ⟨h1, h2⟩ := hB
    split at h1
    · rename_i k hk
      obtain rfl := Nat.eq_of_beq_eq_true h1
      refine ⟨fun h => (by rw [hk] at h; cases h), fun i hi => ?_⟩
      rw [hk] at hi
      obtain rfl := List.mem_singleton.1 hi
      rw [if_pos (hS i (List.mem_cons_self ..))]
      intro w hc hw
      have := h w hc hw
      rw [wpOps_cons] at this
      exact wpOp_mono (fun a w h => wpAny_seq r _ a w h2 h) this
    · cases h1

theorem wpG_ord (hC : ∀ w w', C w → Below w.heap.size w w' → C w') (h0 : ∃ w, C w) (hsel : ∀ (j : Nat) (o : Oper) cs b, ops[j]? = some o → o.op ≠ .select cs b) (hQ : ∀ c a w, ¬ Q (.panic c) a w) :
    ∀ (ord : List Nat) (listed : Array Bool) (a : Act) (Fc : Fct), Clo md ops listed → ordB md ops S pu lo ord listed = true → wpR P ops C lo pu spec (fun a' F' => ∀ w, C w → F' w → wpOps P ops Q S a' w) ord a Fc →
      wpG P md ops C S lo pu spec Q (ord.length + S.length) listed a Fc
  | [], listed, a, Fc, _, hB, h => by
    have := wpG_seq (P := P) (C := C) (S := S) (lo := lo) (pu := pu) (spec := spec) (Q := Q) S (fun j hj => by simpa using hj) listed a Fc hB h
    simpa using this
  | i :: r, listed, a, Fc, hclo, hB, h => by
    simp only [ordB, Bool.and_eq_true] at hB
    obtain ⟨⟨⟨⟨⟨hr, hf⟩, hS⟩, hl⟩, hw⟩, hB'⟩ := hB
    have hi : ∃ oi, ops[i]? = some oi := by
      cases ho : ops[i]? with
      | none => unfold wpR opA at h; simp only [ho] at h
      | some o => exact ⟨o, rfl⟩
    obtain ⟨oi, hi⟩ := hi
    have := wpG_first (P := P) (C := C) (S := S) (lo := lo) (pu := pu) (spec := spec) (Q := Q) (md := md) hC h0 hi hsel (by simpa using hS) (fun hp => by rw [hp] at hl; simpa using hl) (fun hp j hjS => by
        rw [hp] at hw
        simp only [Bool.false_or] at hw
        exact List.all_eq_true.1 hw j (by simpa using hjS)) hQ (r.length + S.length) listed a Fc hclo (Region.free_spec hi hf) (by simpa using hr)
      (opA_mono (fun a' f1 f2 h12 hk => wpG_mono _ _ a' f1 f2 h12 (wpG_ord hC h0 hsel hQ r _ a' f1 (hclo.put (by simpa using hr)) hB' hk)) (fun _ h => h) h)
    have e : (i :: r).length + S.length = r.length + S.length + 1 := by simp only [List.length_cons]; omega
    rw [e]
    exact this
end

/-- the world class: what was there is as it was -/
def Aft (w : World) : Fct := fun w' => Below w.heap.size w w'
theorem Aft.closed {w : World} : ∀ w1 w2, Aft w w1 → Below w1.heap.size w1 w2 → Aft w w2 := fun _ _ h hb => h.trans (hb.mono h.size)

section
variable {P : Program} {n : Nat} {Q : Post} {ρ : Env} {w : World} {ops : Array Oper}
/-- the walk over a frame -/
def AW (P : Program) (n : Nat) (ops : Array Oper) (C : Fct) (lo pu : List Nat) (spec : Nat → Value → Fct) (T : Env → Fct → Prop) (l : List Nat) (ρ : Env) (Fc : Fct) : Prop :=
  ∀ a, St n ρ a → wpR P ops C lo pu spec (fun a' F' => ∃ ρ', St n ρ' a' ∧ T ρ' F') l a Fc

def pick (ops : Array Oper) (S : List Nat) : List Oper := S.filterMap (ops[·]?)
theorem wpOps_pick {Q' : Exit → Act → World → Prop} : ∀ (S : List Nat), (S.all fun i => (ops[i]?).isSome) = true → wpOps P ops Q' S = wpList P ops Q' (pick ops S)
  | [], _ => by funext a w; simp [wpOps, pick, wpList]
  | i :: r, h => by
    simp only [List.all_cons, Bool.and_eq_true] at h
    obtain ⟨o, ho⟩ := Option.isSome_iff_exists.1 h.1
    have ih := wpOps_pick (Q' := Q') r h.2
    funext a w
    simp only [pick] at ih
    simp only [wpOps, ho, pick, List.filterMap_cons, wpList, ih]

/-- A REGION THAT DRAWS ITS ORDER. ord: all operations but the stores; S: the stores; pu: those of ord that are reckoned out of the frame alone; lo: those whose value is not one (calls, new blocks), spec: what they yield. -/
theorem cw_draw {id : Nat} {l : List Oper} (hm : P.follows .mixedOrders = true) (ord S lo pu : List Nat) (spec : Nat → Value → Fct) (hn : Region.noSelect l.toArray = true) (hB : ordB .any l.toArray S pu lo ord (Array.replicate l.toArray.size false) = true)
    (hS : (S.all fun i => (l.toArray[i]?).isSome) = true) (hl : Nat.beq (ord.length + S.length) l.length = true) (hQ : ∀ c ρ w, ¬ Q (.panic c) ρ w) (hsp : ∀ i v w1 w2, Aft w w1 → Below w1.heap.size w1 w2 → spec i v w1 → spec i v w2)
    (h : AW P n l.toArray (Aft w) lo pu spec (fun ρ' F' => ∀ w', Aft w w' → F' w' → LW P n l.toArray (pick l.toArray S) Q ρ' w') ord ρ (fun _ => True)) : CW P n (.region id l.toArray true) Q ρ w := fun a ha => by
  refine wp_region_any hm ?_
  have hlen : l.toArray.size = ord.length + S.length := by
    have := Nat.eq_of_beq_eq_true hl
    simpa using this.symm
  have hc0 : Aft w { w with drawn := w.drawn + 1 } := (Below.refl w.heap.size w).drew
  have hG := wpG_ord (P := P) (ops := l.toArray) (md := .any) (C := Aft w) (S := S) (lo := lo) (pu := pu) (spec := spec) (Q := low n Q) Aft.closed ⟨_, hc0⟩ (Region.noSelect_spec hn) (fun c a w ⟨ρ, _, hq⟩ => hQ c ρ w hq)
    ord (Array.replicate l.toArray.size false) a (fun _ => True) (fun k ok hk hl => by
      have hlt := (Array.getElem?_eq_some_iff.1 hk).1
      simp only [List.size_toArray] at hlt
      simp [hlt] at hl) hB ?_
  · rw [hlen]
    rw [hlen] at hG
    exact wpG_sound Aft.closed (fun i v w1 w2 h1 h2 h3 => hsp i v w1 w2 h1 h2 h3) _ _ _ _ (fun _ _ _ _ _ => trivial) hG _ hc0 trivial
  · have := h a ha
    have key : ∀ (ord : List Nat) (a : Act) (Fc : Fct), wpR P l.toArray (Aft w) lo pu spec (fun a' F' => ∃ ρ', St n ρ' a' ∧ ∀ w', Aft w w' → F' w' → LW P n l.toArray (pick l.toArray S) Q ρ' w') ord a Fc →
        wpR P l.toArray (Aft w) lo pu spec (fun a' F' => ∀ w', Aft w w' → F' w' → wpOps P l.toArray (low n Q) S a' w') ord a Fc := by
      intro ord
      induction ord with
      | nil =>
        intro a Fc ⟨ρ', hs, hk⟩ w' h1 h2
        rw [wpOps_pick S hS]
        exact hk w' h1 h2 a hs
      | cons i r ih =>
        intro a Fc hk
        exact opA_mono (fun a f1 f2 h12 hk => ih a f2 (by
          have mono : ∀ (r : List Nat) a f1 f2, (∀ w, f2 w → f1 w) → wpR P l.toArray (Aft w) lo pu spec (fun a' F' => ∃ ρ', St n ρ' a' ∧ ∀ w', Aft w w' → F' w' → LW P n l.toArray (pick l.toArray S) Q ρ' w') r a f1 → wpR P l.toArray (Aft w) lo pu spec (fun a' F' => ∃ ρ', St n ρ' a' ∧ ∀ w', Aft w w' → F' w' → LW P n l.toArray (pick l.toArray S) Q ρ' w') r a f2 := by
            intro r
            induction r with
            | nil => intro a f1 f2 h12 ⟨ρ', hs, hk⟩; exact ⟨ρ', hs, fun w' h1 h2 => hk w' h1 (h12 _ h2)⟩
            | cons i r ih => intro a f1 f2 h12 hk; exact opA_mono (fun a f1 f2 h12 hk => ih a f1 f2 h12 hk) h12 hk
          exact mono r a f1 f2 h12 hk)) (fun _ h => h) hk
    exact key ord a _ this
end
end Go.Eng
