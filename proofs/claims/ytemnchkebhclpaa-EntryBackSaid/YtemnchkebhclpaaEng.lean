/- Eng: a part of the proofs over this seat: what stands in its theorems holds for every input that they name. -/
import Derived.WalkKit
namespace Go.Eng
open Go Go.RowKit

abbrev Env := Nat → Value
def upd (ρ : Env) (d : Nat) (v : Value) : Env := fun t => bif Nat.beq t d then v else ρ t
def ev (ρ : Env) : Operand → Value
  | .tmp t => ρ t
  | .const v => v
  | .global g => .pointer (some ⟨g, 0, none⟩)
  | .func f => .func (.func f) #[] #[]
structure St (n : Nat) (ρ : Env) (a : Act) : Prop where
  size : a.tmps.size = n
  get : ∀ t, a.tmps.getD t undef = ρ t
  defers : a.defers = []

theorem St.eval {n : Nat} {ρ : Env} {a : Act} (h : St n ρ a) : a.eval = ev ρ := by
  funext x
  cases x <;> simp [Act.eval, ev, h.get]

theorem St.put {n : Nat} {ρ : Env} {a : Act} (h : St n ρ a) {d : Nat} (hd : Nat.blt d n = true) (v : Value) : St n (upd ρ d v) (a.put (some d) v) := by
  have hd' : d < n := by simpa [Nat.blt_eq] using hd
  refine ⟨by simp [Act.put, h.size], fun t => ?_, by simp [Act.put, h.defers]⟩
  have hg := h.get t
  simp only [Act.put, upd, Array.getD_eq_getD_getElem?, Array.getElem?_setIfInBounds] at hg ⊢
  by_cases htd : d = t
  · subst htd
    simp [h.size, hd']
  · have : Nat.beq t d = false := by
      cases hb : Nat.beq t d
      · rfl
      · exact absurd (Nat.eq_of_beq_eq_true hb).symm htd
    simp [htd, this, hg]

theorem St.put_none {n : Nat} {ρ : Env} {a : Act} (h : St n ρ a) (v : Value) : St n ρ (a.put none v) := h

abbrev Post := Exit → Env → World → Prop
def low (n : Nat) (Q : Post) : Exit → Act → World → Prop := fun e a w => ∃ ρ, St n ρ a ∧ Q e ρ w
def CW (P : Program) (n : Nat) (c : Code) (Q : Post) (ρ : Env) (w : World) : Prop := ∀ a, St n ρ a → c.wp P (low n Q) a w
def LW (P : Program) (n : Nat) (ops : Array Oper) (l : List Oper) (Q : Post) (ρ : Env) (w : World) : Prop := ∀ a, St n ρ a → wpList P ops (low n Q) l a w

@[reducible] def thn (k : Env → World → Prop) (Q : Post) : Post
  | .normal, ρ, w => k ρ w
  | e, ρ, w => Q e ρ w
@[reducible] def iblk (id : Nat) (Q : Post) : Post
  | .exit id', ρ, w => bif Nat.beq id' id then Q .normal ρ w else Q (.exit id') ρ w
  | e, ρ, w => Q e ρ w

section
variable {P : Program} {n : Nat} {Q : Post} {ρ : Env} {w : World}

theorem low_thn {k : Env → World → Prop} {e : Exit} {a : Act} {w : World} (h : low n (thn k Q) e a w) : Exit.then (fun a w => ∃ ρ, St n ρ a ∧ k ρ w) (low n Q) e a w := by
  cases e <;> exact h
theorem low_iblk {id : Nat} {e : Exit} {a : Act} {w : World} (h : low n (iblk id Q) e a w) : Exit.inBlock id (low n Q) e a w := by
  cases e with
  | exit id' =>
    obtain ⟨ρ, hs, hq⟩ := h
    simp only [iblk] at hq
    simp only [Exit.inBlock]
    by_cases hb : id' = id
    · subst hb
      simp at hq
      simp
      exact ⟨ρ, hs, hq⟩
    · have : Nat.beq id' id = false := by
        cases hb' : Nat.beq id' id
        · rfl
        · exact absurd (Nat.eq_of_beq_eq_true hb') hb
      simp [this] at hq
      simp [hb]
      exact ⟨ρ, hs, hq⟩
  | _ => exact h

theorem cw_seq {x y : Code} (h : CW P n x (thn (CW P n y Q) Q) ρ w) : CW P n (.seq x y) Q ρ w := fun a ha =>
  wp_seq (wp_mono (h a ha) fun e a w hq => by
    have := low_thn hq
    cases e with
    | normal => obtain ⟨ρ, hs, hk⟩ := this; exact hk a hs
    | _ => exact this)
theorem cw_region {id : Nat} {l : List Oper} (h : LW P n l.toArray l Q ρ w) : CW P n (.region id l.toArray false) Q ρ w := fun a ha => wp_region_lit (h a ha)
theorem cw_block {id : Nat} {c : Code} (h : CW P n c (iblk id Q) ρ w) : CW P n (.block id c) Q ρ w := fun a ha =>
  wp_block (wp_mono (h a ha) fun _ _ _ hq => low_iblk hq)
theorem cw_skip (h : Q .normal ρ w) : CW P n .skip Q ρ w := fun _ ha => wp_skip ⟨ρ, ha, h⟩
theorem cw_exit {id : Nat} (h : Q (.exit id) ρ w) : CW P n (.exit id) Q ρ w := fun _ ha => wp_exit ⟨ρ, ha, h⟩
theorem cw_ret (h : Q .ret ρ w) : CW P n .ret Q ρ w := fun _ ha => wp_ret ⟨ρ, ha, h⟩
theorem cw_label {l : Nat} (h : Q .normal ρ w) : CW P n (.label l) Q ρ w := fun _ ha => wp_label ⟨ρ, ha, h⟩
theorem cw_goto {l : Nat} (h : Q (.goto l) ρ w) : CW P n (.goto l) Q ρ w := fun _ ha => wp_goto ⟨ρ, ha, h⟩
theorem cw_mono {c : Code} {Q' : Post} (h : CW P n c Q ρ w) (hq : ∀ e ρ w, Q e ρ w → Q' e ρ w) : CW P n c Q' ρ w := fun a ha =>
  wp_mono (h a ha) fun _ _ _ ⟨ρ, hs, h⟩ => ⟨ρ, hs, hq _ _ _ h⟩
theorem cw_true {c : Operand} {x y : Code} (hc : ev ρ c = .bool true) (h : CW P n x Q ρ w) : CW P n (.cond c x y) Q ρ w := fun a ha =>
  wp_cond_true (by rw [ha.eval]; exact hc) (h a ha)
theorem cw_false {c : Operand} {x y : Code} (hc : ev ρ c = .bool false) (h : CW P n y Q ρ w) : CW P n (.cond c x y) Q ρ w := fun a ha =>
  wp_cond_false (by rw [ha.eval]; exact hc) (h a ha)
theorem cw_if {c : Operand} {x y : Code} {b : Bool} (hc : ev ρ c = .bool b) (ht : b = true → CW P n x Q ρ w) (hf : b = false → CW P n y Q ρ w) : CW P n (.cond c x y) Q ρ w := by
  cases b
  · exact cw_false hc (hf rfl)
  · exact cw_true hc (ht rfl)
theorem cw_dec {c : Operand} {x y : Code} {p : Prop} [Decidable p] (hc : ev ρ c = .bool (decide p)) (ht : p → CW P n x Q ρ w) (hf : ¬ p → CW P n y Q ρ w) : CW P n (.cond c x y) Q ρ w :=
  cw_if hc (fun h => ht (of_decide_eq_true h)) (fun h => hf (of_decide_eq_false h))

/-- the slots of M as in ρ', all others as in ρ -/
def ovr (M : List Nat) (ρ ρ' : Env) : Env := fun t => bif M.contains t then ρ' t else ρ t
def updL (ρ : Env) : List (Nat × Value) → Env
  | [] => ρ
  | (d, v) :: l => upd (updL ρ l) d v
def Agr (M : List Nat) (ρ ρ' : Env) : Prop := ∀ t, M.contains t = false → ρ' t = ρ t
theorem Agr.refl (M : List Nat) (ρ : Env) : Agr M ρ ρ := fun _ _ => rfl
theorem agr_ovr {M : List Nat} {ρ ρ' : Env} : Agr M ρ (ovr M ρ ρ') := fun t h => by simp only [ovr, h, cond_false]
theorem agr_upd {M : List Nat} {ρ ρ' : Env} {d : Nat} {v : Value} (hd : M.contains d = true) (h : Agr M ρ ρ') : Agr M ρ (upd ρ' d v) := fun t ht => by
  have hb : Nat.beq t d = false := by
    cases hb : Nat.beq t d
    · rfl
    · have := Nat.eq_of_beq_eq_true hb
      subst this
      rw [hd] at ht
      cases ht
  simp only [upd, hb, cond_false]
  exact h t ht
theorem agr_updL {M : List Nat} {ρ ρ' : Env} : ∀ (l : List (Nat × Value)), (l.all fun p => M.contains p.1) = true → Agr M ρ ρ' → Agr M ρ (updL ρ' l)
  | [], _, h => h
  | (d, v) :: l, hl, h => by
    simp only [List.all_cons, Bool.and_eq_true] at hl
    exact agr_upd hl.1 (agr_updL l hl.2 h)
theorem agr_ovr2 {M M' : List Nat} {ρ ρ1 ρ' : Env} (hm : (M'.all fun t => M.contains t) = true) (h : Agr M ρ ρ1) : Agr M ρ (ovr M' ρ1 ρ') := fun t ht => by
  have : M'.contains t = false := by
    cases hb : M'.contains t
    · rfl
    · have := List.all_eq_true.1 hm t (by simpa using hb)
      rw [this] at ht; cases ht
  simp only [ovr, this, cond_false]
  exact h t ht
theorem updL_eq {ρ : Env} : ∀ (l : List (Nat × Value)), (∀ p ∈ l, ρ p.1 = p.2) → updL ρ l = ρ
  | [], _ => rfl
  | (d, v) :: l, h => by
    have h1 := updL_eq l (fun p hp => h p (List.mem_cons_of_mem _ hp))
    have h2 := h (d, v) (List.mem_cons_self ..)
    funext t
    simp only [updL, upd, h1]
    cases hb : Nat.beq t d
    · rfl
    · have := Nat.eq_of_beq_eq_true hb
      subst this
      exact h2.symm
theorem ovr_eq {M : List Nat} {ρ ρ' : Env} (h : Agr M ρ ρ') : ovr M ρ ρ' = ρ' := by
  funext t
  simp only [ovr]
  cases hb : M.contains t
  · exact (h t hb).symm
  · rfl

/-- how a round, or a piece of code that is cut out, ends -/
def Mid {τ : Type} (M : List Nat) (ρ : Env) (slots : τ → List (Nat × Value)) (R : τ → World → Prop) (ρ2 : Env) (w2 : World) : Prop :=
  ∃ x, R x w2 ∧ (∀ p ∈ slots x, ρ2 p.1 = p.2) ∧ Agr M ρ ρ2
theorem cw_cut {τ : Type} (M : List Nat) (slots : τ → List (Nat × Value)) (R : τ → World → Prop) {c : Code} {k : Env → World → Prop}
    (h : CW P n c (thn (Mid M ρ slots R) Q) ρ w) (hk : ∀ x ρ1 w', R x w' → k (updL (ovr M ρ ρ1) (slots x)) w') : CW P n c (thn k Q) ρ w :=
  cw_mono h fun e ρ2 w2 hq => by
    cases e with
    | normal =>
      obtain ⟨x, hR, hs, ha⟩ := hq
      have := hk x ρ2 w2 hR
      rw [ovr_eq ha, updL_eq _ hs] at this
      exact this
    | _ => exact hq

@[reducible] def Rnd {τ : Type} (M : List Nat) (ρ : Env) (slots : τ → List (Nat × Value)) (R : τ → World → Prop) (meas : τ → Nat) (m : Nat) (Q : Post) : Post
  | .normal, ρ2, w2 => ∃ x, R x w2 ∧ (∀ p ∈ slots x, ρ2 p.1 = p.2) ∧ Agr M ρ ρ2 ∧ meas x < m
  | e, ρ2, w2 => Q e ρ2 w2

theorem cw_loop {τ : Type} (M : List Nat) (slots : τ → List (Nat × Value)) (R : τ → World → Prop) (meas : τ → Nat) (x0 : τ) {c : Code}
    (h0 : R x0 w) (hs0 : ∀ p ∈ slots x0, ρ p.1 = p.2)
    (hr : ∀ x ρ1 w', R x w' → CW P n c (Rnd M ρ slots R meas (meas x) Q) (updL (ovr M ρ ρ1) (slots x)) w') : CW P n (.loop c) Q ρ w := fun a ha => by
  have key : ∀ (m : Nat) (a' : Act) (w' : World) ρ' x, St n ρ' a' → R x w' → (∀ p ∈ slots x, ρ' p.1 = p.2) → Agr M ρ ρ' → meas x < m → Code.rounds P c (low n Q) m a' w' := by
    intro m
    induction m with
    | zero => intro a' w' ρ' x _ _ _ _ hm; omega
    | succ m ih =>
      intro a' w' ρ' x hs hR hsl hag hm
      rw [rounds_succ]
      refine wp_mono ((by have := hr x ρ' w' hR; rwa [ovr_eq hag, updL_eq _ hsl] at this : CW P n c _ ρ' w') a' hs) fun e a2 w2 hq => ?_
      obtain ⟨ρ2, hs2, hq⟩ := hq
      cases e with
      | normal => obtain ⟨x2, h1, h2, h3, h4⟩ := hq; exact ih a2 w2 ρ2 x2 hs2 h1 h2 h3 (by omega)
      | _ => exact ⟨ρ2, hs2, hq⟩
  exact wp_loop_rounds (meas x0 + 1) (key _ a w ρ x0 ha h0 hs0 (Agr.refl M ρ) (by omega))

/-- the frame of a call -/
def args (l : List Value) : Env := fun t => l.getD t undef
theorem St.args (l : List Value) (m : Nat) (hm : l.length ≤ m) : St m (args l) { tmps := l.toArray ++ Array.replicate (m - l.toArray.size) undef, defers := [] } := by
  refine ⟨by simp; omega, fun t => ?_, rfl⟩
  simp only [Eng.args, Array.getD_eq_getD_getElem?, List.getD_eq_getElem?_getD]
  rw [Array.getElem?_append]
  by_cases ht : t < l.length
  · simp [ht]
  · simp only [List.size_toArray, ht, if_false]
    rw [List.getElem?_eq_none (by omega)]
    by_cases h2 : t - l.length < m - l.length
    · rw [Array.getElem?_replicate]; simp [h2]
    · rw [Array.getElem?_replicate]; simp [h2]

/-- what a function hands back out of its frame -/
def Fin (P : Program) (fn : Func) (R : Value → World → Prop) : Post
  | .normal, ρ, w | .ret, ρ, w => ∃ v, (∀ (a : Act), St fn.ntmps ρ a → (results fn a.tmps).run P w = .ok v w) ∧ R v w
  | _, _, _ => False
/-- a call that returns: whatever is said of the value and of the world behind it -/
def Ret (P : Program) (f : FuncId) (vs : List Value) (w : World) (R : Value → World → Prop) : Prop :=
  Calls P f vs.toArray w fun e w' => ∃ v, e = .returned v ∧ R v w'
theorem Ret.mono {f : FuncId} {vs : List Value} {R R' : Value → World → Prop} (h : Ret P f vs w R) (hr : ∀ v w', R v w' → R' v w') : Ret P f vs w R' :=
  Calls.mono h fun _ _ ⟨v, he, hv⟩ => ⟨v, he, hr _ _ hv⟩

theorem ret_of {f : FuncId} {fn : Func} {c : Code} {vs : List Value} {R : Value → World → Prop} (hf : P.funcs[f]? = some fn) (hb : fn.body = some c) (hn : Nat.ble vs.length fn.ntmps = true)
    (h : CW P fn.ntmps c (Fin P fn R) (args vs) w) : Ret P f vs w R := by
  refine calls_of_wp hf hb ?_
  refine wp_mono (h _ (St.args vs _ (Nat.le_of_ble_eq_true hn))) fun e a w hq => ?_
  obtain ⟨ρ, hs, hq⟩ := hq
  cases e with
  | normal => obtain ⟨v, h1, h2⟩ := hq; exact ⟨hs.defers, v, h1 a hs, v, rfl, h2⟩
  | ret => obtain ⟨v, h1, h2⟩ := hq; exact ⟨hs.defers, v, h1 a hs, v, rfl, h2⟩
  | _ => exact hq.elim

theorem fin1 {fn : Func} {R : Value → World → Prop} {t : Nat} {v : Value} (h : fn.results = #[.tmp t]) (hv : ρ t = v) (hR : R v w) : Fin P fn R .ret ρ w :=
  ⟨v, fun a ha => by rw [← hv, ← ha.get t]; simp [results, h], hR⟩
theorem fin2 {fn : Func} {R : Value → World → Prop} {t u : Nat} {v v2 : Value} (h : fn.results = #[.tmp t, .tmp u]) (hv : ρ t = v) (hv2 : ρ u = v2) (hR : R (.tuple #[v, v2]) w) : Fin P fn R .ret ρ w :=
  ⟨_, fun a ha => by rw [← hv, ← ha.get t, ← hv2, ← ha.get u]; simp [results, h], hR⟩
theorem fin3 {fn : Func} {R : Value → World → Prop} {t u s : Nat} {v v2 v3 : Value} (h : fn.results = #[.tmp t, .tmp u, .tmp s]) (hv : ρ t = v) (hv2 : ρ u = v2) (hv3 : ρ s = v3) (hR : R (.tuple #[v, v2, v3]) w) : Fin P fn R .ret ρ w :=
  ⟨_, fun a ha => by rw [← hv, ← ha.get t, ← hv2, ← ha.get u, ← hv3, ← ha.get s]; simp [results, h], hR⟩
theorem fin0 {fn : Func} {R : Value → World → Prop} (h : fn.results = #[]) (hR : R (.tuple #[]) w) : Fin P fn R .normal ρ w :=
  ⟨_, fun a _ => by simp [results, h], hR⟩

/-! operations -/
variable {ops : Array Oper} {rest : List Oper} {d : Nat}

theorem lw_nil (h : Q .normal ρ w) : LW P n ops [] Q ρ w := fun _ ha => wpList_nil ⟨ρ, ha, h⟩

theorem lw_val {o : Oper} {v : Value} {w' : World} (hg : o.guard = none) (hd : o.dst = some d) (hdn : Nat.blt d n = true) (hr : (execOp (ev ρ) o).run P w = .ok (.value v) w')
    (h : LW P n ops rest Q (upd ρ d v) w') : LW P n ops (o :: rest) Q ρ w := fun a ha =>
  wpList_plain hg fun _ hK => by
    unfold Oper.wp
    rw [ha.eval, hr]
    simp only [Oper.upon, hd]
    exact hK _ _ (h _ (ha.put hdn v))
theorem lw_skip {o : Oper} {w' : World} (hg : o.guard = none) (hd : o.dst = none) (hr : (execOp (ev ρ) o).run P w = .ok .skip w')
    (h : LW P n ops rest Q ρ w') : LW P n ops (o :: rest) Q ρ w := fun a ha =>
  wpList_plain hg fun _ hK => by
    unfold Oper.wp
    rw [ha.eval, hr]
    simp only [Oper.upon, hd]
    exact hK _ _ (h _ (ha.put_none _))
theorem lw_enter {o : Oper} {f : FuncId} {vs : List Value} {w' : World} {R : Value → World → Prop} (hg : o.guard = none) (hd : o.dst = some d) (hdn : Nat.blt d n = true)
    (hr : (execOp (ev ρ) o).run P w = .ok (.enter f vs.toArray) w') (hc : Ret P f vs w' R)
    (h : ∀ v w2, R v w2 → LW P n ops rest Q (upd ρ d v) w2) : LW P n ops (o :: rest) Q ρ w := fun a ha =>
  wpList_plain hg fun _ hK => by
    unfold Oper.wp
    rw [ha.eval, hr]
    simp only [Oper.upon, hd]
    exact Calls.mono hc fun e w2 ⟨v, he, hv⟩ => by subst he; exact hK _ _ (h v w2 hv _ (ha.put hdn v))

theorem St.yielded {a : Act} (ha : St n ρ a) {j : Nat} {o : Oper} {dj : Nat} {b : Bool} (hj : ops[j]? = some o) (hd : o.dst = some dj) (hb : ρ dj = .bool b) : Go.yielded ops a.tmps j = some b := by
  have hg := ha.get dj
  rw [hb] at hg
  simp only [Go.yielded, hj, Option.bind_some, hd]
  rw [Array.getD_eq_getD_getElem?] at hg
  cases h : a.tmps[dj]? with
  | none => rw [h] at hg; cases hg
  | some v => rw [h] at hg; simp at hg; simp [hg]
theorem St.yielded_none {a : Act} (ha : St n ρ a) {j : Nat} {o : Oper} {dj : Nat} (hj : ops[j]? = some o) (hd : o.dst = some dj) (hb : ρ dj = undef) : Go.yielded ops a.tmps j = none := by
  have hg := ha.get dj
  rw [hb] at hg
  simp only [Go.yielded, hj, Option.bind_some, hd]
  rw [Array.getD_eq_getD_getElem?] at hg
  cases h : a.tmps[dj]? with
  | none => rfl
  | some v => rw [h] at hg; simp only [Option.getD_some] at hg; subst hg; rfl

/-- a guarded operation that is wanted is one without a guard -/
theorem lw_go {o o' : Oper} {j dj : Nat} {b : Bool} (hg : o.guard = some (j, b)) (hj : ops[j]? = some o') (hdj : o'.dst = some dj) (hb : ρ dj = .bool b)
    (h : LW P n ops ({ o with guard := none } :: rest) Q ρ w) : LW P n ops (o :: rest) Q ρ w := fun a ha => by
  have := h a ha
  have hy := ha.yielded hj hdj hb
  unfold wpList at this ⊢
  have hw : Region.wanted o (Go.yielded ops a.tmps) = true := by simp [Region.wanted, hg, hy]
  rw [hw]
  have hw' : Region.wanted { o with guard := none } (yielded ops a.tmps) = true := rfl
  rw [hw'] at this
  exact this
theorem lw_no {o o' : Oper} {j dj : Nat} {b b' : Bool} (hg : o.guard = some (j, b)) (hj : ops[j]? = some o') (hdj : o'.dst = some dj) (hb : ρ dj = .bool b') (hne : (b' != b) = true)
    (hd : o.dst = some d) (hdn : Nat.blt d n = true) (h : LW P n ops rest Q (upd ρ d undef) w) : LW P n ops (o :: rest) Q ρ w := fun a ha => by
  have hy := ha.yielded hj hdj hb
  have hw : Region.wanted o (yielded ops a.tmps) = false := by
    simp [Region.wanted, hg, hy]; simpa using hne
  refine wpList_skip hw ?_
  rw [hd]
  exact h _ (ha.put hdn _)
theorem lw_no' {o o' : Oper} {j dj : Nat} {b : Bool} (hg : o.guard = some (j, b)) (hj : ops[j]? = some o') (hdj : o'.dst = some dj) (hb : ρ dj = undef)
    (hd : o.dst = some d) (hdn : Nat.blt d n = true) (h : LW P n ops rest Q (upd ρ d undef) w) : LW P n ops (o :: rest) Q ρ w := fun a ha => by
  have hy := ha.yielded_none hj hdj hb
  have hw : Region.wanted o (yielded ops a.tmps) = false := by
    simp [Region.wanted, hg, hy]
  refine wpList_skip hw ?_
  rw [hd]
  exact h _ (ha.put hdn _)
end

/-! the operations, one by one: an operation's text is 'O d op t p af' -/
abbrev O (d : Nat) (op : Op) (t : TypeId) (p : String) (af : Array Edge) : Oper := { dst := some d, op := op, type := t, pos := p, after := af, guard := none }
section
variable {P : Program} {n : Nat} {Q : Post} {ρ : Env} {w : World} {ops : Array Oper} {rest : List Oper} {d : Nat} {t : TypeId} {p : String} {af : Array Edge}

theorem mv {x : Operand} {v : Value} (hx : ev ρ x = v) (hdn : Nat.blt d n = true) (h : LW P n ops rest Q (upd ρ d v) w) : LW P n ops (O d (.move x) t p af :: rest) Q ρ w :=
  lw_val rfl rfl hdn (by simp [execOp, hx]) h
theorem mvI {x : Operand} {k : IntKind} {i : Int} (hx : ev ρ x = .int k i) (hdn : Nat.blt d n = true) (h : LW P n ops rest Q (upd ρ d (.int k i)) w) : LW P n ops (O d (.move x) t p af :: rest) Q ρ w := mv hx hdn h
theorem mvB {x : Operand} {b : Bool} (hx : ev ρ x = .bool b) (hdn : Nat.blt d n = true) (h : LW P n ops rest Q (upd ρ d (.bool b)) w) : LW P n ops (O d (.move x) t p af :: rest) Q ρ w := mv hx hdn h
theorem mvS {x : Operand} {A : Option Addr} {l c : Nat} (hx : ev ρ x = .slice A l c) (hdn : Nat.blt d n = true) (h : LW P n ops rest Q (upd ρ d (.slice A l c)) w) : LW P n ops (O d (.move x) t p af :: rest) Q ρ w := mv hx hdn h
theorem mvP {x : Operand} {A : Option Addr} (hx : ev ρ x = .pointer A) (hdn : Nat.blt d n = true) (h : LW P n ops rest Q (upd ρ d (.pointer A)) w) : LW P n ops (O d (.move x) t p af :: rest) Q ρ w := mv hx hdn h
theorem mvT {x : Operand} {s : ByteArray} (hx : ev ρ x = .string s) (hdn : Nat.blt d n = true) (h : LW P n ops rest Q (upd ρ d (.string s)) w) : LW P n ops (O d (.move x) t p af :: rest) Q ρ w := mv hx hdn h
theorem mvA {x : Operand} {c : Array Value} (hx : ev ρ x = .agg c) (hdn : Nat.blt d n = true) (h : LW P n ops rest Q (upd ρ d (.agg c)) w) : LW P n ops (O d (.move x) t p af :: rest) Q ρ w := mv hx hdn h
theorem mvU {x : Operand} {c : Array Value} (hx : ev ρ x = .tuple c) (hdn : Nat.blt d n = true) (h : LW P n ops rest Q (upd ρ d (.tuple c)) w) : LW P n ops (O d (.move x) t p af :: rest) Q ρ w := mv hx hdn h
theorem asg {x : Operand} {v : Value} (hx : ev ρ x = v) (hdn : Nat.blt d n = true) (h : LW P n ops rest Q (upd ρ d v) w) : LW P n ops (O d (.assign x) t p af :: rest) Q ρ w :=
  lw_val rfl rfl hdn (by simp [execOp, hx]) h
theorem asI {x : Operand} {k : IntKind} {i : Int} (hx : ev ρ x = .int k i) (hdn : Nat.blt d n = true) (h : LW P n ops rest Q (upd ρ d (.int k i)) w) : LW P n ops (O d (.assign x) t p af :: rest) Q ρ w := asg hx hdn h
theorem asB {x : Operand} {b : Bool} (hx : ev ρ x = .bool b) (hdn : Nat.blt d n = true) (h : LW P n ops rest Q (upd ρ d (.bool b)) w) : LW P n ops (O d (.assign x) t p af :: rest) Q ρ w := asg hx hdn h
theorem asS {x : Operand} {A : Option Addr} {l c : Nat} (hx : ev ρ x = .slice A l c) (hdn : Nat.blt d n = true) (h : LW P n ops rest Q (upd ρ d (.slice A l c)) w) : LW P n ops (O d (.assign x) t p af :: rest) Q ρ w := asg hx hdn h
theorem asP {x : Operand} {A : Option Addr} (hx : ev ρ x = .pointer A) (hdn : Nat.blt d n = true) (h : LW P n ops rest Q (upd ρ d (.pointer A)) w) : LW P n ops (O d (.assign x) t p af :: rest) Q ρ w := asg hx hdn h
theorem asT {x : Operand} {s : ByteArray} (hx : ev ρ x = .string s) (hdn : Nat.blt d n = true) (h : LW P n ops rest Q (upd ρ d (.string s)) w) : LW P n ops (O d (.assign x) t p af :: rest) Q ρ w := asg hx hdn h
theorem asA {x : Operand} {c : Array Value} (hx : ev ρ x = .agg c) (hdn : Nat.blt d n = true) (h : LW P n ops rest Q (upd ρ d (.agg c)) w) : LW P n ops (O d (.assign x) t p af :: rest) Q ρ w := asg hx hdn h

theorem lss {x y : Operand} {ty ty' : TypeId} {k : IntKind} {a b : Int} (hx : ev ρ x = .int k a) (hy : ev ρ y = .int k b) (hdn : Nat.blt d n = true) (h : LW P n ops rest Q (upd ρ d (.bool (decide (a < b)))) w) : LW P n ops (O d (.binOp .lss ty x y ty') t p af :: rest) Q ρ w :=
  lw_val rfl rfl hdn (by simp [execOp, hx, hy, eqGuard, binOp, Op.intCmp]; try rfl) h
theorem lssT {x y : Operand} {ty ty' : TypeId} {k : IntKind} {a b : Int} (hx : ev ρ x = .int k a) (hy : ev ρ y = .int k b) (hp : a < b) (hdn : Nat.blt d n = true) (h : LW P n ops rest Q (upd ρ d (.bool true)) w) : LW P n ops (O d (.binOp .lss ty x y ty') t p af :: rest) Q ρ w :=
  lss hx hy hdn (by simpa [hp] using h)
theorem lssF {x y : Operand} {ty ty' : TypeId} {k : IntKind} {a b : Int} (hx : ev ρ x = .int k a) (hy : ev ρ y = .int k b) (hp : ¬ (a < b)) (hdn : Nat.blt d n = true) (h : LW P n ops rest Q (upd ρ d (.bool false)) w) : LW P n ops (O d (.binOp .lss ty x y ty') t p af :: rest) Q ρ w :=
  lss hx hy hdn (by simpa [hp] using h)
theorem lssS {x y : Operand} {ty ty' : TypeId} {k : IntKind} {a b : Int} (hx : ev ρ x = .int k a) (hy : ev ρ y = .int k b) (hdn : Nat.blt d n = true) (h : a < b → LW P n ops rest Q (upd ρ d (.bool true)) w) (h2 : ¬ (a < b) → LW P n ops rest Q (upd ρ d (.bool false)) w) : LW P n ops (O d (.binOp .lss ty x y ty') t p af :: rest) Q ρ w := by
  by_cases hp : a < b
  · exact lssT hx hy hp hdn (h hp)
  · exact lssF hx hy hp hdn (h2 hp)
theorem leq {x y : Operand} {ty ty' : TypeId} {k : IntKind} {a b : Int} (hx : ev ρ x = .int k a) (hy : ev ρ y = .int k b) (hdn : Nat.blt d n = true) (h : LW P n ops rest Q (upd ρ d (.bool (decide (a ≤ b)))) w) : LW P n ops (O d (.binOp .leq ty x y ty') t p af :: rest) Q ρ w :=
  lw_val rfl rfl hdn (by simp [execOp, hx, hy, eqGuard, binOp, Op.intCmp]; try rfl) h
theorem leqT {x y : Operand} {ty ty' : TypeId} {k : IntKind} {a b : Int} (hx : ev ρ x = .int k a) (hy : ev ρ y = .int k b) (hp : a ≤ b) (hdn : Nat.blt d n = true) (h : LW P n ops rest Q (upd ρ d (.bool true)) w) : LW P n ops (O d (.binOp .leq ty x y ty') t p af :: rest) Q ρ w :=
  leq hx hy hdn (by simpa [hp] using h)
theorem leqF {x y : Operand} {ty ty' : TypeId} {k : IntKind} {a b : Int} (hx : ev ρ x = .int k a) (hy : ev ρ y = .int k b) (hp : ¬ (a ≤ b)) (hdn : Nat.blt d n = true) (h : LW P n ops rest Q (upd ρ d (.bool false)) w) : LW P n ops (O d (.binOp .leq ty x y ty') t p af :: rest) Q ρ w :=
  leq hx hy hdn (by simpa [hp] using h)
theorem leqS {x y : Operand} {ty ty' : TypeId} {k : IntKind} {a b : Int} (hx : ev ρ x = .int k a) (hy : ev ρ y = .int k b) (hdn : Nat.blt d n = true) (h : a ≤ b → LW P n ops rest Q (upd ρ d (.bool true)) w) (h2 : ¬ (a ≤ b) → LW P n ops rest Q (upd ρ d (.bool false)) w) : LW P n ops (O d (.binOp .leq ty x y ty') t p af :: rest) Q ρ w := by
  by_cases hp : a ≤ b
  · exact leqT hx hy hp hdn (h hp)
  · exact leqF hx hy hp hdn (h2 hp)
theorem gtr {x y : Operand} {ty ty' : TypeId} {k : IntKind} {a b : Int} (hx : ev ρ x = .int k a) (hy : ev ρ y = .int k b) (hdn : Nat.blt d n = true) (h : LW P n ops rest Q (upd ρ d (.bool (decide (b < a)))) w) : LW P n ops (O d (.binOp .gtr ty x y ty') t p af :: rest) Q ρ w :=
  lw_val rfl rfl hdn (by simp [execOp, hx, hy, eqGuard, binOp, Op.intCmp]; try rfl) h
theorem gtrT {x y : Operand} {ty ty' : TypeId} {k : IntKind} {a b : Int} (hx : ev ρ x = .int k a) (hy : ev ρ y = .int k b) (hp : b < a) (hdn : Nat.blt d n = true) (h : LW P n ops rest Q (upd ρ d (.bool true)) w) : LW P n ops (O d (.binOp .gtr ty x y ty') t p af :: rest) Q ρ w :=
  gtr hx hy hdn (by simpa [hp] using h)
theorem gtrF {x y : Operand} {ty ty' : TypeId} {k : IntKind} {a b : Int} (hx : ev ρ x = .int k a) (hy : ev ρ y = .int k b) (hp : ¬ (b < a)) (hdn : Nat.blt d n = true) (h : LW P n ops rest Q (upd ρ d (.bool false)) w) : LW P n ops (O d (.binOp .gtr ty x y ty') t p af :: rest) Q ρ w :=
  gtr hx hy hdn (by simpa [hp] using h)
theorem gtrS {x y : Operand} {ty ty' : TypeId} {k : IntKind} {a b : Int} (hx : ev ρ x = .int k a) (hy : ev ρ y = .int k b) (hdn : Nat.blt d n = true) (h : b < a → LW P n ops rest Q (upd ρ d (.bool true)) w) (h2 : ¬ (b < a) → LW P n ops rest Q (upd ρ d (.bool false)) w) : LW P n ops (O d (.binOp .gtr ty x y ty') t p af :: rest) Q ρ w := by
  by_cases hp : b < a
  · exact gtrT hx hy hp hdn (h hp)
  · exact gtrF hx hy hp hdn (h2 hp)
theorem geq {x y : Operand} {ty ty' : TypeId} {k : IntKind} {a b : Int} (hx : ev ρ x = .int k a) (hy : ev ρ y = .int k b) (hdn : Nat.blt d n = true) (h : LW P n ops rest Q (upd ρ d (.bool (decide (b ≤ a)))) w) : LW P n ops (O d (.binOp .geq ty x y ty') t p af :: rest) Q ρ w :=
  lw_val rfl rfl hdn (by simp [execOp, hx, hy, eqGuard, binOp, Op.intCmp]; try rfl) h
theorem geqT {x y : Operand} {ty ty' : TypeId} {k : IntKind} {a b : Int} (hx : ev ρ x = .int k a) (hy : ev ρ y = .int k b) (hp : b ≤ a) (hdn : Nat.blt d n = true) (h : LW P n ops rest Q (upd ρ d (.bool true)) w) : LW P n ops (O d (.binOp .geq ty x y ty') t p af :: rest) Q ρ w :=
  geq hx hy hdn (by simpa [hp] using h)
theorem geqF {x y : Operand} {ty ty' : TypeId} {k : IntKind} {a b : Int} (hx : ev ρ x = .int k a) (hy : ev ρ y = .int k b) (hp : ¬ (b ≤ a)) (hdn : Nat.blt d n = true) (h : LW P n ops rest Q (upd ρ d (.bool false)) w) : LW P n ops (O d (.binOp .geq ty x y ty') t p af :: rest) Q ρ w :=
  geq hx hy hdn (by simpa [hp] using h)
theorem geqS {x y : Operand} {ty ty' : TypeId} {k : IntKind} {a b : Int} (hx : ev ρ x = .int k a) (hy : ev ρ y = .int k b) (hdn : Nat.blt d n = true) (h : b ≤ a → LW P n ops rest Q (upd ρ d (.bool true)) w) (h2 : ¬ (b ≤ a) → LW P n ops rest Q (upd ρ d (.bool false)) w) : LW P n ops (O d (.binOp .geq ty x y ty') t p af :: rest) Q ρ w := by
  by_cases hp : b ≤ a
  · exact geqT hx hy hp hdn (h hp)
  · exact geqF hx hy hp hdn (h2 hp)
theorem eql {x y : Operand} {ty ty' : TypeId} {k : IntKind} {a b : Int} (hx : ev ρ x = .int k a) (hy : ev ρ y = .int k b) (hdn : Nat.blt d n = true) (h : LW P n ops rest Q (upd ρ d (.bool (decide (a = b)))) w) : LW P n ops (O d (.binOp .eql ty x y ty') t p af :: rest) Q ρ w :=
  lw_val rfl rfl hdn (by simp [execOp, hx, hy, eqGuard, binOp, Op.intCmp]; try rfl) h
theorem eqlT {x y : Operand} {ty ty' : TypeId} {k : IntKind} {a b : Int} (hx : ev ρ x = .int k a) (hy : ev ρ y = .int k b) (hp : a = b) (hdn : Nat.blt d n = true) (h : LW P n ops rest Q (upd ρ d (.bool true)) w) : LW P n ops (O d (.binOp .eql ty x y ty') t p af :: rest) Q ρ w :=
  eql hx hy hdn (by simpa [hp] using h)
theorem eqlF {x y : Operand} {ty ty' : TypeId} {k : IntKind} {a b : Int} (hx : ev ρ x = .int k a) (hy : ev ρ y = .int k b) (hp : ¬ (a = b)) (hdn : Nat.blt d n = true) (h : LW P n ops rest Q (upd ρ d (.bool false)) w) : LW P n ops (O d (.binOp .eql ty x y ty') t p af :: rest) Q ρ w :=
  eql hx hy hdn (by simpa [hp] using h)
theorem eqlS {x y : Operand} {ty ty' : TypeId} {k : IntKind} {a b : Int} (hx : ev ρ x = .int k a) (hy : ev ρ y = .int k b) (hdn : Nat.blt d n = true) (h : a = b → LW P n ops rest Q (upd ρ d (.bool true)) w) (h2 : ¬ (a = b) → LW P n ops rest Q (upd ρ d (.bool false)) w) : LW P n ops (O d (.binOp .eql ty x y ty') t p af :: rest) Q ρ w := by
  by_cases hp : a = b
  · exact eqlT hx hy hp hdn (h hp)
  · exact eqlF hx hy hp hdn (h2 hp)
theorem neq {x y : Operand} {ty ty' : TypeId} {k : IntKind} {a b : Int} (hx : ev ρ x = .int k a) (hy : ev ρ y = .int k b) (hdn : Nat.blt d n = true) (h : LW P n ops rest Q (upd ρ d (.bool (!decide (a = b)))) w) : LW P n ops (O d (.binOp .neq ty x y ty') t p af :: rest) Q ρ w :=
  lw_val rfl rfl hdn (by simp [execOp, hx, hy, eqGuard, binOp, Op.intCmp]; try rfl) h
theorem neqT {x y : Operand} {ty ty' : TypeId} {k : IntKind} {a b : Int} (hx : ev ρ x = .int k a) (hy : ev ρ y = .int k b) (hp : ¬ a = b) (hdn : Nat.blt d n = true) (h : LW P n ops rest Q (upd ρ d (.bool true)) w) : LW P n ops (O d (.binOp .neq ty x y ty') t p af :: rest) Q ρ w :=
  neq hx hy hdn (by simpa [hp] using h)
theorem neqF {x y : Operand} {ty ty' : TypeId} {k : IntKind} {a b : Int} (hx : ev ρ x = .int k a) (hy : ev ρ y = .int k b) (hp : a = b) (hdn : Nat.blt d n = true) (h : LW P n ops rest Q (upd ρ d (.bool false)) w) : LW P n ops (O d (.binOp .neq ty x y ty') t p af :: rest) Q ρ w :=
  neq hx hy hdn (by simpa [hp] using h)
theorem neqS {x y : Operand} {ty ty' : TypeId} {k : IntKind} {a b : Int} (hx : ev ρ x = .int k a) (hy : ev ρ y = .int k b) (hdn : Nat.blt d n = true) (h : ¬ (a = b) → LW P n ops rest Q (upd ρ d (.bool true)) w) (h2 : a = b → LW P n ops rest Q (upd ρ d (.bool false)) w) : LW P n ops (O d (.binOp .neq ty x y ty') t p af :: rest) Q ρ w := by
  by_cases hp : a = b
  · exact neqF hx hy hp hdn (h2 hp)
  · exact neqT hx hy hp hdn (h hp)
theorem wrapI {n : Int} (h1 : -9000000000000000000 ≤ n) (h2 : n ≤ 9000000000000000000) : IntKind.i64.wrap n = n := IntWalk.i64_in n (by omega)
theorem add {x y : Operand} {ty ty' : TypeId} {a b : Int} (hx : ev ρ x = .int .i64 a) (hy : ev ρ y = .int .i64 b) (h1 : -9000000000000000000 ≤ a + b) (h2 : a + b ≤ 9000000000000000000) (hdn : Nat.blt d n = true) (h : LW P n ops rest Q (upd ρ d (.int .i64 (a + b))) w) : LW P n ops (O d (.binOp .add ty x y ty') t p af :: rest) Q ρ w :=
  lw_val rfl rfl hdn (by simp [execOp, hx, hy, eqGuard, binOp, Op.intArith, wrapI h1 h2]) h
theorem sub {x y : Operand} {ty ty' : TypeId} {a b : Int} (hx : ev ρ x = .int .i64 a) (hy : ev ρ y = .int .i64 b) (h1 : -9000000000000000000 ≤ a - b) (h2 : a - b ≤ 9000000000000000000) (hdn : Nat.blt d n = true) (h : LW P n ops rest Q (upd ρ d (.int .i64 (a - b))) w) : LW P n ops (O d (.binOp .sub ty x y ty') t p af :: rest) Q ρ w :=
  lw_val rfl rfl hdn (by simp [execOp, hx, hy, eqGuard, binOp, Op.intArith, wrapI h1 h2]) h
theorem mul {x y : Operand} {ty ty' : TypeId} {a b : Int} (hx : ev ρ x = .int .i64 a) (hy : ev ρ y = .int .i64 b) (h1 : -9000000000000000000 ≤ a * b) (h2 : a * b ≤ 9000000000000000000) (hdn : Nat.blt d n = true) (h : LW P n ops rest Q (upd ρ d (.int .i64 (a * b))) w) : LW P n ops (O d (.binOp .mul ty x y ty') t p af :: rest) Q ρ w :=
  lw_val rfl rfl hdn (by simp [execOp, hx, hy, eqGuard, binOp, Op.intArith, wrapI h1 h2]) h
theorem rem {x y : Operand} {ty ty' : TypeId} {a b : Int} (hx : ev ρ x = .int .i64 a) (hy : ev ρ y = .int .i64 b) (h1 : 0 ≤ a) (h2 : 0 < b) (hdn : Nat.blt d n = true) (h : LW P n ops rest Q (upd ρ d (.int .i64 (a % b))) w) : LW P n ops (O d (.binOp .rem ty x y ty') t p af :: rest) Q ρ w :=
  lw_val rfl rfl hdn (by
    have hb : b ≠ 0 := by omega
    simp [execOp, hx, hy, eqGuard, binOp, Op.intDiv, hb, Int.tmod_eq_emod_of_nonneg h1]) h
theorem quo {x y : Operand} {ty ty' : TypeId} {a b : Int} (hx : ev ρ x = .int .i64 a) (hy : ev ρ y = .int .i64 b) (h1 : 0 ≤ a) (h2 : 0 < b) (h3 : a ≤ 9000000000000000000) (hdn : Nat.blt d n = true) (h : LW P n ops rest Q (upd ρ d (.int .i64 (a / b))) w) : LW P n ops (O d (.binOp .quo ty x y ty') t p af :: rest) Q ρ w :=
  lw_val rfl rfl hdn (by
    have hb : b ≠ 0 := by omega
    have hq : a / b ≤ a := Int.ediv_le_self b h1
    have hq0 : 0 ≤ a / b := Int.ediv_nonneg h1 (by omega)
    simp [execOp, hx, hy, eqGuard, binOp, Op.intDiv, hb, Int.tdiv_eq_ediv_of_nonneg h1]
    exact wrapI (by omega) (by omega)) h
theorem neg {x : Operand} {ty : TypeId} {a : Int} (hx : ev ρ x = .int .i64 a) (h1 : -9000000000000000000 ≤ -a) (h2 : -a ≤ 9000000000000000000) (hdn : Nat.blt d n = true) (h : LW P n ops rest Q (upd ρ d (.int .i64 (-a))) w) : LW P n ops (O d (.unOp .neg ty x) t p af :: rest) Q ρ w :=
  lw_val rfl rfl hdn (by simp [execOp, hx, Op.unary, Op.intArith, wrapI h1 h2]) h
theorem not {x : Operand} {ty : TypeId} {b : Bool} (hx : ev ρ x = .bool b) (hdn : Nat.blt d n = true) (h : LW P n ops rest Q (upd ρ d (.bool (!b))) w) : LW P n ops (O d (.unOp .not ty x) t p af :: rest) Q ρ w :=
  lw_val rfl rfl hdn (by simp [execOp, hx, Op.unary]) h
theorem pkT {c x y : Operand} {v : Value} (hc : ev ρ c = .bool true) (hx : ev ρ x = v) (hdn : Nat.blt d n = true) (h : LW P n ops rest Q (upd ρ d v) w) : LW P n ops (O d (.pick c x y) t p af :: rest) Q ρ w :=
  lw_val rfl rfl hdn (by simp [execOp, hc, hx, asBool]) h
theorem pkF {c x y : Operand} {v : Value} (hc : ev ρ c = .bool false) (hy : ev ρ y = v) (hdn : Nat.blt d n = true) (h : LW P n ops rest Q (upd ρ d v) w) : LW P n ops (O d (.pick c x y) t p af :: rest) Q ρ w :=
  lw_val rfl rfl hdn (by simp [execOp, hc, hy, asBool]) h
theorem pkTB {c x y : Operand} {v : Bool} (hc : ev ρ c = .bool true) (hx : ev ρ x = .bool v) (hdn : Nat.blt d n = true) (h : LW P n ops rest Q (upd ρ d (.bool v)) w) : LW P n ops (O d (.pick c x y) t p af :: rest) Q ρ w := pkT hc hx hdn h
theorem pkFB {c x y : Operand} {v : Bool} (hc : ev ρ c = .bool false) (hy : ev ρ y = .bool v) (hdn : Nat.blt d n = true) (h : LW P n ops rest Q (upd ρ d (.bool v)) w) : LW P n ops (O d (.pick c x y) t p af :: rest) Q ρ w := pkF hc hy hdn h
theorem exI {x : Operand} {i : Nat} {vs : List Value} {k : IntKind} {m : Int} (hx : ev ρ x = .tuple vs.toArray) (hi : vs[i]? = some (.int k m)) (hdn : Nat.blt d n = true) (h : LW P n ops rest Q (upd ρ d (.int k m)) w) : LW P n ops (O d (.extract x i) t p af :: rest) Q ρ w :=
  lw_val rfl rfl hdn (by simp [execOp, hx, Instr.extract, hi]) h
theorem exV {x : Operand} {i : Nat} {vs : List Value} {v : Value} (hx : ev ρ x = .tuple vs.toArray) (hi : vs[i]? = some v) (hdn : Nat.blt d n = true) (h : LW P n ops rest Q (upd ρ d v) w) : LW P n ops (O d (.extract x i) t p af :: rest) Q ρ w :=
  lw_val rfl rfl hdn (by simp [execOp, hx, Instr.extract, hi]) h
theorem nck {x : Operand} {a : Addr} (hx : ev ρ x = .pointer (some a)) (hdn : Nat.blt d n = true) (h : LW P n ops rest Q (upd ρ d (.pointer (some a))) w) : LW P n ops (O d (.nilCheck x) t p af :: rest) Q ρ w :=
  lw_val rfl rfl hdn (by simp [execOp, hx]) h
end
end Go.Eng
