/- GA: a part of the proofs over this seat: what stands in its theorems holds for every input that they name. -/
import Derived.WalkKit
import Derived.Lib.AppendStr
import Derived.Laws.BytesArg
import Derived.Orders
import Derived.Laws.StructEq
section
namespace Go.Eng
open Go Go.RowKit

abbrev Env := Nat → Value
def upd (ρ : Env) (d : Nat) (v : Value) : Env := fun t => bif Nat.beq t d then v else ρ t
def ev (ρ : Env) : Operand → Value
  | .tmp t => ρ t
  | .const v => v
  | .global g => .pointer (some ⟨g, 0, none⟩)
  | .func f => .func (.func f) #[] #[]
structure St (n : Nat) (ρ : Env) (a : Act) : Prop where
  size : a.tmps.size = n
  get : ∀ t, a.tmps.getD t undef = ρ t
  defers : a.defers = []

theorem St.eval {n : Nat} {ρ : Env} {a : Act} (h : St n ρ a) : a.eval = ev ρ := by
  funext x
  cases x <;> simp [Act.eval, ev, h.get]

theorem St.put {n : Nat} {ρ : Env} {a : Act} (h : St n ρ a) {d : Nat} (hd : Nat.blt d n = true) (v : Value) : St n (upd ρ d v) (a.put (some d) v) := by
  have hd' : d < n := by simpa [Nat.blt_eq] using hd
  refine ⟨by simp [Act.put, h.size], fun t => ?_, by simp [Act.put, h.defers]⟩
  have hg := h.get t
  simp only [Act.put, upd, Array.getD_eq_getD_getElem?, Array.getElem?_setIfInBounds] at hg ⊢
  by_cases htd : d = t
  · subst htd
    simp [h.size, hd']
  · have : Nat.beq t d = false := by
      cases hb : Nat.beq t d
      · rfl
      · exact absurd (Nat.eq_of_beq_eq_true hb).symm htd
    simp [htd, this, hg]

theorem St.put_none {n : Nat} {ρ : Env} {a : Act} (h : St n ρ a) (v : Value) : St n ρ (a.put none v) := h

abbrev Post := Exit → Env → World → Prop
def low (n : Nat) (Q : Post) : Exit → Act → World → Prop := fun e a w => ∃ ρ, St n ρ a ∧ Q e ρ w
def CW (P : Program) (n : Nat) (c : Code) (Q : Post) (ρ : Env) (w : World) : Prop := ∀ a, St n ρ a → c.wp P (low n Q) a w
def LW (P : Program) (n : Nat) (ops : Array Oper) (l : List Oper) (Q : Post) (ρ : Env) (w : World) : Prop := ∀ a, St n ρ a → wpList P ops (low n Q) l a w

@[reducible] def thn (k : Env → World → Prop) (Q : Post) : Post
  | .normal, ρ, w => k ρ w
  | e, ρ, w => Q e ρ w
@[reducible] def iblk (id : Nat) (Q : Post) : Post
  | .exit id', ρ, w => bif Nat.beq id' id then Q .normal ρ w else Q (.exit id') ρ w
  | e, ρ, w => Q e ρ w

section
variable {P : Program} {n : Nat} {Q : Post} {ρ : Env} {w : World}

theorem low_thn {k : Env → World → Prop} {e : Exit} {a : Act} {w : World} (h : low n (thn k Q) e a w) : Exit.then (fun a w => ∃ ρ, St n ρ a ∧ k ρ w) (low n Q) e a w := by
  cases e <;> exact h
theorem low_iblk {id : Nat} {e : Exit} {a : Act} {w : World} (h : low n (iblk id Q) e a w) : Exit.inBlock id (low n Q) e a w := by
  cases e with
  | exit id' =>
    obtain ⟨ρ, hs, hq⟩ := h
    simp only [iblk] at hq
    simp only [Exit.inBlock]
    by_cases hb : id' = id
    · subst hb
      simp at hq
      simp
      exact ⟨ρ, hs, hq⟩
    · have : Nat.beq id' id = false := by
        cases hb' : Nat.beq id' id
        · rfl
        · exact absurd (Nat.eq_of_beq_eq_true hb') hb
      simp [this] at hq
      simp [hb]
      exact ⟨ρ, hs, hq⟩
  | _ => exact h

theorem cw_seq {x y : Code} (h : CW P n x (thn (CW P n y Q) Q) ρ w) : CW P n (.seq x y) Q ρ w := fun a ha =>
  wp_seq (wp_mono (h a ha) fun e a w hq => by
    have := low_thn hq
    cases e with
    | normal => obtain ⟨ρ, hs, hk⟩ := this; exact hk a hs
    | _ => exact this)
theorem cw_region {id : Nat} {l : List Oper} (h : LW P n l.toArray l Q ρ w) : CW P n (.region id l.toArray false) Q ρ w := fun a ha => wp_region_lit (h a ha)
theorem cw_block {id : Nat} {c : Code} (h : CW P n c (iblk id Q) ρ w) : CW P n (.block id c) Q ρ w := fun a ha =>
  wp_block (wp_mono (h a ha) fun _ _ _ hq => low_iblk hq)
theorem cw_skip (h : Q .normal ρ w) : CW P n .skip Q ρ w := fun _ ha => wp_skip ⟨ρ, ha, h⟩
theorem cw_exit {id : Nat} (h : Q (.exit id) ρ w) : CW P n (.exit id) Q ρ w := fun _ ha => wp_exit ⟨ρ, ha, h⟩
theorem cw_ret (h : Q .ret ρ w) : CW P n .ret Q ρ w := fun _ ha => wp_ret ⟨ρ, ha, h⟩
theorem cw_label {l : Nat} (h : Q .normal ρ w) : CW P n (.label l) Q ρ w := fun _ ha => wp_label ⟨ρ, ha, h⟩
theorem cw_goto {l : Nat} (h : Q (.goto l) ρ w) : CW P n (.goto l) Q ρ w := fun _ ha => wp_goto ⟨ρ, ha, h⟩
theorem cw_mono {c : Code} {Q' : Post} (h : CW P n c Q ρ w) (hq : ∀ e ρ w, Q e ρ w → Q' e ρ w) : CW P n c Q' ρ w := fun a ha =>
  wp_mono (h a ha) fun _ _ _ ⟨ρ, hs, h⟩ => ⟨ρ, hs, hq _ _ _ h⟩
theorem cw_true {c : Operand} {x y : Code} (hc : ev ρ c = .bool true) (h : CW P n x Q ρ w) : CW P n (.cond c x y) Q ρ w := fun a ha =>
  wp_cond_true (by rw [ha.eval]; exact hc) (h a ha)
theorem cw_false {c : Operand} {x y : Code} (hc : ev ρ c = .bool false) (h : CW P n y Q ρ w) : CW P n (.cond c x y) Q ρ w := fun a ha =>
  wp_cond_false (by rw [ha.eval]; exact hc) (h a ha)
theorem cw_if {c : Operand} {x y : Code} {b : Bool} (hc : ev ρ c = .bool b) (ht : b = true → CW P n x Q ρ w) (hf : b = false → CW P n y Q ρ w) : CW P n (.cond c x y) Q ρ w := by
  cases b
  · exact cw_false hc (hf rfl)
  · exact cw_true hc (ht rfl)
theorem cw_dec {c : Operand} {x y : Code} {p : Prop} [Decidable p] (hc : ev ρ c = .bool (decide p)) (ht : p → CW P n x Q ρ w) (hf : ¬ p → CW P n y Q ρ w) : CW P n (.cond c x y) Q ρ w :=
  cw_if hc (fun h => ht (of_decide_eq_true h)) (fun h => hf (of_decide_eq_false h))

/-- the slots of M as in ρ', all others as in ρ -/
def ovr (M : List Nat) (ρ ρ' : Env) : Env := fun t => bif M.contains t then ρ' t else ρ t
def updL (ρ : Env) : List (Nat × Value) → Env
  | [] => ρ
  | (d, v) :: l => upd (updL ρ l) d v
def Agr (M : List Nat) (ρ ρ' : Env) : Prop := ∀ t, M.contains t = false → ρ' t = ρ t
theorem Agr.refl (M : List Nat) (ρ : Env) : Agr M ρ ρ := fun _ _ => rfl
theorem agr_ovr {M : List Nat} {ρ ρ' : Env} : Agr M ρ (ovr M ρ ρ') := fun t h => by simp only [ovr, h, cond_false]
theorem agr_upd {M : List Nat} {ρ ρ' : Env} {d : Nat} {v : Value} (hd : M.contains d = true) (h : Agr M ρ ρ') : Agr M ρ (upd ρ' d v) := fun t ht => by
  have hb : Nat.beq t d = false := by
    cases hb : Nat.beq t d
    · rfl
    · have := Nat.eq_of_beq_eq_true hb
      subst this
      rw [hd] at ht
      cases ht
  simp only [upd, hb, cond_false]
  exact h t ht
theorem agr_updL {M : List Nat} {ρ ρ' : Env} : ∀ (l : List (Nat × Value)), (l.all fun p => M.contains p.1) = true → Agr M ρ ρ' → Agr M ρ (updL ρ' l)
  | [], _, h => h
  | (d, v) :: l, hl, h => by
    simp only [List.all_cons, Bool.and_eq_true] at hl
    exact agr_upd hl.1 (agr_updL l hl.2 h)
theorem agr_ovr2 {M M' : List Nat} {ρ ρ1 ρ' : Env} (hm : (M'.all fun t => M.contains t) = true) (h : Agr M ρ ρ1) : Agr M ρ (ovr M' ρ1 ρ') := fun t ht => by
  have : M'.contains t = false := by
    cases hb : M'.contains t
    · rfl
    · have := List.all_eq_true.1 hm t (by simpa using hb)
      rw [this] at ht; cases ht
  simp only [ovr, this, cond_false]
  exact h t ht
theorem updL_eq {ρ : Env} : ∀ (l : List (Nat × Value)), (∀ p ∈ l, ρ p.1 = p.2) → updL ρ l = ρ
  | [], _ => rfl
  | (d, v) :: l, h => by
    have h1 := updL_eq l (fun p hp => h p (List.mem_cons_of_mem _ hp))
    have h2 := h (d, v) (List.mem_cons_self ..)
    funext t
    simp only [updL, upd, h1]
    cases hb : Nat.beq t d
    · rfl
    · have := Nat.eq_of_beq_eq_true hb
      subst this
      exact h2.symm
theorem ovr_eq {M : List Nat} {ρ ρ' : Env} (h : Agr M ρ ρ') : ovr M ρ ρ' = ρ' := by
  funext t
  simp only [ovr]
  cases hb : M.contains t
  · exact (h t hb).symm
  · rfl

/-- how a round, or a piece of code that is cut out, ends -/
def Mid {τ : Type} (M : List Nat) (ρ : Env) (slots : τ → List (Nat × Value)) (R : τ → World → Prop) (ρ2 : Env) (w2 : World) : Prop :=
  ∃ x, R x w2 ∧ (∀ p ∈ slots x, ρ2 p.1 = p.2) ∧ Agr M ρ ρ2
theorem cw_cut {τ : Type} (M : List Nat) (slots : τ → List (Nat × Value)) (R : τ → World → Prop) {c : Code} {k : Env → World → Prop}
    (h : CW P n c (thn (Mid M ρ slots R) Q) ρ w) (hk : ∀ x ρ1 w', R x w' → k (updL (ovr M ρ ρ1) (slots x)) w') : CW P n c (thn k Q) ρ w :=
  cw_mono h fun e ρ2 w2 hq => by
    cases e with
    | normal =>
      obtain ⟨x, hR, hs, ha⟩ := hq
      have := hk x ρ2 w2 hR
      rw [ovr_eq ha, updL_eq _ hs] at this
      exact this
    | _ => exact hq

@[reducible] def Rnd {τ : Type} (M : List Nat) (ρ : Env) (slots : τ → List (Nat × Value)) (R : τ → World → Prop) (meas : τ → Nat) (m : Nat) (Q : Post) : Post
  | .normal, ρ2, w2 => ∃ x, R x w2 ∧ (∀ p ∈ slots x, ρ2 p.1 = p.2) ∧ Agr M ρ ρ2 ∧ meas x < m
  | e, ρ2, w2 => Q e ρ2 w2

theorem cw_loop {τ : Type} (M : List Nat) (slots : τ → List (Nat × Value)) (R : τ → World → Prop) (meas : τ → Nat) (x0 : τ) {c : Code}
    (h0 : R x0 w) (hs0 : ∀ p ∈ slots x0, ρ p.1 = p.2)
    (hr : ∀ x ρ1 w', R x w' → CW P n c (Rnd M ρ slots R meas (meas x) Q) (updL (ovr M ρ ρ1) (slots x)) w') : CW P n (.loop c) Q ρ w := fun a ha => by
  have key : ∀ (m : Nat) (a' : Act) (w' : World) ρ' x, St n ρ' a' → R x w' → (∀ p ∈ slots x, ρ' p.1 = p.2) → Agr M ρ ρ' → meas x < m → Code.rounds P c (low n Q) m a' w' := by
    intro m
    induction m with
    | zero => intro a' w' ρ' x _ _ _ _ hm; omega
    | succ m ih =>
      intro a' w' ρ' x hs hR hsl hag hm
      rw [rounds_succ]
      refine wp_mono ((by have := hr x ρ' w' hR; rwa [ovr_eq hag, updL_eq _ hsl] at this : CW P n c _ ρ' w') a' hs) fun e a2 w2 hq => ?_
      obtain ⟨ρ2, hs2, hq⟩ := hq
      cases e with
      | normal => obtain ⟨x2, h1, h2, h3, h4⟩ := hq; exact ih a2 w2 ρ2 x2 hs2 h1 h2 h3 (by omega)
      | _ => exact ⟨ρ2, hs2, hq⟩
  exact wp_loop_rounds (meas x0 + 1) (key _ a w ρ x0 ha h0 hs0 (Agr.refl M ρ) (by omega))

/-- the frame of a call -/
def args (l : List Value) : Env := fun t => l.getD t undef
theorem St.args (l : List Value) (m : Nat) (hm : l.length ≤ m) : St m (args l) { tmps := l.toArray ++ Array.replicate (m - l.toArray.size) undef, defers := [] } := by
  refine ⟨by simp; omega, fun t => ?_, rfl⟩
  simp only [Eng.args, Array.getD_eq_getD_getElem?, List.getD_eq_getElem?_getD]
  rw [Array.getElem?_append]
  by_cases ht : t < l.length
  · simp [ht]
  · simp only [List.size_toArray, ht, if_false]
    rw [List.getElem?_eq_none (by omega)]
    by_cases h2 : t - l.length < m - l.length
    · rw [Array.getElem?_replicate]; simp [h2]
    · rw [Array.getElem?_replicate]; simp [h2]

/-- what a function hands back out of its frame -/
def Fin (P : Program) (fn : Func) (R : Value → World → Prop) : Post
  | .normal, ρ, w | .ret, ρ, w => ∃ v, (∀ (a : Act), St fn.ntmps ρ a → (results fn a.tmps).run P w = .ok v w) ∧ R v w
  | _, _, _ => False
/-- a call that returns: whatever is said of the value and of the world behind it -/
def Ret (P : Program) (f : FuncId) (vs : List Value) (w : World) (R : Value → World → Prop) : Prop :=
  Calls P f vs.toArray w fun e w' => ∃ v, e = .returned v ∧ R v w'
theorem Ret.mono {f : FuncId} {vs : List Value} {R R' : Value → World → Prop} (h : Ret P f vs w R) (hr : ∀ v w', R v w' → R' v w') : Ret P f vs w R' :=
  Calls.mono h fun _ _ ⟨v, he, hv⟩ => ⟨v, he, hr _ _ hv⟩

theorem ret_of {f : FuncId} {fn : Func} {c : Code} {vs : List Value} {R : Value → World → Prop} (hf : P.funcs[f]? = some fn) (hb : fn.body = some c) (hn : Nat.ble vs.length fn.ntmps = true)
    (h : CW P fn.ntmps c (Fin P fn R) (args vs) w) : Ret P f vs w R := by
  refine calls_of_wp hf hb ?_
  refine wp_mono (h _ (St.args vs _ (Nat.le_of_ble_eq_true hn))) fun e a w hq => ?_
  obtain ⟨ρ, hs, hq⟩ := hq
  cases e with
  | normal => obtain ⟨v, h1, h2⟩ := hq; exact ⟨hs.defers, v, h1 a hs, v, rfl, h2⟩
  | ret => obtain ⟨v, h1, h2⟩ := hq; exact ⟨hs.defers, v, h1 a hs, v, rfl, h2⟩
  | _ => exact hq.elim

theorem fin1 {fn : Func} {R : Value → World → Prop} {t : Nat} {v : Value} (h : fn.results = #[.tmp t]) (hv : ρ t = v) (hR : R v w) : Fin P fn R .ret ρ w :=
  ⟨v, fun a ha => by rw [← hv, ← ha.get t]; simp [results, h], hR⟩
theorem fin2 {fn : Func} {R : Value → World → Prop} {t u : Nat} {v v2 : Value} (h : fn.results = #[.tmp t, .tmp u]) (hv : ρ t = v) (hv2 : ρ u = v2) (hR : R (.tuple #[v, v2]) w) : Fin P fn R .ret ρ w :=
  ⟨_, fun a ha => by rw [← hv, ← ha.get t, ← hv2, ← ha.get u]; simp [results, h], hR⟩
theorem fin3 {fn : Func} {R : Value → World → Prop} {t u s : Nat} {v v2 v3 : Value} (h : fn.results = #[.tmp t, .tmp u, .tmp s]) (hv : ρ t = v) (hv2 : ρ u = v2) (hv3 : ρ s = v3) (hR : R (.tuple #[v, v2, v3]) w) : Fin P fn R .ret ρ w :=
  ⟨_, fun a ha => by rw [← hv, ← ha.get t, ← hv2, ← ha.get u, ← hv3, ← ha.get s]; simp [results, h], hR⟩
theorem fin0 {fn : Func} {R : Value → World → Prop} (h : fn.results = #[]) (hR : R (.tuple #[]) w) : Fin P fn R .normal ρ w :=
  ⟨_, fun a _ => by simp [results, h], hR⟩

/-! operations -/
variable {ops : Array Oper} {rest : List Oper} {d : Nat}

theorem lw_nil (h : Q .normal ρ w) : LW P n ops [] Q ρ w := fun _ ha => wpList_nil ⟨ρ, ha, h⟩

theorem lw_val {o : Oper} {v : Value} {w' : World} (hg : o.guard = none) (hd : o.dst = some d) (hdn : Nat.blt d n = true) (hr : (execOp (ev ρ) o).run P w = .ok (.value v) w')
    (h : LW P n ops rest Q (upd ρ d v) w') : LW P n ops (o :: rest) Q ρ w := fun a ha =>
  wpList_plain hg fun _ hK => by
    unfold Oper.wp
    rw [ha.eval, hr]
    simp only [Oper.upon, hd]
    exact hK _ _ (h _ (ha.put hdn v))
theorem lw_skip {o : Oper} {w' : World} (hg : o.guard = none) (hd : o.dst = none) (hr : (execOp (ev ρ) o).run P w = .ok .skip w')
    (h : LW P n ops rest Q ρ w') : LW P n ops (o :: rest) Q ρ w := fun a ha =>
  wpList_plain hg fun _ hK => by
    unfold Oper.wp
    rw [ha.eval, hr]
    simp only [Oper.upon, hd]
    exact hK _ _ (h _ (ha.put_none _))
theorem lw_enter {o : Oper} {f : FuncId} {vs : List Value} {w' : World} {R : Value → World → Prop} (hg : o.guard = none) (hd : o.dst = some d) (hdn : Nat.blt d n = true)
    (hr : (execOp (ev ρ) o).run P w = .ok (.enter f vs.toArray) w') (hc : Ret P f vs w' R)
    (h : ∀ v w2, R v w2 → LW P n ops rest Q (upd ρ d v) w2) : LW P n ops (o :: rest) Q ρ w := fun a ha =>
  wpList_plain hg fun _ hK => by
    unfold Oper.wp
    rw [ha.eval, hr]
    simp only [Oper.upon, hd]
    exact Calls.mono hc fun e w2 ⟨v, he, hv⟩ => by subst he; exact hK _ _ (h v w2 hv _ (ha.put hdn v))

theorem St.yielded {a : Act} (ha : St n ρ a) {j : Nat} {o : Oper} {dj : Nat} {b : Bool} (hj : ops[j]? = some o) (hd : o.dst = some dj) (hb : ρ dj = .bool b) : Go.yielded ops a.tmps j = some b := by
  have hg := ha.get dj
  rw [hb] at hg
  simp only [Go.yielded, hj, Option.bind_some, hd]
  rw [Array.getD_eq_getD_getElem?] at hg
  cases h : a.tmps[dj]? with
  | none => rw [h] at hg; cases hg
  | some v => rw [h] at hg; simp at hg; simp [hg]
theorem St.yielded_none {a : Act} (ha : St n ρ a) {j : Nat} {o : Oper} {dj : Nat} (hj : ops[j]? = some o) (hd : o.dst = some dj) (hb : ρ dj = undef) : Go.yielded ops a.tmps j = none := by
  have hg := ha.get dj
  rw [hb] at hg
  simp only [Go.yielded, hj, Option.bind_some, hd]
  rw [Array.getD_eq_getD_getElem?] at hg
  cases h : a.tmps[dj]? with
  | none => rfl
  | some v => rw [h] at hg; simp only [Option.getD_some] at hg; subst hg; rfl

/-- a guarded operation that is wanted is one without a guard -/
theorem lw_go {o o' : Oper} {j dj : Nat} {b : Bool} (hg : o.guard = some (j, b)) (hj : ops[j]? = some o') (hdj : o'.dst = some dj) (hb : ρ dj = .bool b)
    (h : LW P n ops ({ o with guard := none } :: rest) Q ρ w) : LW P n ops (o :: rest) Q ρ w := fun a ha => by
  have := h a ha
  have hy := ha.yielded hj hdj hb
  unfold wpList at this ⊢
  have hw : Region.wanted o (Go.yielded ops a.tmps) = true := by simp [Region.wanted, hg, hy]
  rw [hw]
  have hw' : Region.wanted { o with guard := none } (yielded ops a.tmps) = true := rfl
  rw [hw'] at this
  exact this
theorem lw_no {o o' : Oper} {j dj : Nat} {b b' : Bool} (hg : o.guard = some (j, b)) (hj : ops[j]? = some o') (hdj : o'.dst = some dj) (hb : ρ dj = .bool b') (hne : (b' != b) = true)
    (hd : o.dst = some d) (hdn : Nat.blt d n = true) (h : LW P n ops rest Q (upd ρ d undef) w) : LW P n ops (o :: rest) Q ρ w := fun a ha => by
  have hy := ha.yielded hj hdj hb
  have hw : Region.wanted o (yielded ops a.tmps) = false := by
    simp [Region.wanted, hg, hy]; simpa using hne
  refine wpList_skip hw ?_
  rw [hd]
  exact h _ (ha.put hdn _)
theorem lw_no' {o o' : Oper} {j dj : Nat} {b : Bool} (hg : o.guard = some (j, b)) (hj : ops[j]? = some o') (hdj : o'.dst = some dj) (hb : ρ dj = undef)
    (hd : o.dst = some d) (hdn : Nat.blt d n = true) (h : LW P n ops rest Q (upd ρ d undef) w) : LW P n ops (o :: rest) Q ρ w := fun a ha => by
  have hy := ha.yielded_none hj hdj hb
  have hw : Region.wanted o (yielded ops a.tmps) = false := by
    simp [Region.wanted, hg, hy]
  refine wpList_skip hw ?_
  rw [hd]
  exact h _ (ha.put hdn _)
end

/-! the operations, one by one: an operation's text is 'O d op t p af' -/
abbrev O (d : Nat) (op : Op) (t : TypeId) (p : String) (af : Array Edge) : Oper := { dst := some d, op := op, type := t, pos := p, after := af, guard := none }
section
variable {P : Program} {n : Nat} {Q : Post} {ρ : Env} {w : World} {ops : Array Oper} {rest : List Oper} {d : Nat} {t : TypeId} {p : String} {af : Array Edge}

theorem mv {x : Operand} {v : Value} (hx : ev ρ x = v) (hdn : Nat.blt d n = true) (h : LW P n ops rest Q (upd ρ d v) w) : LW P n ops (O d (.move x) t p af :: rest) Q ρ w :=
  lw_val rfl rfl hdn (by simp [execOp, hx]) h
theorem mvI {x : Operand} {k : IntKind} {i : Int} (hx : ev ρ x = .int k i) (hdn : Nat.blt d n = true) (h : LW P n ops rest Q (upd ρ d (.int k i)) w) : LW P n ops (O d (.move x) t p af :: rest) Q ρ w := mv hx hdn h
theorem mvB {x : Operand} {b : Bool} (hx : ev ρ x = .bool b) (hdn : Nat.blt d n = true) (h : LW P n ops rest Q (upd ρ d (.bool b)) w) : LW P n ops (O d (.move x) t p af :: rest) Q ρ w := mv hx hdn h
theorem mvS {x : Operand} {A : Option Addr} {l c : Nat} (hx : ev ρ x = .slice A l c) (hdn : Nat.blt d n = true) (h : LW P n ops rest Q (upd ρ d (.slice A l c)) w) : LW P n ops (O d (.move x) t p af :: rest) Q ρ w := mv hx hdn h
theorem mvP {x : Operand} {A : Option Addr} (hx : ev ρ x = .pointer A) (hdn : Nat.blt d n = true) (h : LW P n ops rest Q (upd ρ d (.pointer A)) w) : LW P n ops (O d (.move x) t p af :: rest) Q ρ w := mv hx hdn h
theorem mvT {x : Operand} {s : ByteArray} (hx : ev ρ x = .string s) (hdn : Nat.blt d n = true) (h : LW P n ops rest Q (upd ρ d (.string s)) w) : LW P n ops (O d (.move x) t p af :: rest) Q ρ w := mv hx hdn h
theorem mvA {x : Operand} {c : Array Value} (hx : ev ρ x = .agg c) (hdn : Nat.blt d n = true) (h : LW P n ops rest Q (upd ρ d (.agg c)) w) : LW P n ops (O d (.move x) t p af :: rest) Q ρ w := mv hx hdn h
theorem mvU {x : Operand} {c : Array Value} (hx : ev ρ x = .tuple c) (hdn : Nat.blt d n = true) (h : LW P n ops rest Q (upd ρ d (.tuple c)) w) : LW P n ops (O d (.move x) t p af :: rest) Q ρ w := mv hx hdn h
theorem asg {x : Operand} {v : Value} (hx : ev ρ x = v) (hdn : Nat.blt d n = true) (h : LW P n ops rest Q (upd ρ d v) w) : LW P n ops (O d (.assign x) t p af :: rest) Q ρ w :=
  lw_val rfl rfl hdn (by simp [execOp, hx]) h
theorem asI {x : Operand} {k : IntKind} {i : Int} (hx : ev ρ x = .int k i) (hdn : Nat.blt d n = true) (h : LW P n ops rest Q (upd ρ d (.int k i)) w) : LW P n ops (O d (.assign x) t p af :: rest) Q ρ w := asg hx hdn h
theorem asB {x : Operand} {b : Bool} (hx : ev ρ x = .bool b) (hdn : Nat.blt d n = true) (h : LW P n ops rest Q (upd ρ d (.bool b)) w) : LW P n ops (O d (.assign x) t p af :: rest) Q ρ w := asg hx hdn h
theorem asS {x : Operand} {A : Option Addr} {l c : Nat} (hx : ev ρ x = .slice A l c) (hdn : Nat.blt d n = true) (h : LW P n ops rest Q (upd ρ d (.slice A l c)) w) : LW P n ops (O d (.assign x) t p af :: rest) Q ρ w := asg hx hdn h
theorem asP {x : Operand} {A : Option Addr} (hx : ev ρ x = .pointer A) (hdn : Nat.blt d n = true) (h : LW P n ops rest Q (upd ρ d (.pointer A)) w) : LW P n ops (O d (.assign x) t p af :: rest) Q ρ w := asg hx hdn h
theorem asT {x : Operand} {s : ByteArray} (hx : ev ρ x = .string s) (hdn : Nat.blt d n = true) (h : LW P n ops rest Q (upd ρ d (.string s)) w) : LW P n ops (O d (.assign x) t p af :: rest) Q ρ w := asg hx hdn h
theorem asA {x : Operand} {c : Array Value} (hx : ev ρ x = .agg c) (hdn : Nat.blt d n = true) (h : LW P n ops rest Q (upd ρ d (.agg c)) w) : LW P n ops (O d (.assign x) t p af :: rest) Q ρ w := asg hx hdn h

theorem lss {x y : Operand} {ty ty' : TypeId} {k : IntKind} {a b : Int} (hx : ev ρ x = .int k a) (hy : ev ρ y = .int k b) (hdn : Nat.blt d n = true) (h : LW P n ops rest Q (upd ρ d (.bool (decide (a < b)))) w) : LW P n ops (O d (.binOp .lss ty x y ty') t p af :: rest) Q ρ w :=
  lw_val rfl rfl hdn (by simp [execOp, hx, hy, eqGuard, binOp, Op.intCmp]; try rfl) h
theorem lssT {x y : Operand} {ty ty' : TypeId} {k : IntKind} {a b : Int} (hx : ev ρ x = .int k a) (hy : ev ρ y = .int k b) (hp : a < b) (hdn : Nat.blt d n = true) (h : LW P n ops rest Q (upd ρ d (.bool true)) w) : LW P n ops (O d (.binOp .lss ty x y ty') t p af :: rest) Q ρ w :=
  lss hx hy hdn (by simpa [hp] using h)
theorem lssF {x y : Operand} {ty ty' : TypeId} {k : IntKind} {a b : Int} (hx : ev ρ x = .int k a) (hy : ev ρ y = .int k b) (hp : ¬ (a < b)) (hdn : Nat.blt d n = true) (h : LW P n ops rest Q (upd ρ d (.bool false)) w) : LW P n ops (O d (.binOp .lss ty x y ty') t p af :: rest) Q ρ w :=
  lss hx hy hdn (by simpa [hp] using h)
theorem lssS {x y : Operand} {ty ty' : TypeId} {k : IntKind} {a b : Int} (hx : ev ρ x = .int k a) (hy : ev ρ y = .int k b) (hdn : Nat.blt d n = true) (h : a < b → LW P n ops rest Q (upd ρ d (.bool true)) w) (h2 : ¬ (a < b) → LW P n ops rest Q (upd ρ d (.bool false)) w) : LW P n ops (O d (.binOp .lss ty x y ty') t p af :: rest) Q ρ w := by
  by_cases hp : a < b
  · exact lssT hx hy hp hdn (h hp)
  · exact lssF hx hy hp hdn (h2 hp)
theorem leq {x y : Operand} {ty ty' : TypeId} {k : IntKind} {a b : Int} (hx : ev ρ x = .int k a) (hy : ev ρ y = .int k b) (hdn : Nat.blt d n = true) (h : LW P n ops rest Q (upd ρ d (.bool (decide (a ≤ b)))) w) : LW P n ops (O d (.binOp .leq ty x y ty') t p af :: rest) Q ρ w :=
  lw_val rfl rfl hdn (by simp [execOp, hx, hy, eqGuard, binOp, Op.intCmp]; try rfl) h
theorem leqT {x y : Operand} {ty ty' : TypeId} {k : IntKind} {a b : Int} (hx : ev ρ x = .int k a) (hy : ev ρ y = .int k b) (hp : a ≤ b) (hdn : Nat.blt d n = true) (h : LW P n ops rest Q (upd ρ d (.bool true)) w) : LW P n ops (O d (.binOp .leq ty x y ty') t p af :: rest) Q ρ w :=
  leq hx hy hdn (by simpa [hp] using h)
theorem leqF {x y : Operand} {ty ty' : TypeId} {k : IntKind} {a b : Int} (hx : ev ρ x = .int k a) (hy : ev ρ y = .int k b) (hp : ¬ (a ≤ b)) (hdn : Nat.blt d n = true) (h : LW P n ops rest Q (upd ρ d (.bool false)) w) : LW P n ops (O d (.binOp .leq ty x y ty') t p af :: rest) Q ρ w :=
  leq hx hy hdn (by simpa [hp] using h)
theorem leqS {x y : Operand} {ty ty' : TypeId} {k : IntKind} {a b : Int} (hx : ev ρ x = .int k a) (hy : ev ρ y = .int k b) (hdn : Nat.blt d n = true) (h : a ≤ b → LW P n ops rest Q (upd ρ d (.bool true)) w) (h2 : ¬ (a ≤ b) → LW P n ops rest Q (upd ρ d (.bool false)) w) : LW P n ops (O d (.binOp .leq ty x y ty') t p af :: rest) Q ρ w := by
  by_cases hp : a ≤ b
  · exact leqT hx hy hp hdn (h hp)
  · exact leqF hx hy hp hdn (h2 hp)
theorem gtr {x y : Operand} {ty ty' : TypeId} {k : IntKind} {a b : Int} (hx : ev ρ x = .int k a) (hy : ev ρ y = .int k b) (hdn : Nat.blt d n = true) (h : LW P n ops rest Q (upd ρ d (.bool (decide (b < a)))) w) : LW P n ops (O d (.binOp .gtr ty x y ty') t p af :: rest) Q ρ w :=
  lw_val rfl rfl hdn (by simp [execOp, hx, hy, eqGuard, binOp, Op.intCmp]; try rfl) h
theorem gtrT {x y : Operand} {ty ty' : TypeId} {k : IntKind} {a b : Int} (hx : ev ρ x = .int k a) (hy : ev ρ y = .int k b) (hp : b < a) (hdn : Nat.blt d n = true) (h : LW P n ops rest Q (upd ρ d (.bool true)) w) : LW P n ops (O d (.binOp .gtr ty x y ty') t p af :: rest) Q ρ w :=
  gtr hx hy hdn (by simpa [hp] using h)
theorem gtrF {x y : Operand} {ty ty' : TypeId} {k : IntKind} {a b : Int} (hx : ev ρ x = .int k a) (hy : ev ρ y = .int k b) (hp : ¬ (b < a)) (hdn : Nat.blt d n = true) (h : LW P n ops rest Q (upd ρ d (.bool false)) w) : LW P n ops (O d (.binOp .gtr ty x y ty') t p af :: rest) Q ρ w :=
  gtr hx hy hdn (by simpa [hp] using h)
theorem gtrS {x y : Operand} {ty ty' : TypeId} {k : IntKind} {a b : Int} (hx : ev ρ x = .int k a) (hy : ev ρ y = .int k b) (hdn : Nat.blt d n = true) (h : b < a → LW P n ops rest Q (upd ρ d (.bool true)) w) (h2 : ¬ (b < a) → LW P n ops rest Q (upd ρ d (.bool false)) w) : LW P n ops (O d (.binOp .gtr ty x y ty') t p af :: rest) Q ρ w := by
  by_cases hp : b < a
  · exact gtrT hx hy hp hdn (h hp)
  · exact gtrF hx hy hp hdn (h2 hp)
theorem geq {x y : Operand} {ty ty' : TypeId} {k : IntKind} {a b : Int} (hx : ev ρ x = .int k a) (hy : ev ρ y = .int k b) (hdn : Nat.blt d n = true) (h : LW P n ops rest Q (upd ρ d (.bool (decide (b ≤ a)))) w) : LW P n ops (O d (.binOp .geq ty x y ty') t p af :: rest) Q ρ w :=
  lw_val rfl rfl hdn (by simp [execOp, hx, hy, eqGuard, binOp, Op.intCmp]; try rfl) h
theorem geqT {x y : Operand} {ty ty' : TypeId} {k : IntKind} {a b : Int} (hx : ev ρ x = .int k a) (hy : ev ρ y = .int k b) (hp : b ≤ a) (hdn : Nat.blt d n = true) (h : LW P n ops rest Q (upd ρ d (.bool true)) w) : LW P n ops (O d (.binOp .geq ty x y ty') t p af :: rest) Q ρ w :=
  geq hx hy hdn (by simpa [hp] using h)
theorem geqF {x y : Operand} {ty ty' : TypeId} {k : IntKind} {a b : Int} (hx : ev ρ x = .int k a) (hy : ev ρ y = .int k b) (hp : ¬ (b ≤ a)) (hdn : Nat.blt d n = true) (h : LW P n ops rest Q (upd ρ d (.bool false)) w) : LW P n ops (O d (.binOp .geq ty x y ty') t p af :: rest) Q ρ w :=
  geq hx hy hdn (by simpa [hp] using h)
theorem geqS {x y : Operand} {ty ty' : TypeId} {k : IntKind} {a b : Int} (hx : ev ρ x = .int k a) (hy : ev ρ y = .int k b) (hdn : Nat.blt d n = true) (h : b ≤ a → LW P n ops rest Q (upd ρ d (.bool true)) w) (h2 : ¬ (b ≤ a) → LW P n ops rest Q (upd ρ d (.bool false)) w) : LW P n ops (O d (.binOp .geq ty x y ty') t p af :: rest) Q ρ w := by
  by_cases hp : b ≤ a
  · exact geqT hx hy hp hdn (h hp)
  · exact geqF hx hy hp hdn (h2 hp)
theorem eql {x y : Operand} {ty ty' : TypeId} {k : IntKind} {a b : Int} (hx : ev ρ x = .int k a) (hy : ev ρ y = .int k b) (hdn : Nat.blt d n = true) (h : LW P n ops rest Q (upd ρ d (.bool (decide (a = b)))) w) : LW P n ops (O d (.binOp .eql ty x y ty') t p af :: rest) Q ρ w :=
  lw_val rfl rfl hdn (by simp [execOp, hx, hy, eqGuard, binOp, Op.intCmp]; try rfl) h
theorem eqlT {x y : Operand} {ty ty' : TypeId} {k : IntKind} {a b : Int} (hx : ev ρ x = .int k a) (hy : ev ρ y = .int k b) (hp : a = b) (hdn : Nat.blt d n = true) (h : LW P n ops rest Q (upd ρ d (.bool true)) w) : LW P n ops (O d (.binOp .eql ty x y ty') t p af :: rest) Q ρ w :=
  eql hx hy hdn (by simpa [hp] using h)
theorem eqlF {x y : Operand} {ty ty' : TypeId} {k : IntKind} {a b : Int} (hx : ev ρ x = .int k a) (hy : ev ρ y = .int k b) (hp : ¬ (a = b)) (hdn : Nat.blt d n = true) (h : LW P n ops rest Q (upd ρ d (.bool false)) w) : LW P n ops (O d (.binOp .eql ty x y ty') t p af :: rest) Q ρ w :=
  eql hx hy hdn (by simpa [hp] using h)
theorem eqlS {x y : Operand} {ty ty' : TypeId} {k : IntKind} {a b : Int} (hx : ev ρ x = .int k a) (hy : ev ρ y = .int k b) (hdn : Nat.blt d n = true) (h : a = b → LW P n ops rest Q (upd ρ d (.bool true)) w) (h2 : ¬ (a = b) → LW P n ops rest Q (upd ρ d (.bool false)) w) : LW P n ops (O d (.binOp .eql ty x y ty') t p af :: rest) Q ρ w := by
  by_cases hp : a = b
  · exact eqlT hx hy hp hdn (h hp)
  · exact eqlF hx hy hp hdn (h2 hp)
theorem neq {x y : Operand} {ty ty' : TypeId} {k : IntKind} {a b : Int} (hx : ev ρ x = .int k a) (hy : ev ρ y = .int k b) (hdn : Nat.blt d n = true) (h : LW P n ops rest Q (upd ρ d (.bool (!decide (a = b)))) w) : LW P n ops (O d (.binOp .neq ty x y ty') t p af :: rest) Q ρ w :=
  lw_val rfl rfl hdn (by simp [execOp, hx, hy, eqGuard, binOp, Op.intCmp]; try rfl) h
theorem neqT {x y : Operand} {ty ty' : TypeId} {k : IntKind} {a b : Int} (hx : ev ρ x = .int k a) (hy : ev ρ y = .int k b) (hp : ¬ a = b) (hdn : Nat.blt d n = true) (h : LW P n ops rest Q (upd ρ d (.bool true)) w) : LW P n ops (O d (.binOp .neq ty x y ty') t p af :: rest) Q ρ w :=
  neq hx hy hdn (by simpa [hp] using h)
theorem neqF {x y : Operand} {ty ty' : TypeId} {k : IntKind} {a b : Int} (hx : ev ρ x = .int k a) (hy : ev ρ y = .int k b) (hp : a = b) (hdn : Nat.blt d n = true) (h : LW P n ops rest Q (upd ρ d (.bool false)) w) : LW P n ops (O d (.binOp .neq ty x y ty') t p af :: rest) Q ρ w :=
  neq hx hy hdn (by simpa [hp] using h)
theorem neqS {x y : Operand} {ty ty' : TypeId} {k : IntKind} {a b : Int} (hx : ev ρ x = .int k a) (hy : ev ρ y = .int k b) (hdn : Nat.blt d n = true) (h : ¬ (a = b) → LW P n ops rest Q (upd ρ d (.bool true)) w) (h2 : a = b → LW P n ops rest Q (upd ρ d (.bool false)) w) : LW P n ops (O d (.binOp .neq ty x y ty') t p af :: rest) Q ρ w := by
  by_cases hp : a = b
  · exact neqF hx hy hp hdn (h2 hp)
  · exact neqT hx hy hp hdn (h hp)
theorem wrapI {n : Int} (h1 : -9000000000000000000 ≤ n) (h2 : n ≤ 9000000000000000000) : IntKind.i64.wrap n = n := IntWalk.i64_in n (by omega)
theorem add {x y : Operand} {ty ty' : TypeId} {a b : Int} (hx : ev ρ x = .int .i64 a) (hy : ev ρ y = .int .i64 b) (h1 : -9000000000000000000 ≤ a + b) (h2 : a + b ≤ 9000000000000000000) (hdn : Nat.blt d n = true) (h : LW P n ops rest Q (upd ρ d (.int .i64 (a + b))) w) : LW P n ops (O d (.binOp .add ty x y ty') t p af :: rest) Q ρ w :=
  lw_val rfl rfl hdn (by simp [execOp, hx, hy, eqGuard, binOp, Op.intArith, wrapI h1 h2]) h
theorem sub {x y : Operand} {ty ty' : TypeId} {a b : Int} (hx : ev ρ x = .int .i64 a) (hy : ev ρ y = .int .i64 b) (h1 : -9000000000000000000 ≤ a - b) (h2 : a - b ≤ 9000000000000000000) (hdn : Nat.blt d n = true) (h : LW P n ops rest Q (upd ρ d (.int .i64 (a - b))) w) : LW P n ops (O d (.binOp .sub ty x y ty') t p af :: rest) Q ρ w :=
  lw_val rfl rfl hdn (by simp [execOp, hx, hy, eqGuard, binOp, Op.intArith, wrapI h1 h2]) h
theorem mul {x y : Operand} {ty ty' : TypeId} {a b : Int} (hx : ev ρ x = .int .i64 a) (hy : ev ρ y = .int .i64 b) (h1 : -9000000000000000000 ≤ a * b) (h2 : a * b ≤ 9000000000000000000) (hdn : Nat.blt d n = true) (h : LW P n ops rest Q (upd ρ d (.int .i64 (a * b))) w) : LW P n ops (O d (.binOp .mul ty x y ty') t p af :: rest) Q ρ w :=
  lw_val rfl rfl hdn (by simp [execOp, hx, hy, eqGuard, binOp, Op.intArith, wrapI h1 h2]) h
theorem rem {x y : Operand} {ty ty' : TypeId} {a b : Int} (hx : ev ρ x = .int .i64 a) (hy : ev ρ y = .int .i64 b) (h1 : 0 ≤ a) (h2 : 0 < b) (hdn : Nat.blt d n = true) (h : LW P n ops rest Q (upd ρ d (.int .i64 (a % b))) w) : LW P n ops (O d (.binOp .rem ty x y ty') t p af :: rest) Q ρ w :=
  lw_val rfl rfl hdn (by
    have hb : b ≠ 0 := by omega
    simp [execOp, hx, hy, eqGuard, binOp, Op.intDiv, hb, Int.tmod_eq_emod_of_nonneg h1]) h
theorem quo {x y : Operand} {ty ty' : TypeId} {a b : Int} (hx : ev ρ x = .int .i64 a) (hy : ev ρ y = .int .i64 b) (h1 : 0 ≤ a) (h2 : 0 < b) (h3 : a ≤ 9000000000000000000) (hdn : Nat.blt d n = true) (h : LW P n ops rest Q (upd ρ d (.int .i64 (a / b))) w) : LW P n ops (O d (.binOp .quo ty x y ty') t p af :: rest) Q ρ w :=
  lw_val rfl rfl hdn (by
    have hb : b ≠ 0 := by omega
    have hq : a / b ≤ a := Int.ediv_le_self b h1
    have hq0 : 0 ≤ a / b := Int.ediv_nonneg h1 (by omega)
    simp [execOp, hx, hy, eqGuard, binOp, Op.intDiv, hb, Int.tdiv_eq_ediv_of_nonneg h1]
    exact wrapI (by omega) (by omega)) h
theorem neg {x : Operand} {ty : TypeId} {a : Int} (hx : ev ρ x = .int .i64 a) (h1 : -9000000000000000000 ≤ -a) (h2 : -a ≤ 9000000000000000000) (hdn : Nat.blt d n = true) (h : LW P n ops rest Q (upd ρ d (.int .i64 (-a))) w) : LW P n ops (O d (.unOp .neg ty x) t p af :: rest) Q ρ w :=
  lw_val rfl rfl hdn (by simp [execOp, hx, Op.unary, Op.intArith, wrapI h1 h2]) h
theorem not {x : Operand} {ty : TypeId} {b : Bool} (hx : ev ρ x = .bool b) (hdn : Nat.blt d n = true) (h : LW P n ops rest Q (upd ρ d (.bool (!b))) w) : LW P n ops (O d (.unOp .not ty x) t p af :: rest) Q ρ w :=
  lw_val rfl rfl hdn (by simp [execOp, hx, Op.unary]) h
theorem pkT {c x y : Operand} {v : Value} (hc : ev ρ c = .bool true) (hx : ev ρ x = v) (hdn : Nat.blt d n = true) (h : LW P n ops rest Q (upd ρ d v) w) : LW P n ops (O d (.pick c x y) t p af :: rest) Q ρ w :=
  lw_val rfl rfl hdn (by simp [execOp, hc, hx, asBool]) h
theorem pkF {c x y : Operand} {v : Value} (hc : ev ρ c = .bool false) (hy : ev ρ y = v) (hdn : Nat.blt d n = true) (h : LW P n ops rest Q (upd ρ d v) w) : LW P n ops (O d (.pick c x y) t p af :: rest) Q ρ w :=
  lw_val rfl rfl hdn (by simp [execOp, hc, hy, asBool]) h
theorem pkTB {c x y : Operand} {v : Bool} (hc : ev ρ c = .bool true) (hx : ev ρ x = .bool v) (hdn : Nat.blt d n = true) (h : LW P n ops rest Q (upd ρ d (.bool v)) w) : LW P n ops (O d (.pick c x y) t p af :: rest) Q ρ w := pkT hc hx hdn h
theorem pkFB {c x y : Operand} {v : Bool} (hc : ev ρ c = .bool false) (hy : ev ρ y = .bool v) (hdn : Nat.blt d n = true) (h : LW P n ops rest Q (upd ρ d (.bool v)) w) : LW P n ops (O d (.pick c x y) t p af :: rest) Q ρ w := pkF hc hy hdn h
theorem exI {x : Operand} {i : Nat} {vs : List Value} {k : IntKind} {m : Int} (hx : ev ρ x = .tuple vs.toArray) (hi : vs[i]? = some (.int k m)) (hdn : Nat.blt d n = true) (h : LW P n ops rest Q (upd ρ d (.int k m)) w) : LW P n ops (O d (.extract x i) t p af :: rest) Q ρ w :=
  lw_val rfl rfl hdn (by simp [execOp, hx, Instr.extract, hi]) h
theorem exV {x : Operand} {i : Nat} {vs : List Value} {v : Value} (hx : ev ρ x = .tuple vs.toArray) (hi : vs[i]? = some v) (hdn : Nat.blt d n = true) (h : LW P n ops rest Q (upd ρ d v) w) : LW P n ops (O d (.extract x i) t p af :: rest) Q ρ w :=
  lw_val rfl rfl hdn (by simp [execOp, hx, Instr.extract, hi]) h
theorem nck {x : Operand} {a : Addr} (hx : ev ρ x = .pointer (some a)) (hdn : Nat.blt d n = true) (h : LW P n ops rest Q (upd ρ d (.pointer (some a))) w) : LW P n ops (O d (.nilCheck x) t p af :: rest) Q ρ w :=
  lw_val rfl rfl hdn (by simp [execOp, hx]) h
end
end Go.Eng
end

section
namespace Go.Eng
open Go Go.RowKit

/-- a fact on the blocks from lo to below hi -/
structure Fact where
  lo : Nat
  hi : Nat
  p : World → Prop
  st : ∀ w w', (∀ k, lo ≤ k → k < hi → w'.heap[k]? = w.heap[k]?) → p w → p w'

/-- what a call holds: L: the blocks that it has made and may write; F: what is known of other blocks -/
structure Hp (w0 w : World) (L : List (Nat × Obj)) (F : List Fact) : Prop where
  below : Below w0.heap.size w0 w
  ents : ∀ e ∈ L, w.heap[e.1]? = some e.2 ∧ w0.heap.size ≤ e.1
  nodup : (L.map (·.1)).Nodup
  facts : ∀ f ∈ F, f.p w ∧ f.hi ≤ w.heap.size ∧ ∀ e ∈ L, e.1 < f.lo ∨ f.hi ≤ e.1

section
variable {w0 w w' : World} {L : List (Nat × Obj)} {F : List Fact}
theorem lt_of_heap {b : Nat} {o : Obj} (h : w.heap[b]? = some o) : b < w.heap.size := by
  rcases Nat.lt_or_ge b w.heap.size with hl | hg
  · exact hl
  · rw [Array.getElem?_eq_none hg] at h; cases h
theorem Hp.start (w : World) : Hp w w [] [] := ⟨Below.refl _ _, by simp, by simp, by simp⟩
theorem Hp.ent (H : Hp w0 w L F) {i b : Nat} {o : Obj} (h : L[i]? = some (b, o)) : w.heap[b]? = some o := (H.ents _ (List.mem_of_getElem? h)).1
theorem Hp.fact (H : Hp w0 w L F) {i : Nat} {f : Fact} (h : F[i]? = some f) : f.p w := (H.facts _ (List.mem_of_getElem? h)).1
theorem Hp.old (H : Hp w0 w L F) {k : Nat} (hk : k < w0.heap.size) : w.heap[k]? = w0.heap[k]? := H.below.block k hk
theorem Hp.size (H : Hp w0 w L F) : w0.heap.size ≤ w.heap.size := H.below.size
theorem Hp.lt (H : Hp w0 w L F) {i b : Nat} {o : Obj} (h : L[i]? = some (b, o)) : b < w.heap.size := lt_of_heap (H.ent h)
theorem Hp.ge (H : Hp w0 w L F) {i b : Nat} {o : Obj} (h : L[i]? = some (b, o)) : w0.heap.size ≤ b := (H.ents _ (List.mem_of_getElem? h)).2
theorem Hp.ltAll (H : Hp w0 w L F) : ∀ e ∈ L, e.1 < w.heap.size := fun e he => lt_of_heap (H.ents e he).1

/-- whatever leaves what is there as it is -/
theorem Hp.later (H : Hp w0 w L F) (hb : Below w.heap.size w w') : Hp w0 w' L F := by
  refine ⟨H.below.trans (hb.mono H.below.size), fun e he => ?_, H.nodup, fun f hf => ?_⟩
  · obtain ⟨h1, h2⟩ := H.ents e he
    exact ⟨(hb.block _ (lt_of_heap h1)).trans h1, h2⟩
  · obtain ⟨h1, h2, h3⟩ := H.facts f hf
    exact ⟨f.st w w' (fun k _ hk => hb.block k (by omega)) h1, Nat.le_trans h2 hb.size, h3⟩
theorem Hp.drew (H : Hp w0 w L F) : Hp w0 w.drew L F := H.later (Below.refl _ w).drew
/-- a new block -/
theorem Hp.alloc (H : Hp w0 w L F) (o : Obj) : Hp w0 (w.alloc o) ((w.heap.size, o) :: L) F := by
  have h := H.later ((Below.refl w.heap.size w).alloc (Nat.le_refl _) o)
  refine ⟨h.below, fun e he => ?_, ?_, fun f hf => ?_⟩
  · rcases List.mem_cons.1 he with rfl | he
    · exact ⟨heap_alloc_new w o, H.size⟩
    · exact h.ents e he
  · simp only [List.map_cons, List.nodup_cons]
    refine ⟨fun hm => ?_, h.nodup⟩
    obtain ⟨e, he, hee⟩ := List.mem_map.1 hm
    have := H.ltAll e he
    omega
  · obtain ⟨h1, h2, h3⟩ := h.facts f hf
    refine ⟨h1, h2, fun e he => ?_⟩
    rcases List.mem_cons.1 he with rfl | he
    · exact .inr (H.facts f hf).2.1
    · exact h3 e he
/-- one of the call's own blocks is written -/
theorem Hp.put (H : Hp w0 w L F) {i b : Nat} {o o' : Obj} (hi : L[i]? = some (b, o)) (hw : w'.heap[b]? = some o') (hs : w'.heap.size = w.heap.size) (hot : w'.os = w.os) (ht : w'.tape = w.tape) (ho : w'.output = w.output)
    (hk : ∀ k, k ≠ b → w'.heap[k]? = w.heap[k]?) : Hp w0 w' (L.set i (b, o')) F := by
  have hge := H.ge hi
  have hne : ∀ (j : Nat) e, L[j]? = some e → j ≠ i → e.1 ≠ b := fun j e hj hji heq => by
    have hn := H.nodup
    have h1 : (L.map (·.1))[j]? = some b := by simp [hj, heq]
    have h2 : (L.map (·.1))[i]? = some b := by simp [hi]
    have hj' := (List.getElem?_eq_some_iff.1 h1)
    have hi' := (List.getElem?_eq_some_iff.1 h2)
    obtain ⟨l1, e1⟩ := hj'
    obtain ⟨l2, e2⟩ := hi'
    exact hji ((List.getElem_inj hn (i := j) (j := i)).1 (e1.trans e2.symm))
  refine ⟨⟨hot.trans H.below.os, ht.trans H.below.tape, ho.trans H.below.output, by rw [hs]; exact H.below.size, fun k hkk => (hk k (by omega)).trans (H.below.block k hkk)⟩, fun e he => ?_, ?_, fun f hf => ?_⟩
  · obtain ⟨j, hj⟩ := List.mem_iff_getElem?.1 he
    by_cases hji : j = i
    · subst hji
      rw [List.getElem?_set_self (List.getElem?_eq_some_iff.1 hi).1] at hj
      cases hj
      exact ⟨hw, hge⟩
    · rw [List.getElem?_set_ne (Ne.symm hji)] at hj
      obtain ⟨h1, h2⟩ := H.ents e (List.mem_of_getElem? hj)
      exact ⟨(hk _ (hne j e hj hji)).trans h1, h2⟩
  · have : (L.set i (b, o')).map (·.1) = L.map (·.1) := by
      apply List.ext_getElem?
      intro j
      simp only [List.getElem?_map]
      by_cases hji : i = j
      · subst hji
        rw [List.getElem?_set_self (List.getElem?_eq_some_iff.1 hi).1, hi]
        rfl
      · rw [List.getElem?_set_ne hji]
    rw [this]
    exact H.nodup
  · obtain ⟨h1, h2, h3⟩ := H.facts f hf
    have hb := h3 _ (List.mem_of_getElem? hi)
    simp only at hb
    refine ⟨f.st w w' (fun k hk1 hk2 => hk k (by omega)) h1, by rw [hs]; exact h2, fun e he => ?_⟩
    obtain ⟨j, hj⟩ := List.mem_iff_getElem?.1 he
    by_cases hji : j = i
    · subst hji
      rw [List.getElem?_set_self (List.getElem?_eq_some_iff.1 hi).1] at hj
      cases hj
      exact hb
    · rw [List.getElem?_set_ne (Ne.symm hji)] at hj
      exact h3 e (List.mem_of_getElem? hj)
/-- a fact more, behind a call that made memory: of blocks that were not there before it (or of such as were there when our call began) -/
theorem Hp.learn (H : Hp w0 w L F) (hb : Below w.heap.size w w') (f : Fact) (hf : f.p w') (hlo : w.heap.size ≤ f.lo) (hhi : f.hi ≤ w'.heap.size) : Hp w0 w' L (f :: F) := by
  have h := H.later hb
  refine ⟨h.below, h.ents, h.nodup, fun g hg => ?_⟩
  rcases List.mem_cons.1 hg with rfl | hg
  · exact ⟨hf, hhi, fun e he => .inl (by have := H.ltAll e he; omega)⟩
  · exact h.facts g hg
theorem Hp.learnOld (H : Hp w0 w L F) (f : Fact) (hf : f.p w) (hhi : f.hi ≤ w0.heap.size) : Hp w0 w L (f :: F) := by
  refine ⟨H.below, H.ents, H.nodup, fun g hg => ?_⟩
  rcases List.mem_cons.1 hg with rfl | hg
  · exact ⟨hf, Nat.le_trans hhi H.size, fun e he => .inr (by have := (H.ents e he).2; omega)⟩
  · exact H.facts g hg
/-- fresh blocks of a call become the call's own -/
theorem Hp.adopt (H : Hp w0 w L F) {b : Nat} {o : Obj} (hb : w.heap[b]? = some o) (hge : w0.heap.size ≤ b) (hl : ∀ e ∈ L, e.1 ≠ b) (hF : ∀ f ∈ F, b < f.lo ∨ f.hi ≤ b) : Hp w0 w ((b, o) :: L) F := by
  refine ⟨H.below, fun e he => ?_, ?_, fun f hf => ?_⟩
  · rcases List.mem_cons.1 he with rfl | he
    · exact ⟨hb, hge⟩
    · exact H.ents e he
  · simp only [List.map_cons, List.nodup_cons]
    exact ⟨fun hm => by obtain ⟨e, he, hee⟩ := List.mem_map.1 hm; exact hl e he hee, H.nodup⟩
  · obtain ⟨h1, h2, h3⟩ := H.facts f hf
    refine ⟨h1, h2, fun e he => ?_⟩
    rcases List.mem_cons.1 he with rfl | he
    · exact hF f hf
    · exact h3 e he
theorem Hp.forget (H : Hp w0 w L F) {L' : List (Nat × Obj)} {F' : List Fact} (hL : L'.Sublist L) (hF : ∀ f ∈ F', f ∈ F) : Hp w0 w L' F' :=
  ⟨H.below, fun e he => H.ents e (hL.subset he), H.nodup.sublist (hL.map _), fun f hf => by
    obtain ⟨h1, h2, h3⟩ := H.facts f (hF f hf)
    exact ⟨h1, h2, fun e he => h3 e (hL.subset he)⟩⟩

theorem cellE {b j : Nat} {cs : Array Value} {T : TypeId} {fr : Nat × Nat} {v : Value} (h : w.heap[b]? = some (.cells cs T fr)) (hj : cs[j]? = some v) : w.cell? ⟨b, j, none⟩ = some v := by
  simp [World.cell?, h, hj]
theorem frozenE {b j : Nat} {cs : Array Value} {T : TypeId} (h : w.heap[b]? = some (.cells cs T (0, 0))) : w.frozen? ⟨b, j, none⟩ = false := by
  simp [World.frozen?, h]
end
end Go.Eng
end

section
namespace Go.Eng
open Go Go.RowKit

def oneB (P : Program) (T : TypeId) : Bool :=
  match P.underlying T with
  | some (.struct _) | some (.array ..) | none => false
  | some _ => match P.info? T with | some i => Nat.beq i.size 1 | none => false
def aggB (P : Program) (T sz : Nat) : Bool :=
  match P.underlying T with
  | some (.struct _) | some (.array ..) => match P.info? T with | some i => Nat.beq i.size sz | none => false
  | _ => false
def sliceB (P : Program) (T E sz : Nat) : Bool :=
  match P.underlying T with
  | some (.slice e) => Nat.beq e E && match P.info? E with | some i => Nat.beq i.size sz | none => false
  | _ => false
def fieldB (P : Program) (T f off : Nat) : Bool :=
  match P.underlying T with
  | some (.struct fs) => match fs[f]? with
    | some g => Nat.beq g.offset off && match P.info? g.type with | some i => Nat.blt 0 i.size | none => false
    | none => false
  | _ => false

section
variable {P : Program} {w : World}
theorem run_typeInfo {T : TypeId} {i : TypeInfo} (h : P.info? T = some i) : (typeInfo T).run P w = .ok i w := by simp [typeInfo, h]
theorem run_size {T : TypeId} {i : TypeInfo} (h : P.info? T = some i) : (sizeOf T).run P w = .ok i.size w := by simp [Go.sizeOf, run_typeInfo h]
theorem one_isAgg {T : TypeId} (h : oneB P T = true) : (isAgg T).run P w = .ok false w ∧ ∃ i, P.info? T = some i ∧ i.size = 1 := by
  unfold oneB at h
  split at h
  · cases h
  · cases h
  · cases h
  · rename_i d h1 h2 hd
    cases hi : P.info? T with
    | none => rw [hi] at h; cases h
    | some i =>
      rw [hi] at h
      refine ⟨?_, i, rfl, Nat.eq_of_beq_eq_true h⟩
      simp only [isAgg, Sem.run_bind, run_underlying hd, Result.andThen_ok]
      rfl
theorem agg_isAgg {T sz : Nat} (h : aggB P T sz = true) : (isAgg T).run P w = .ok true w ∧ ∃ i, P.info? T = some i ∧ i.size = sz := by
  unfold aggB at h
  split at h
  · rename_i fs hd
    cases hi : P.info? T with
    | none => rw [hi] at h; cases h
    | some i =>
      rw [hi] at h
      refine ⟨?_, i, rfl, Nat.eq_of_beq_eq_true h⟩
      simp only [isAgg, Sem.run_bind, run_underlying hd, Result.andThen_ok]
      rfl
  · rename_i hd
    cases hi : P.info? T with
    | none => rw [hi] at h; cases h
    | some i =>
      rw [hi] at h
      refine ⟨?_, i, rfl, Nat.eq_of_beq_eq_true h⟩
      simp only [isAgg, Sem.run_bind, run_underlying hd, Result.andThen_ok]
      rfl
  · cases h
theorem slice_of {T E sz : Nat} (h : sliceB P T E sz = true) : P.underlying T = some (.slice E) ∧ ∃ i, P.info? E = some i ∧ i.size = sz := by
  unfold sliceB at h
  split at h
  · rename_i e hd
    simp only [Bool.and_eq_true] at h
    obtain ⟨h1, h2⟩ := h
    have := Nat.eq_of_beq_eq_true h1
    subst this
    cases hi : P.info? e with
    | none => rw [hi] at h2; cases h2
    | some i => rw [hi] at h2; exact ⟨hd, i, rfl, Nat.eq_of_beq_eq_true h2⟩
  · cases h
theorem field_of {T f off : Nat} (h : fieldB P T f off = true) : ∃ fs g i, P.underlying T = some (.struct fs) ∧ fs[f]? = some g ∧ g.offset = off ∧ P.info? g.type = some i ∧ i.size ≠ 0 := by
  unfold fieldB at h
  split at h
  · rename_i fs hd
    split at h
    · rename_i g hg
      simp only [Bool.and_eq_true] at h
      obtain ⟨h1, h2⟩ := h
      cases hi : P.info? g.type with
      | none => rw [hi] at h2; cases h2
      | some i =>
        rw [hi] at h2
        have : 0 < i.size := by simpa [Nat.blt_eq] using h2
        exact ⟨fs, g, i, hd, hg, Nat.eq_of_beq_eq_true h1, hi, by omega⟩
    · cases h
  · cases h

theorem run_loadOne {T : TypeId} {a : Addr} {v : Value} (h : oneB P T = true) (hc : w.cell? a = some v) : (loadVar T a).run P w = .ok v w := by
  obtain ⟨h1, -⟩ := one_isAgg (w := w) h
  simp only [loadVar, Sem.run_bind, h1, Result.andThen_ok]
  simp [load, Sem.run, hc]
theorem run_loadAgg {T sz : Nat} {a : Addr} {xs : List Value} (h : aggB P T sz = true) (hl : xs.length = sz) (hc : ∀ j v, xs[j]? = some v → w.cell? (a.add j) = some v) : (loadVar T a).run P w = .ok (.agg xs.toArray) w := by
  obtain ⟨h1, i, hi, hs⟩ := agg_isAgg (w := w) h
  simp only [loadVar, Sem.run_bind, h1, Result.andThen_ok, run_size hi, if_true, hs, ← hl, run_loadCells_list w a xs hc]
  rfl
theorem run_storeE {T : TypeId} {b o : Nat} {t : TypeId} {cs : Array Value} {v : Value} {i : TypeInfo} (hi : P.info? T = some i) (hs : v.cells.size = i.size) (hb : w.heap[b]? = some (.cells cs t (0, 0)))
    (hf : o + v.cells.size ≤ cs.size) (h1 : ∀ u ∈ v.cells.toList, u.oneCell' = true) :
    (storeVar T ⟨b, o, none⟩ v).run P w = .ok () (w.setRow b (cs.toList.take o ++ v.cells.toList ++ cs.toList.drop (o + v.cells.size)).toArray) := by
  have h := run_storeCells_at P b o t v.cells.toList 0 cs w hb (by simpa using hf) h1
  simp only [Nat.add_zero, Array.length_toList] at h
  simp only [storeVar, Sem.run_bind, run_size hi, Result.andThen_ok, hs, ne_eq, not_true, if_false] at h ⊢
  simpa [hs] using h
end

section
variable {P : Program} {n : Nat} {Q : Post} {ρ : Env} {w : World} {ops : Array Oper} {rest : List Oper} {d : Nat} {t : TypeId} {p : String} {af : Array Edge}
variable {w0 : World} {L : List (Nat × Obj)} {F : List Fact}

theorem fad {x : Operand} {T f off b o : Nat} (hf : fieldB P T f off = true) (hx : ev ρ x = .pointer (some ⟨b, o, none⟩)) (hdn : Nat.blt d n = true)
    (h : LW P n ops rest Q (upd ρ d (.pointer (some ⟨b, o + off, none⟩))) w) : LW P n ops (O d (.fieldAddr T x f) t p af :: rest) Q ρ w := by
  obtain ⟨fs, g, i, h1, h2, h3, h4, h5⟩ := field_of hf
  refine lw_val rfl rfl hdn ?_ h
  simp only [execOp, hx, Instr.fieldAt, Sem.run_bind, run_underlying h1, Result.andThen_ok, h2, Instr.sureAddr, Sem.run_pure, fieldPlace, run_size h4, h5, if_false, h3, Addr.add_lit]
theorem ixa {x y : Operand} {T E sz b o l c : Nat} {k : IntKind} {i : Int} (hT : sliceB P T E sz = true) (hx : ev ρ x = .slice (some ⟨b, o, none⟩) l c) (hy : ev ρ y = .int k i) (h0 : 0 ≤ i) (hl : i < l) (hdn : Nat.blt d n = true)
    (h : LW P n ops rest Q (upd ρ d (.pointer (some ⟨b, o + i.toNat * sz, none⟩))) w) : LW P n ops (O d (.indexAddr T x y) t p af :: rest) Q ρ w := by
  obtain ⟨h1, j, h2, h3⟩ := slice_of hT
  refine lw_val rfl rfl hdn ?_ h
  simp only [execOp, hx, hy, Instr.indexAt, asIntOf, Sem.run_bind, run_underlying h1, Result.andThen_ok, Sem.run_pure]
  simp [h0, hl, run_size h2, h3, Addr.add_lit]
theorem ld {x : Operand} {T : TypeId} {a : Addr} {v : Value} (hT : oneB P T = true) (hx : ev ρ x = .pointer (some a)) (hc : w.cell? a = some v) (hdn : Nat.blt d n = true)
    (h : LW P n ops rest Q (upd ρ d v) w) : LW P n ops (O d (.load T x) t p af :: rest) Q ρ w :=
  lw_val rfl rfl hdn (by simp only [execOp, hx, Instr.loadAt, Instr.sureAddr, Sem.run_bind, Sem.run_pure, Result.andThen_ok, run_loadOne hT hc]) h
theorem ldA {x : Operand} {T sz b o : Nat} {xs : List Value} (hT : aggB P T sz = true) (hx : ev ρ x = .pointer (some ⟨b, o, none⟩)) (hl : xs.length = sz) (hc : ∀ j v, xs[j]? = some v → w.cell? ⟨b, o + j, none⟩ = some v) (hdn : Nat.blt d n = true)
    (h : LW P n ops rest Q (upd ρ d (.agg xs.toArray)) w) : LW P n ops (O d (.load T x) t p af :: rest) Q ρ w :=
  lw_val rfl rfl hdn (by simp only [execOp, hx, Instr.loadAt, Instr.sureAddr, Sem.run_bind, Sem.run_pure, Result.andThen_ok, run_loadAgg hT hl (fun j v hj => by rw [Addr.add_lit]; exact hc j v hj)]) h
/-- a cell of a block of the call's own -/
theorem ldE (H : Hp w0 w L F) (i : Nat) {x : Operand} {T : TypeId} {b j : Nat} {cs : Array Value} {tt : TypeId} {fr : Nat × Nat} {v : Value} (hT : oneB P T = true) (hx : ev ρ x = .pointer (some ⟨b, j, none⟩)) (hi : L[i]? = some (b, .cells cs tt fr)) (hj : cs[j]? = some v) (hdn : Nat.blt d n = true)
    (h : LW P n ops rest Q (upd ρ d v) w) : LW P n ops (O d (.load T x) t p af :: rest) Q ρ w := ld hT hx (cellE (H.ent hi) hj) hdn h
/-- a whole block of the call's own -/
theorem ldW (H : Hp w0 w L F) (i : Nat) {x : Operand} {T sz : Nat} {b : Nat} {cs : Array Value} {tt : TypeId} {fr : Nat × Nat} (hT : aggB P T sz = true) (hx : ev ρ x = .pointer (some ⟨b, 0, none⟩)) (hi : L[i]? = some (b, .cells cs tt fr)) (hs : cs.size = sz) (hdn : Nat.blt d n = true)
    (h : LW P n ops rest Q (upd ρ d (.agg cs)) w) : LW P n ops (O d (.load T x) t p af :: rest) Q ρ w :=
  ldA (xs := cs.toList) hT hx (by simpa using hs) (fun j v hj => by rw [Nat.zero_add]; exact cellE (H.ent hi) (by simpa using hj)) hdn h

theorem box (H : Hp w0 w L F) {x : Operand} {T : TypeId} {v : Value} (hx : ev ρ x = v) (hdn : Nat.blt d n = true)
    (h : ∀ w' b, Hp w0 w' ((b, .cells v.cells T) :: L) F → LW P n ops rest Q (upd ρ d (.pointer (some ⟨b, 0, none⟩))) w') : LW P n ops (O d (.box T x) t p af :: rest) Q ρ w := by
  refine lw_val rfl rfl hdn ?_ (h _ _ (H.alloc (.cells v.cells T)))
  simp only [execOp, hx, Instr.box, newVar, newRow, newObj, Sem.run_bind, Sem.run_pure]
  rfl
theorem alo (H : Hp w0 w L F) {T : TypeId} {z : Value} (hz : (P.info? T).bind (·.zero) = some z) (hdn : Nat.blt d n = true)
    (h : ∀ w' b, Hp w0 w' ((b, .cells z.cells T) :: L) F → LW P n ops rest Q (upd ρ d (.pointer (some ⟨b, 0, none⟩))) w') : LW P n ops (O d (.alloc T) t p af :: rest) Q ρ w := by
  refine lw_val rfl rfl hdn ?_ (h _ _ (H.alloc (.cells z.cells T)))
  cases hi : P.info? T with
  | none => rw [hi] at hz; cases hz
  | some i =>
    rw [hi] at hz
    simp only [Option.bind_some] at hz
    simp only [execOp, Instr.alloc, zeroValue, run_typeInfo hi, hz, newVar, newRow, newObj, Sem.run_bind, Sem.run_pure, Result.andThen_ok]
    rfl
/-- a store into a block of the call's own -/
theorem stE (H : Hp w0 w L F) (i : Nat) {x y : Operand} {T : TypeId} {b o sz : Nat} {cs : Array Value} {tt : TypeId} {v : Value} (hT : (P.info? T).map (·.size) = some sz) (hx : ev ρ x = .pointer (some ⟨b, o, none⟩)) (hy : ev ρ y = v) (hi : L[i]? = some (b, .cells cs tt (0, 0)))
    (hs : v.cells.size = sz) (hf : o + sz ≤ cs.size) (h1 : v.cells.toList.all (·.oneCell') = true)
    (h : ∀ w', Hp w0 w' (L.set i (b, .cells (cs.toList.take o ++ v.cells.toList ++ cs.toList.drop (o + sz)).toArray tt)) F → LW P n ops rest Q ρ w') : LW P n ops ({ dst := none, op := .store T x y, type := t, pos := p, after := af, guard := none } :: rest) Q ρ w := by
  cases hin : P.info? T with
  | none => rw [hin] at hT; cases hT
  | some ii =>
    rw [hin] at hT
    have hsz : ii.size = sz := by simpa using hT
    have hb := H.ent hi
    have hr := run_storeE (P := P) (w := w) (T := T) (o := o) hin (hs.trans hsz.symm) hb (by rw [hs]; exact hf) (List.all_eq_true.1 h1)
    refine lw_skip rfl rfl (w' := w.setRow b (cs.toList.take o ++ v.cells.toList ++ cs.toList.drop (o + sz)).toArray) ?_ (h _ (H.put hi (setRow_heap w b cs _ tt _ hb) ?_ rfl rfl rfl fun k hk => setRow_other w b k _ hk))
    · rw [hs] at hr
      simp only [execOp, hx, hy, Instr.storeAt, Instr.sureAddr, Sem.run_bind, Sem.run_pure, Result.andThen_ok, hr]
    · simp [World.setRow]
end
end Go.Eng
end

section
namespace Go.Eng
open Go Go.RowKit

def callB (P : Program) (f : FuncId) : Bool :=
  match P.funcs[f]? with
  | some fn => !(fn.name == "runtime.NumGoroutine") && fn.body.isSome
  | none => false
def lenB (P : Program) (T : TypeId) : Bool :=
  match P.underlying T with
  | some (.slice _) => true
  | _ => false
def strB (P : Program) (T : TypeId) : Bool :=
  match P.underlying T with
  | some .string => true
  | _ => false
def intB (P : Program) (T : TypeId) (k : IntKind) : Bool :=
  match P.underlying T with
  | some (.int k') => decide (k' = k)
  | _ => false

section
variable {P : Program} {w : World}
theorem run_callFunc {f : FuncId} {vs : Array Value} (h : callB P f = true) : (callFunc f vs).run P w = .ok (.enter f vs) w := by
  unfold callB at h
  split at h
  · rename_i fn hf
    simp only [Bool.and_eq_true, Bool.not_eq_true'] at h
    obtain ⟨h1, h2⟩ := h
    have h1' : ¬ fn.name = "runtime.NumGoroutine" := by simpa using h1
    have h3 : ¬ fn.body = none := by intro hb; rw [hb] at h2; cases h2
    simp only [callFunc, Sem.run_bind]
    simp [program, Sem.run, hf, h1', h3]
  · cases h
end

section
variable {P : Program} {n : Nat} {Q : Post} {ρ : Env} {w : World} {ops : Array Oper} {rest : List Oper} {d : Nat} {t : TypeId} {p : String} {af : Array Edge}
variable {w0 : World} {L : List (Nat × Obj)} {F : List Fact}

theorem cal {f : FuncId} {xs : List Operand} {ats : Array TypeId} {vs : List Value} {R : Value → World → Prop} (hf : callB P f = true) (hc : Ret P f vs w R) (hv : xs.map (ev ρ) = vs) (hdn : Nat.blt d n = true)
    (h : ∀ v w2, R v w2 → LW P n ops rest Q (upd ρ d v) w2) : LW P n ops (O d (.call { callee := .value (.func f), args := xs.toArray, argTypes := ats }) t p af :: rest) Q ρ w := by
  refine lw_enter rfl rfl hdn ?_ hc h
  subst hv
  simp [execOp, resolve, ev, Deferred.ofValue, invoke, run_callFunc hf]
/-- a call of a function value that the call itself has made -/
theorem calF {f : FuncId} {x : Operand} {xs : List Operand} {ats : Array TypeId} {cap vs : List Value} {R : Value → World → Prop} (hf : callB P f = true) (hx : ev ρ x = .func (.func f) #[] cap.toArray) (hc : Ret P f vs w R) (hv : xs.map (ev ρ) ++ cap = vs) (hdn : Nat.blt d n = true)
    (h : ∀ v w2, R v w2 → LW P n ops rest Q (upd ρ d v) w2) : LW P n ops (O d (.call { callee := .value x, args := xs.toArray, argTypes := ats }) t p af :: rest) Q ρ w := by
  refine lw_enter rfl rfl hdn ?_ hc h
  subst hv
  simp [execOp, resolve, hx, Deferred.ofValue, invoke, run_callFunc hf]

theorem lenS {x : Operand} {T : TypeId} {A : Option Addr} {l c : Nat} (hT : lenB P T = true) (hx : ev ρ x = .slice A l c) (hdn : Nat.blt d n = true)
    (h : LW P n ops rest Q (upd ρ d (.int .i64 l)) w) : LW P n ops (O d (.call { callee := .builtin .len, args := #[x], argTypes := #[T] }) t p af :: rest) Q ρ w := by
  unfold lenB at hT
  split at hT
  · rename_i e hu
    refine lw_val rfl rfl hdn ?_ h
    simp [execOp, resolve, invoke, builtin, Builtin.len_, hx, run_underlying hu, goInt]
  · cases hT
theorem lenT {x : Operand} {T : TypeId} {s : ByteArray} (hT : strB P T = true) (hx : ev ρ x = .string s) (hdn : Nat.blt d n = true)
    (h : LW P n ops rest Q (upd ρ d (.int .i64 s.size)) w) : LW P n ops (O d (.call { callee := .builtin .len, args := #[x], argTypes := #[T] }) t p af :: rest) Q ρ w := by
  unfold strB at hT
  split at hT
  · rename_i hu
    refine lw_val rfl rfl hdn ?_ h
    simp [execOp, resolve, invoke, builtin, Builtin.len_, hx, run_underlying hu, goInt]
  · cases hT
theorem minI {x y : Operand} {T T' : TypeId} {k : IntKind} {a b : Int} (hx : ev ρ x = .int k a) (hy : ev ρ y = .int k b) (hdn : Nat.blt d n = true)
    (h : LW P n ops rest Q (upd ρ d (.int k (min a b))) w) : LW P n ops (O d (.call { callee := .builtin .min, args := #[x, y], argTypes := #[T, T'] }) t p af :: rest) Q ρ w := by
  refine lw_val rfl rfl hdn ?_ h
  simp [execOp, resolve, invoke, builtin, Builtin.min_, Builtin.min2, hx, hy, Int.min_def]
  split <;> split <;> omega
theorem maxI {x y : Operand} {T T' : TypeId} {k : IntKind} {a b : Int} (hx : ev ρ x = .int k a) (hy : ev ρ y = .int k b) (hdn : Nat.blt d n = true)
    (h : LW P n ops rest Q (upd ρ d (.int k (max a b))) w) : LW P n ops (O d (.call { callee := .builtin .max, args := #[x, y], argTypes := #[T, T'] }) t p af :: rest) Q ρ w := by
  refine lw_val rfl rfl hdn ?_ h
  simp [execOp, resolve, invoke, builtin, Builtin.max_, Builtin.max2, hx, hy, Int.max_def]
  split <;> split <;> omega
theorem cvI {x : Operand} {S T : TypeId} {k k' : IntKind} {a b : Int} (hS : intB P S k = true) (hT : intB P T k' = true) (hx : ev ρ x = .int k a) (hw : k'.wrap a = b) (hdn : Nat.blt d n = true)
    (h : LW P n ops rest Q (upd ρ d (.int k' b)) w) : LW P n ops (O d (.convert S T x) t p af :: rest) Q ρ w := by
  unfold intB at hS hT
  split at hS
  · rename_i k1 h1
    split at hT
    · rename_i k2 h2
      have := of_decide_eq_true hT
      subst this
      refine lw_val rfl rfl hdn ?_ h
      simp [execOp, convert, hx, run_underlying h1, run_underlying h2, Conv.intToInt, hw]
    · cases hT
  · cases hS

/-- where a slice's piece begins -/
def From (A A' : Option Addr) (l len sz : Nat) : Prop := l < len → ∀ b o, A = some ⟨b, o, none⟩ → A' = some ⟨b, o + l * sz, none⟩
theorem sliLo {x lo : Operand} {T E sz : Nat} {A : Option Addr} {len cap : Nat} {k : IntKind} {i : Int} (hT : sliceB P T E sz = true) (hx : ev ρ x = .slice A len cap) (hl : ev ρ lo = .int k i) (h0 : 0 ≤ i) (h1 : i ≤ len) (hc : len ≤ cap) (hdn : Nat.blt d n = true)
    (h : ∀ A', From A A' i.toNat len sz → LW P n ops rest Q (upd ρ d (.slice A' (len - i.toNat) (cap - i.toNat))) w) : LW P n ops (O d (.slice T x (some lo) none none) t p af :: rest) Q ρ w := by
  obtain ⟨hu, j, h2, h3⟩ := slice_of hT
  refine lw_val (v := .slice (if cap = i.toNat then A else A.map (·.add (i.toNat * sz))) (len - i.toNat) (cap - i.toNat)) rfl rfl hdn ?_ (h _ ?_)
  · simp only [execOp, Instr.sliceAt, Option.map_some, Option.map_none, hx, hl, Sem.run_bind, run_underlying hu, Result.andThen_ok, Instr.slice, Instr.sliceBounds, Instr.sliceBound, asIntOf, Sem.run_pure]
    simp [h0, h1, run_size h2, h3]
  · intro hlt b o hA
    subst hA
    rw [if_neg (by omega)]
    simp [Addr.add_lit]
theorem sliHi {x hi : Operand} {T E sz : Nat} {A : Option Addr} {len cap : Nat} {k : IntKind} {i : Int} (hT : sliceB P T E sz = true) (hx : ev ρ x = .slice A len cap) (hl : ev ρ hi = .int k i) (h0 : 0 ≤ i) (h1 : i ≤ cap) (hdn : Nat.blt d n = true)
    (h : ∀ A', (0 < cap → A' = A) → LW P n ops rest Q (upd ρ d (.slice A' i.toNat cap)) w) : LW P n ops (O d (.slice T x none (some hi) none) t p af :: rest) Q ρ w := by
  obtain ⟨hu, j, h2, h3⟩ := slice_of hT
  refine lw_val (v := .slice (if cap = 0 then A else A.map (·.add (0 * sz))) i.toNat cap) rfl rfl hdn ?_ (h _ ?_)
  · simp only [execOp, Instr.sliceAt, Option.map_some, Option.map_none, hx, hl, Sem.run_bind, run_underlying hu, Result.andThen_ok, Instr.slice, Instr.sliceBounds, Instr.sliceBound, asIntOf, Sem.run_pure]
    simp [h0, h1, run_size h2, h3]
  · intro hc
    rw [if_neg (by omega)]
    cases A <;> simp [Addr.add]
theorem sliLH {x lo hi : Operand} {T E sz : Nat} {A : Option Addr} {len cap : Nat} {k k' : IntKind} {i j : Int} (hT : sliceB P T E sz = true) (hx : ev ρ x = .slice A len cap) (hl : ev ρ lo = .int k i) (hh : ev ρ hi = .int k' j) (h0 : 0 ≤ i) (h1 : i ≤ j) (h2 : j ≤ cap) (hdn : Nat.blt d n = true)
    (h : ∀ A', From A A' i.toNat cap sz → LW P n ops rest Q (upd ρ d (.slice A' (j.toNat - i.toNat) (cap - i.toNat))) w) : LW P n ops (O d (.slice T x (some lo) (some hi) none) t p af :: rest) Q ρ w := by
  obtain ⟨hu, q, h3, h4⟩ := slice_of hT
  refine lw_val (v := .slice (if cap = i.toNat then A else A.map (·.add (i.toNat * sz))) (j.toNat - i.toNat) (cap - i.toNat)) rfl rfl hdn ?_ (h _ ?_)
  · have h5 : 0 ≤ j := by omega
    have h6 : i ≤ (j.toNat : Int) := by omega
    simp only [execOp, Instr.sliceAt, Option.map_some, Option.map_none, hx, hl, hh, Sem.run_bind, run_underlying hu, Result.andThen_ok, Instr.slice, Instr.sliceBounds, Instr.sliceBound, asIntOf, Sem.run_pure]
    simp [h0, h2, h5, run_size h3, h4]
    intro hlt
    omega
  · intro hlt b o hA
    subst hA
    rw [if_neg (by omega)]
    simp [Addr.add_lit]

/-- a slice that is written out -/
theorem bsl (H : Hp w0 w L F) {T E sz len : Nat} {parts : List (Nat × Operand)} {z : Value} {cs : Array Value} (hT : sliceB P T E sz = true) (hz : (P.info? E).bind (·.zero) = some z) (hn : Nat.blt 0 (len * sz) = true) (hm : Nat.ble (len * sz) 16777216 = true)
    (hf : Instr.fill (fun i => some (i * sz, sz)) ((Array.range (len * sz)).map (z.cells[· % z.cells.size]!)) (parts.map fun q => (q.1, ev ρ q.2)) = some cs) (hdn : Nat.blt d n = true)
    (h : ∀ w' b, Hp w0 w' ((b, .cells cs E) :: L) F → LW P n ops rest Q (upd ρ d (.slice (some ⟨b, 0, none⟩) len len)) w') : LW P n ops (O d (.buildSlice T len parts.toArray) t p af :: rest) Q ρ w := by
  obtain ⟨hu, q, h3, h4⟩ := slice_of hT
  refine lw_val rfl rfl hdn ?_ (h _ _ (H.alloc (.cells cs E)))
  rw [h3] at hz
  simp only [Option.bind_some] at hz
  have hn' : len * sz ≠ 0 := by have : 0 < len * sz := by simpa [Nat.blt_eq] using hn
                                omega
  have hm' : ¬ len * sz > 2 ^ 24 := by have := Nat.le_of_ble_eq_true hm; omega
  simp only [execOp, Instr.buildSlice, Sem.run_bind, run_underlying hu, Result.andThen_ok, run_size h3, h4, hn', hm', if_false, zeroValue, run_typeInfo h3, hz, Sem.run_pure]
  simp only [List.map_toArray, hf, newRow, newObj, Sem.run_bind, Sem.run_pure]
  rfl
end
end Go.Eng
end

section
namespace Go.Eng
open Go Go.RowKit

/-- the slice value v of n elements of type e (sz cells each) is the call's own: its row is all of L, or there is none -/
def OwnE (v : Value) (e sz n : Nat) (xs : List Value) (L : List (Nat × Obj)) : Prop :=
  xs.length = n * sz ∧ ((L = [] ∧ n = 0 ∧ ∃ A, v = .slice A 0 0) ∨
    ∃ g cap cur, L = [(g, .cells cur e (0, 0))] ∧ v = .slice (some ⟨g, 0, none⟩) n cap ∧ n ≤ cap ∧ cap ≤ maxLen ∧ cur.size = cap * sz ∧ cur.toList.take (n * sz) = xs)
theorem OwnE.nil (e sz : Nat) : OwnE (.slice none 0 0) e sz 0 [] [] := ⟨by simp, .inl ⟨rfl, rfl, none, rfl⟩⟩
theorem OwnE.lit {e sz : Nat} {g n : Nat} {cur : Array Value} (hn : n ≤ maxLen) (hs : cur.size = n * sz) : OwnE (.slice (some ⟨g, 0, none⟩) n n) e sz n cur.toList [(g, .cells cur e (0, 0))] :=
  ⟨by simpa using hs, .inr ⟨g, n, cur, rfl, rfl, Nat.le_refl _, hn, hs, by rw [List.take_of_length_le (by simp [hs])]⟩⟩
/-- the cells news of m elements lie at X -/
def Src (w : World) (X : Option Addr) (m sz : Nat) (news : List Value) : Prop :=
  news.length = m * sz ∧ (0 < m → ∃ ad, X = some ad ∧ ∀ j u, news[j]? = some u → w.cell? (ad.add j) = some u)
theorem Src.row {w : World} {b : Nat} {cs : Array Value} {T : TypeId} {fr : Nat × Nat} {m sz : Nat} (h : w.heap[b]? = some (.cells cs T fr)) (hs : cs.size = m * sz) : Src w (some ⟨b, 0, none⟩) m sz cs.toList :=
  ⟨by simpa using hs, fun _ => ⟨_, rfl, fun j u hj => by rw [Addr.add_lit, Nat.zero_add]; exact cellE h (by simpa using hj)⟩⟩

theorem Hp.addIn {w0 w w' : World} {F : List Fact} {K M : List (Nat × Obj)} {g : Nat} {o : Obj} (H : Hp w0 w (K ++ M) F) (hb : Below w.heap.size w w') (hg : w'.heap[g]? = some o) (hge : w.heap.size ≤ g) : Hp w0 w' (K ++ [(g, o)] ++ M) F := by
  have h := H.later hb
  have h1 := h.adopt hg (Nat.le_trans H.size hge) (fun e he => by have := H.ltAll e he; omega) (fun f hf => .inr (by have := (H.facts f hf).2.1; omega))
  have hp' : List.Perm (K ++ [(g, o)] ++ M) ((g, o) :: (K ++ M)) := by
    simp only [List.append_assoc, List.singleton_append]
    exact List.perm_middle
  refine ⟨h1.below, fun e he => h1.ents e (hp'.mem_iff.1 he), (hp'.map _).nodup_iff.2 h1.nodup, fun f hf => ?_⟩
  obtain ⟨a, b, c⟩ := h1.facts f hf
  exact ⟨a, b, fun e he => c e (hp'.mem_iff.1 he)⟩
theorem Hp.dropIn {w0 w : World} {F : List Fact} {K M N : List (Nat × Obj)} (H : Hp w0 w (K ++ N ++ M) F) : Hp w0 w (K ++ M) F :=
  H.forget (by simp) (fun _ h => h)

section
variable {P : Program} {w0 w : World} {F : List Fact}
theorem run_app {T ty e sz by_ : Nat} {i : TypeInfo} {z : Value} (ht : P.underlying T = some (.slice e)) (hi : P.info? e = some i) (hz : i.zero = some z) (hsz : i.size = sz) (hby : i.bytes = by_) (hzs : z.cells.size = sz) (hpos : 0 < sz)
    {K L M : List (Nat × Obj)} (H : Hp w0 w (K ++ L ++ M) F) {v : Value} {n : Nat} {xs : List Value} (ho : OwnE v e sz n xs L) {X : Option Addr} {m c : Nat} {news : List Value} (hs : Src w X m sz news) (h1 : ∀ u ∈ news, u.oneCell' = true)
    (hb : (n + m) * by_ ≤ 140737488355328) (h63 : n + m ≤ maxLen) :
    ∃ v' w' L', (Builtin.append_ #[T, T] ty #[v, .slice X m c]).run P w = .ok v' w' ∧ OwnE v' e sz (n + m) (xs ++ news) L' ∧ Hp w0 w' (K ++ L' ++ M) F := by
  subst hsz hby
  obtain ⟨hx, ho⟩ := ho
  obtain ⟨hl, hc⟩ := hs
  have hlen : (xs ++ news).length = (n + m) * i.size := by rw [List.length_append, hx, hl, Nat.add_mul]
  have hsmall : n + m ≤ 9223372036854775807 := by simp only [maxLen] at h63; omega
  have big : ∀ (b : Addr) (cap : Nat), n ≤ cap → cap < n + m → (∀ j u, xs[j]? = some u → w.cell? (b.add j) = some u) → v = .slice (some b) n cap →
      ∃ v' w' L', (Builtin.append_ #[T, T] ty #[v, .slice X m c]).run P w = .ok v' w' ∧ OwnE v' e i.size (n + m) (xs ++ news) L' ∧ Hp w0 w' (K ++ L' ++ M) F := by
    intro b cap hn hg holds hv
    obtain ⟨ad, rfl, hnews⟩ := hc (by omega)
    subst hv
    have hr := run_append_grow (P := P) w T ty e i z ht hi hz b n cap xs hx holds ad m c news hl hnews hg (by omega) (growslice_fits hg hb)
    have hge := grownCap_ge w (n + m) cap e
    refine ⟨_, _, _, hr, ⟨hlen, .inr ⟨_, _, _, rfl, rfl, hge, grownCap_le_maxLen w (n + m) cap e h63, ?_, ?_⟩⟩, H.dropIn.addIn ((Below.refl _ _).drew.alloc (Nat.le_refl _) _) (heap_alloc_new w.drew _) (Nat.le_refl _)⟩
    · simp only [Array.size_append, List.size_toArray, size_zeroCells, hzs, hx, hl, ← Nat.add_mul]
      congr 1
      omega
    · simp only [Array.toList_append, List.append_assoc]
      rw [← List.append_assoc, ← hlen]
      exact List.take_left
  rcases ho with ⟨rfl, rfl, A, rfl⟩ | ⟨g, cap, cur, rfl, rfl, hnc, hcm, hcs, htake⟩
  · have hx0 : xs = [] := List.eq_nil_of_length_eq_zero (by simpa using hx)
    subst hx0
    by_cases hm : m = 0
    · subst hm
      have hn : news = [] := List.eq_nil_of_length_eq_zero (by simpa using hl)
      subst hn
      refine ⟨.slice A 0 0, w, [], ?_, ⟨by simp, .inl ⟨rfl, rfl, A, rfl⟩⟩, H⟩
      cases A <;> cases X <;> simp [Builtin.append_, run_underlying ht, Go.sizeOf, typeInfo, hi, Builtin.lenOf, Builtin.firstCells, loadCells, loadCellsFrom, storeCells]
    · cases A with
      | some b => exact big b 0 (Nat.le_refl _) (by omega) (by simp) rfl
      | none =>
        obtain ⟨ad, rfl, hnews⟩ := hc (by omega)
        have hr := run_append_nil (P := P) w T ty e i z ht hi hz ad m c news hl hnews (by omega) (by omega) (by simp only [Nat.zero_add] at hb; omega)
        have hge := grownCap_ge w m 0 e
        refine ⟨_, _, _, hr, ⟨hlen, .inr ⟨_, _, _, rfl, by simp, by omega, grownCap_le_maxLen w m 0 e (by omega), ?_, ?_⟩⟩, H.dropIn.addIn ((Below.refl _ _).drew.alloc (Nat.le_refl _) _) (heap_alloc_new w.drew _) (Nat.le_refl _)⟩
        · simp only [Array.size_append, List.size_toArray, size_zeroCells, hzs, hl, ← Nat.add_mul]
          congr 1
          omega
        · simp only [Array.toList_append, List.nil_append, Nat.zero_add]
          rw [← hl]
          exact List.take_left
  · have hg : w.heap[g]? = some (.cells cur e (0, 0)) := H.ent (i := K.length) (by simp)
    by_cases hroom : n + m ≤ cap
    · by_cases hm : m = 0
      · subst hm
        have hn : news = [] := List.eq_nil_of_length_eq_zero (by simpa using hl)
        subst hn
        refine ⟨_, w, _, ?_, ⟨hlen, .inr ⟨g, cap, cur, rfl, rfl, hnc, hcm, hcs, by simpa using htake⟩⟩, H⟩
        cases X <;> simp [Builtin.append_, run_underlying ht, Go.sizeOf, typeInfo, hi, Builtin.lenOf, Builtin.firstCells, loadCells, loadCellsFrom, storeCells, hnc]
      · obtain ⟨ad, rfl, hnews⟩ := hc (by omega)
        have hfit : n * i.size + news.length ≤ cur.size := by rw [hl, hcs, ← Nat.add_mul]; exact Nat.mul_le_mul_right _ hroom
        have hr := run_append_room (P := P) w T ty e i ht hi g n cap cur hg ad m c news hl hnews h1 hroom hfit
        have hH := H.put (i := K.length) (b := g) (o := .cells cur e) (by simp) (o' := .cells (cur.toList.take (n * i.size) ++ news ++ cur.toList.drop (n * i.size + news.length)).toArray e) (w' := w.setRow g (cur.toList.take (n * i.size) ++ news ++ cur.toList.drop (n * i.size + news.length)).toArray) (setRow_heap w g cur _ e _ hg) (by simp [World.setRow]) rfl rfl rfl (fun k hk => setRow_other w g k _ hk)
        refine ⟨_, _, [(g, .cells (cur.toList.take (n * i.size) ++ news ++ cur.toList.drop (n * i.size + news.length)).toArray e (0, 0))], hr, ⟨hlen, .inr ⟨g, cap, _, rfl, rfl, hroom, hcm, ?_, ?_⟩⟩, by simpa using hH⟩
        · simp only [List.size_toArray, List.length_append, List.length_take, List.length_drop, Array.length_toList]
          omega
        · rw [htake, ← hlen]
          exact List.take_left
    · exact big ⟨g, 0, none⟩ cap hnc (by omega) (fun j u hj => by
        rw [Addr.add_lit, Nat.zero_add]
        refine cellE hg ?_
        rw [← htake] at hj
        rw [List.getElem?_take] at hj
        split at hj
        · simpa using hj
        · cases hj) rfl
end
end Go.Eng
end

section
namespace Go.Eng
open Go Go.RowKit

/-- how elements lie in memory: sz cells each -/
structure Lay (α : Type) where
  f : α → List Value
  sz : Nat
  len : ∀ a, (f a).length = sz
  pos : 0 < sz
  one : ∀ a, ∀ u ∈ f a, u.oneCell' = true

def Lay.all {α : Type} (Y : Lay α) (es : List α) : List Value := es.flatMap Y.f
section
variable {α : Type} {Y : Lay α}
theorem Lay.length (es : List α) : (Y.all es).length = es.length * Y.sz := by
  induction es with
  | nil => simp [Lay.all]
  | cons e es ih =>
    simp only [Lay.all] at ih
    simp only [Lay.all, List.flatMap_cons, List.length_append, ih, Y.len, List.length_cons]
    rw [Nat.add_mul]; omega
theorem Lay.all_one (es : List α) : ∀ u ∈ Y.all es, u.oneCell' = true := by
  intro u hu
  simp only [Lay.all, List.mem_flatMap] at hu
  obtain ⟨a, _, ha⟩ := hu
  exact Y.one a u ha
theorem Lay.get {es : List α} {k j : Nat} (hk : k < es.length) (hj : j < Y.sz) : (Y.all es)[k * Y.sz + j]? = (Y.f es[k])[j]? := by
  induction es generalizing k with
  | nil => simp at hk
  | cons e es ih =>
    simp only [Lay.all, List.flatMap_cons]
    cases k with
    | zero => simp; rw [List.getElem?_append_left (by rw [Y.len]; exact hj)]
    | succ k =>
      have : (k + 1) * Y.sz + j = Y.sz + (k * Y.sz + j) := by rw [Nat.add_mul]; omega
      rw [this, List.getElem?_append_right (by rw [Y.len]; omega), Y.len]
      simp only [List.getElem_cons_succ, Nat.add_sub_cancel_left]
      exact ih (by simpa using hk)
theorem Lay.all_append (a b : List α) : Y.all (a ++ b) = Y.all a ++ Y.all b := by simp [Lay.all]
theorem Lay.all_take (es : List α) (k : Nat) : Y.all (es.take k) = (Y.all es).take (k * Y.sz) := by
  induction es generalizing k with
  | nil => simp [Lay.all]
  | cons e es ih =>
    cases k with
    | zero => simp [Lay.all]
    | succ k =>
      simp only [Lay.all] at ih
      simp only [Lay.all, List.take_succ_cons, List.flatMap_cons, ih]
      rw [Nat.add_mul, Nat.one_mul, Nat.add_comm, List.take_append, Y.len, Nat.add_sub_cancel_left]
      rw [List.take_of_length_le (l := Y.f e) (by rw [Y.len]; omega)]
theorem Lay.all_drop (es : List α) (k : Nat) : Y.all (es.drop k) = (Y.all es).drop (k * Y.sz) := by
  induction es generalizing k with
  | nil => simp [Lay.all]
  | cons e es ih =>
    cases k with
    | zero => simp [Lay.all]
    | succ k =>
      simp only [Lay.all] at ih
      simp only [Lay.all, List.drop_succ_cons, List.flatMap_cons, ih]
      rw [Nat.add_mul, Nat.one_mul, Nat.add_comm, List.drop_append, Y.len, Nat.add_sub_cancel_left]
      rw [List.drop_of_length_le (l := Y.f e) (by rw [Y.len]; omega), List.nil_append]

/-- the slice at A (es.length elements) reads as es; its block lies from lo to below hi -/
def Rd (Y : Lay α) (lo hi : Nat) (A : Option Addr) (es : List α) (w : World) : Prop :=
  0 < es.length → ∃ b o, A = some ⟨b, o, none⟩ ∧ lo ≤ b ∧ b < hi ∧ ∀ j u, (Y.all es)[j]? = some u → w.cell? ⟨b, o + j, none⟩ = some u
variable {lo hi lo' hi' : Nat} {A : Option Addr} {es : List α} {w w' : World}
theorem Rd.nil : Rd Y lo hi A [] w := fun h => absurd h (by simp)
theorem Rd.st (hk : ∀ k, lo ≤ k → k < hi → w'.heap[k]? = w.heap[k]?) (h : Rd Y lo hi A es w) : Rd Y lo hi A es w' := fun h0 => by
  obtain ⟨b, o, hA, h1, h2, hc⟩ := h h0
  exact ⟨b, o, hA, h1, h2, fun j u hj => (World.cell?_of_block (hk b h1 h2)).trans (hc j u hj)⟩
theorem Rd.mono (h : Rd Y lo hi A es w) (hl : lo' ≤ lo) (hh : hi ≤ hi') : Rd Y lo' hi' A es w := fun h0 => by
  obtain ⟨b, o, hA, h1, h2, hc⟩ := h h0
  exact ⟨b, o, hA, Nat.le_trans hl h1, Nat.lt_of_lt_of_le h2 hh, hc⟩
theorem Rd.below (h : Rd Y lo hi A es w) (hb : Below hi w w') : Rd Y lo hi A es w' := h.st fun k _ hk => hb.block k hk
theorem Rd.src (h : Rd Y lo hi A es w) : Src w A es.length Y.sz (Y.all es) :=
  ⟨Lay.length es, fun h0 => by obtain ⟨b, o, hA, _, _, hc⟩ := h h0; exact ⟨_, hA, fun j u hj => by rw [Addr.add_lit]; exact hc j u hj⟩⟩
/-- an element -/
theorem Rd.at_ (h : Rd Y lo hi A es w) {k : Nat} (hk : k < es.length) : ∃ b o, A = some ⟨b, o, none⟩ ∧ lo ≤ b ∧ b < hi ∧ ∀ j u, (Y.f es[k])[j]? = some u → w.cell? ⟨b, o + k * Y.sz + j, none⟩ = some u := by
  obtain ⟨b, o, hA, h1, h2, hc⟩ := h (by omega)
  refine ⟨b, o, hA, h1, h2, fun j u hj => ?_⟩
  rw [Nat.add_assoc]
  refine hc _ u ?_
  have hjs : j < Y.sz := by
    have := (List.getElem?_eq_some_iff.1 hj).1
    rwa [Y.len] at this
  rw [Lay.get hk hjs]
  exact hj
theorem Rd.take (h : Rd Y lo hi A es w) (k : Nat) : Rd Y lo hi A (es.take k) w := fun h0 => by
  obtain ⟨b, o, hA, h1, h2, hc⟩ := h (by simp at h0; omega)
  refine ⟨b, o, hA, h1, h2, fun j u hj => hc j u ?_⟩
  rw [Lay.all_take, List.getElem?_take] at hj
  split at hj
  · exact hj
  · cases hj
theorem Rd.from_ (h : Rd Y lo hi A es w) {k len : Nat} {A' : Option Addr} (hf : From A A' k len Y.sz) (hk : k < es.length → k < len) : Rd Y lo hi A' (es.drop k) w := fun h0 => by
  have hlt : k < es.length := by simp at h0; omega
  obtain ⟨b, o, hA, h1, h2, hc⟩ := h (by omega)
  refine ⟨b, o + k * Y.sz, hf (hk hlt) b o hA, h1, h2, fun j u hj => ?_⟩
  rw [Nat.add_assoc]
  refine hc _ u ?_
  rw [Lay.all_drop, List.getElem?_drop] at hj
  exact hj
/-- as a fact -/
def FRd (Y : Lay α) (lo hi : Nat) (A : Option Addr) (es : List α) : Fact := ⟨lo, hi, Rd Y lo hi A es, fun _ _ hk h => h.st hk⟩
end

/-- a slice of the call's own -/
def Own {α : Type} (Y : Lay α) (v : Value) (e : TypeId) (es : List α) (L : List (Nat × Obj)) : Prop := OwnE v e Y.sz es.length (Y.all es) L
section
variable {α : Type} {Y : Lay α} {v : Value} {e : TypeId} {es : List α} {L K M : List (Nat × Obj)} {w0 w : World} {F : List Fact}
theorem Own.nil : Own Y (.slice none 0 0) e ([] : List α) [] := OwnE.nil e Y.sz
theorem Own.form (h : Own Y v e es L) : ∃ A c, v = .slice A es.length c ∧ es.length ≤ c ∧ c ≤ maxLen := by
  rcases h.2 with ⟨_, hn, A, rfl⟩ | ⟨g, cap, cur, _, rfl, h1, h2, _⟩
  · exact ⟨A, 0, by rw [hn], by omega, by simp [maxLen]⟩
  · exact ⟨_, _, rfl, h1, h2⟩
theorem Own.rd {A : Option Addr} {n c : Nat} (h : Own Y (.slice A n c) e es L) (H : Hp w0 w (K ++ L ++ M) F) : Rd Y w0.heap.size w.heap.size A es w := fun h0 => by
  rcases h.2 with ⟨_, hn, _⟩ | ⟨g, cap, cur, rfl, hv, h1, h2, h3, h4⟩
  · omega
  · have hg : w.heap[g]? = some (.cells cur e (0, 0)) := H.ent (i := K.length) (by simp)
    simp only [Value.slice.injEq] at hv
    refine ⟨g, 0, hv.1, H.ge (i := K.length) (b := g) (by simp; rfl), lt_of_heap hg, fun j u hj => ?_⟩
    rw [Nat.zero_add]
    refine cellE hg ?_
    rw [← h4, List.getElem?_take] at hj
    split at hj
    · simpa using hj
    · cases hj
end

def apB (P : Program) (T e sz by_ : Nat) : Bool :=
  sliceB P T e sz && match P.info? e with
    | some i => Nat.beq i.bytes by_ && Nat.blt 0 by_ && Nat.blt 0 sz && match i.zero with | some z => Nat.beq z.cells.size sz | none => false
    | none => false
section
variable {P : Program} {n : Nat} {Q : Post} {ρ : Env} {w : World} {ops : Array Oper} {rest : List Oper} {d : Nat} {t : TypeId} {p : String} {af : Array Edge}
variable {w0 : World} {F : List Fact}
theorem ap_of {T e sz by_ : Nat} (h : apB P T e sz by_ = true) : ∃ i z, P.underlying T = some (.slice e) ∧ P.info? e = some i ∧ i.zero = some z ∧ i.size = sz ∧ i.bytes = by_ ∧ z.cells.size = sz ∧ 0 < sz ∧ 0 < by_ := by
  unfold apB at h
  simp only [Bool.and_eq_true] at h
  obtain ⟨h1, h2⟩ := h
  obtain ⟨hu, i, hi, hs⟩ := slice_of h1
  rw [hi] at h2
  simp only [Bool.and_eq_true] at h2
  obtain ⟨⟨⟨h3, h4'⟩, h4⟩, h5⟩ := h2
  cases hz : i.zero with
  | none => rw [hz] at h5; cases h5
  | some z =>
    rw [hz] at h5
    exact ⟨i, z, hu, hi, hz, hs, Nat.eq_of_beq_eq_true h3, Nat.eq_of_beq_eq_true h5, by simpa [Nat.blt_eq] using h4, by simpa [Nat.blt_eq] using h4'⟩

theorem apO {α : Type} {Y : Lay α} {T e by_ : Nat} (hT : apB P T e Y.sz by_ = true) {K L M : List (Nat × Obj)} (H : Hp w0 w (K ++ L ++ M) F) {v : Value} {es news : List α} (ho : Own Y v e es L) {s x : Operand} {X : Option Addr} {m c : Nat}
    (hs : ev ρ s = v) (hx : ev ρ x = .slice X m c) (hm : m = news.length) (hsrc : Src w X news.length Y.sz (Y.all news)) (hb : (es.length + news.length) * by_ ≤ 140737488355328) (hdn : Nat.blt d n = true)
    (h : ∀ A cp w' L', (es ++ news).length ≤ cp → cp ≤ maxLen → Own Y (.slice A (es ++ news).length cp) e (es ++ news) L' → Hp w0 w' (K ++ L' ++ M) F → LW P n ops rest Q (upd ρ d (.slice A (es ++ news).length cp)) w') :
    LW P n ops (O d (.call { callee := .builtin .append, args := #[s, x], argTypes := #[T, T] }) t p af :: rest) Q ρ w := by
  obtain ⟨i, z, h1, h2, h3, h4, h5, h6, h7, h8⟩ := ap_of hT
  subst hm
  have h63 : es.length + news.length ≤ maxLen := by
    have := Nat.le_mul_of_pos_right (es.length + news.length) h8
    simp only [maxLen]; omega
  obtain ⟨v', w', L', hr, ho', H'⟩ := run_app (ty := t) (c := c) h1 h2 h3 h4 h5 h6 h7 H ho hsrc (Lay.all_one news) hb h63
  have ho2 : Own Y v' e (es ++ news) L' := by
    unfold Own; rw [List.length_append, Lay.all_append]; exact ho'
  obtain ⟨A, cp, rfl, hc1, hc2⟩ := ho2.form
  refine lw_val rfl rfl hdn ?_ (h A cp w' L' hc1 hc2 ho2 H')
  simp [execOp, resolve, invoke, builtin, hs, hx, hr]
end
end Go.Eng
end

section
namespace Go.Eng
open Go Go.RowKit

abbrev Fct := World → Prop
/-- run in the world w the operation leaves what is there as it is, and yields what V says -/
def exA (P : Program) (o : Oper) (a : Act) (V : Value → Fct) (w : World) : Prop :=
  match (execOp a.eval o).run P w with
  | .ok (.value u) w' => Below w.heap.size w w' ∧ V u w'
  | .ok (.enter f vs) w' => w' = w ∧ Calls P f vs w fun e w2 => ∃ u, e = .returned u ∧ Below w.heap.size w w2 ∧ V u w2
  | _ => False
/-- one value, whatever the world (of C) -/
def ex1 (P : Program) (o : Oper) (a : Act) (C : Fct) (v : Value) : Prop := ∀ w, C w → (execOp a.eval o).run P w = .ok (.value v) w

section
variable {P : Program} {ops : Array Oper} {md : Region.Mode} {C : Fct} {S lo pu : List Nat} {spec : Nat → Value → Fct} {Q : Exit → Act → World → Prop}

/-- one operation, what follows being K -/
def opA (P : Program) (ops : Array Oper) (C : Fct) (lo pu : List Nat) (spec : Nat → Value → Fct) (i : Nat) (K : Act → Fct → Prop) (a : Act) (Fc : Fct) : Prop :=
  match ops[i]? with
  | none => False
  | some o =>
    if Region.wanted o (yielded ops a.tmps) = true then
      if lo.contains i = true then (∀ w, C w → exA P o a (spec i) w) ∧ ∀ v, (∃ w, C w ∧ spec i v w) → K (a.put o.dst v) (fun w => Fc w ∧ spec i v w)
      else ∃ v, ex1 P o a (if pu.contains i then fun _ => True else C) v ∧ K (a.put o.dst v) Fc
    else K (a.put o.dst undef) Fc
theorem opA_mono {i : Nat} {K K' : Act → Fct → Prop} {a : Act} {Fc Fc' : Fct} (hk : ∀ a f f', (∀ w, f' w → f w) → K a f → K' a f') (hf : ∀ w, Fc' w → Fc w) (h : opA P ops C lo pu spec i K a Fc) : opA P ops C lo pu spec i K' a Fc' := by
  unfold opA at *
  split at h
  · exact h.elim
  · split
    · rename_i hw
      rw [if_pos hw] at h
      split
      · rename_i hl
        rw [if_pos hl] at h
        exact ⟨h.1, fun v hv => hk _ _ _ (fun w hw => ⟨hf w hw.1, hw.2⟩) (h.2 v hv)⟩
      · rename_i hl
        rw [if_neg hl] at h
        obtain ⟨v, h1, h2⟩ := h
        exact ⟨v, h1, hk _ _ _ hf h2⟩
    · rename_i hw
      rw [if_neg hw] at h
      exact hk _ _ _ hf h

def wpG (P : Program) (md : Region.Mode) (ops : Array Oper) (C : Fct) (S lo pu : List Nat) (spec : Nat → Value → Fct) (Q : Exit → Act → World → Prop) : Nat → Array Bool → Act → Fct → Prop
  | 0, listed, a, Fc => Region.ready md ops listed = [] ∧ ∀ w, C w → Fc w → Q .normal a w
  | f + 1, listed, a, Fc => (Region.ready md ops listed = [] → ∀ w, C w → Fc w → Q .normal a w) ∧ ∀ i ∈ Region.ready md ops listed,
      if S.contains i = true then ∀ w, C w → Fc w → wpOp P ops Q i (wpAny P md ops Q f (listed.setIfInBounds i true)) a w
      else opA P ops C lo pu spec i (wpG P md ops C S lo pu spec Q f (listed.setIfInBounds i true)) a Fc
theorem wpG_mono : ∀ (f : Nat) (listed : Array Bool) (a : Act) (Fc Fc' : Fct), (∀ w, Fc' w → Fc w) → wpG P md ops C S lo pu spec Q f listed a Fc → wpG P md ops C S lo pu spec Q f listed a Fc'
  | 0, _, _, _, _, hf, h => ⟨h.1, fun w hc hw => h.2 w hc (hf w hw)⟩
  | f + 1, _, _, _, _, hf, h => ⟨fun hr w hc hw => h.1 hr w hc (hf w hw), fun i hi => by
      have := h.2 i hi
      split
      · rename_i hs; rw [if_pos hs] at this; exact fun w hc hw => this w hc (hf w hw)
      · rename_i hs; rw [if_neg hs] at this; exact opA_mono (fun a f1 f2 h12 hk => wpG_mono f _ a f1 f2 h12 hk) hf this⟩

theorem wpG_sound (hC : ∀ w w', C w → Below w.heap.size w w' → C w') (hsp : ∀ i v w w', C w → Below w.heap.size w w' → spec i v w → spec i v w') :
    ∀ (f : Nat) (listed : Array Bool) (a : Act) (Fc : Fct), (∀ w w', C w → Below w.heap.size w w' → Fc w → Fc w') → wpG P md ops C S lo pu spec Q f listed a Fc → ∀ w, C w → Fc w → wpAny P md ops Q f listed a w
  | 0, _, _, _, _, h, w, hc, hw => ⟨h.1, h.2 w hc hw⟩
  | f + 1, listed, a, Fc, hF, h, w, hc, hw => ⟨fun hr => h.1 hr w hc hw, fun i hi => by
      have hk := h.2 i hi
      split at hk
      · exact hk w hc hw
      · unfold opA at hk
        unfold wpOp
        split at hk
        · exact hk.elim
        · rename_i o ho
          simp only [ho]
          split at hk
          · rename_i hwt
            rw [if_pos hwt]
            refine .inl ?_
            split at hk
            · obtain ⟨h1, h2⟩ := hk
              have h3 := h1 w hc
              unfold exA at h3
              unfold Oper.wp
              generalize (execOp a.eval o).run P w = r at *
              cases r with
              | halt x w' => exact h3.elim
              | ok n w' =>
                cases n <;> simp only at h3 <;> simp only [Oper.upon]
                case value u => exact wpG_sound hC hsp f _ _ _ (fun w w' hc hb hx => ⟨hF w w' hc hb hx.1, hsp _ _ _ _ hc hb hx.2⟩) (h2 u ⟨w', hC w w' hc h3.1, h3.2⟩) w' (hC w w' hc h3.1) ⟨hF w w' hc h3.1 hw, h3.2⟩
                case enter g vs =>
                  obtain ⟨rfl, hcl⟩ := h3
                  exact hcl.mono fun e w2 ⟨u, he, hb, hv⟩ => by
                    subst he
                    exact wpG_sound hC hsp f _ _ _ (fun w w' hc hb hx => ⟨hF w w' hc hb hx.1, hsp _ _ _ _ hc hb hx.2⟩) (h2 u ⟨w2, hC _ w2 hc hb, hv⟩) w2 (hC _ w2 hc hb) ⟨hF _ w2 hc hb hw, hv⟩
            · obtain ⟨v, h1, h2⟩ := hk
              have h3 := h1 w (by split <;> trivial)
              unfold Oper.wp
              rw [h3]
              exact wpG_sound hC hsp f _ _ _ hF h2 w hc hw
          · rename_i hwt
            rw [if_neg hwt]
            exact wpG_sound hC hsp f _ _ _ hF hk w hc hw⟩

theorem exA_put {oj : Oper} (hsj : ∀ cs b, oj.op ≠ .select cs b) {a : Act} {d : Option Tmp} {v : Value} {V : Value → Fct} {w : World} (h : ∀ x, d = some x → x ∉ oj.looksAt ops) : exA P oj (a.put d v) V w ↔ exA P oj a V w := by
  unfold exA; rw [execOp_put oj hsj a d v h]
theorem ex1_put {oj : Oper} (hsj : ∀ cs b, oj.op ≠ .select cs b) {a : Act} {d : Option Tmp} {v u : Value} {D : Fct} (h : ∀ x, d = some x → x ∉ oj.looksAt ops) : ex1 P oj (a.put d v) D u ↔ ex1 P oj a D u := by
  unfold ex1; rw [execOp_put oj hsj a d v h]
theorem exA_some {o : Oper} {a : Act} {V : Value → Fct} {w : World} (hC : ∀ w w', C w → Below w.heap.size w w' → C w') (hc : C w) (h : exA P o a V w) : ∃ v w', C w' ∧ V v w' := by
  unfold exA at h
  split at h
  · rename_i u w' _; exact ⟨u, w', hC _ _ hc h.1, h.2⟩
  · rename_i f vs w' _
    obtain ⟨hw, hcl⟩ := h
    obtain ⟨e, w2, fr, ⟨u, _, hb, hv⟩, _⟩ := hcl []
    exact ⟨u, w2, hC _ _ hc hb, hv⟩
  · exact h.elim

theorem opA_some {i : Nat} {K : Act → Fct → Prop} {a : Act} {Fc : Fct} (hC : ∀ w w', C w → Below w.heap.size w w' → C w') (h0 : ∃ w, C w) (h : opA P ops C lo pu spec i K a Fc) : ∃ a' f', K a' f' := by
  obtain ⟨w, hc⟩ := h0
  unfold opA at h
  split at h
  · exact h.elim
  · split at h
    · split at h
      · obtain ⟨v, w', hw', hv⟩ := exA_some hC hc (h.1 w hc)
        exact ⟨_, _, h.2 v ⟨w', hw', hv⟩⟩
      · obtain ⟨v, _, hk⟩ := h; exact ⟨_, _, hk⟩
    · exact ⟨_, _, h⟩

theorem ex1_uniq {o : Oper} {a : Act} {D : Fct} {u v : Value} (h0 : ∃ w, D w) (h : ex1 P o a D u) (h' : ex1 P o a D v) : u = v := by
  obtain ⟨w, hw⟩ := h0
  have := (h w hw).symm.trans (h' w hw)
  simpa using this

theorem opA_swap {i j : Nat} {oi oj : Oper} {K : Act → Fct → Prop} (hC : ∀ w w', C w → Below w.heap.size w w' → C w') (h0 : ∃ w, C w) (hK : ∀ a f f', (∀ w, f' w → f w) → K a f → K a f')
    (hi : ops[i]? = some oi) (hj : ops[j]? = some oj) (hap : oi.apart ops oj = true) (hsi : ∀ cs b, oi.op ≠ .select cs b) (hsj : ∀ cs b, oj.op ≠ .select cs b) {a : Act} {Fc : Fct}
    (h : opA P ops C lo pu spec i (opA P ops C lo pu spec j K) a Fc) : opA P ops C lo pu spec j (opA P ops C lo pu spec i K) a Fc := by
  obtain ⟨h1, h2, h3⟩ := Oper.apart_spec hap
  have hD : ∀ b : Bool, ∃ w, (if b = true then (fun _ => True : Fct) else C) w := fun b => by
    obtain ⟨w, hw⟩ := h0
    exact ⟨w, by cases b <;> first | exact hw | trivial⟩
  have wj : ∀ v, Region.wanted oj (yielded ops (a.put oi.dst v).tmps) = Region.wanted oj (yielded ops a.tmps) := fun v => wanted_put oj a oi.dst v h1
  have wi : ∀ v, Region.wanted oi (yielded ops (a.put oj.dst v).tmps) = Region.wanted oi (yielded ops a.tmps) := fun v => wanted_put oi a oj.dst v h3
  have pc : ∀ v u, (a.put oi.dst v).put oj.dst u = (a.put oj.dst u).put oi.dst v := fun v u => Act.put_comm a v u h2
  unfold opA at h ⊢
  simp only [hi, hj, wj, wi] at h ⊢
  by_cases hwi : Region.wanted oi (yielded ops a.tmps) = true
  · by_cases hwj : Region.wanted oj (yielded ops a.tmps) = true
    · simp only [hwi, hwj, if_true] at h ⊢
      by_cases hli : lo.contains i = true
      · by_cases hlj : lo.contains j = true
        · simp only [hli, hlj, if_true] at h ⊢
          obtain ⟨e1, e2⟩ := h
          refine ⟨fun w hw => ?_, fun u hu => ⟨fun w hw => (exA_put hsi h3).2 (e1 w hw), fun v hv => ?_⟩⟩
          · obtain ⟨v, w', hw', hv⟩ := exA_some hC hw (e1 w hw)
            exact (exA_put hsj h1).1 ((e2 v ⟨w', hw', hv⟩).1 w hw)
          · rw [← pc]
            exact hK _ _ _ (fun w hw => ⟨⟨hw.1.1, hw.2⟩, hw.1.2⟩) ((e2 v hv).2 u hu)
        · simp only [hli, hlj, if_true, if_false, Bool.false_eq_true] at h ⊢
          obtain ⟨e1, e2⟩ := h
          obtain ⟨w0, hw0⟩ := h0
          obtain ⟨v0, w', hw', hv0⟩ := exA_some hC hw0 (e1 w0 hw0)
          obtain ⟨u, hu, _⟩ := e2 v0 ⟨w', hw', hv0⟩
          have hu' := (ex1_put hsj h1).1 hu
          refine ⟨u, hu', fun w hw => (exA_put hsi h3).2 (e1 w hw), fun v hv => ?_⟩
          obtain ⟨u2, hu2, hk⟩ := e2 v hv
          obtain rfl := ex1_uniq (hD _) hu' ((ex1_put hsj h1).1 hu2)
          rw [← pc]
          exact hk
      · by_cases hlj : lo.contains j = true
        · simp only [hli, hlj, if_true, if_false, Bool.false_eq_true] at h ⊢
          obtain ⟨v, e1, e2, e3⟩ := h
          exact ⟨fun w hw => (exA_put hsj h1).1 (e2 w hw), fun u hu => ⟨v, (ex1_put hsi h3).2 e1, by rw [← pc]; exact e3 u hu⟩⟩
        · simp only [hli, hlj, if_false, Bool.false_eq_true] at h ⊢
          obtain ⟨v, e1, u, e2, e3⟩ := h
          exact ⟨u, (ex1_put hsj h1).1 e2, v, (ex1_put hsi h3).2 e1, by rw [← pc]; exact e3⟩
    · simp only [hwi, hwj, if_true, if_false, Bool.false_eq_true] at h ⊢
      by_cases hli : lo.contains i = true
      · simp only [hli, if_true] at h ⊢
        exact ⟨fun w hw => (exA_put hsi h3).2 (h.1 w hw), fun v hv => by rw [← pc]; exact h.2 v hv⟩
      · simp only [hli, if_false, Bool.false_eq_true] at h ⊢
        obtain ⟨v, e1, e2⟩ := h
        exact ⟨v, (ex1_put hsi h3).2 e1, by rw [← pc]; exact e2⟩
  · by_cases hwj : Region.wanted oj (yielded ops a.tmps) = true
    · simp only [hwi, hwj, if_true, if_false, Bool.false_eq_true] at h ⊢
      by_cases hlj : lo.contains j = true
      · simp only [hlj, if_true] at h ⊢
        exact ⟨fun w hw => (exA_put hsj h1).1 (h.1 w hw), fun u hu => by rw [← pc]; exact h.2 u hu⟩
      · simp only [hlj, if_false, Bool.false_eq_true] at h ⊢
        obtain ⟨u, e2, e3⟩ := h
        exact ⟨u, (ex1_put hsj h1).1 e2, by rw [← pc]; exact e3⟩
    · simp only [hwi, hwj, if_false, Bool.false_eq_true] at h ⊢
      rw [← pc]; exact h

/-- j waits for i, by one edge or more -/
def depB (md : Region.Mode) (ops : Array Oper) (i : Nat) : Nat → Nat → Bool
  | 0, _ => false
  | f + 1, j => match ops[j]? with
    | some oj => oj.after.any fun e => Region.binds md e && (Nat.beq e.on i || depB md ops i f e.on)
    | none => false
def Clo (md : Region.Mode) (ops : Array Oper) (listed : Array Bool) : Prop := ∀ k ok, ops[k]? = some ok → listed.getD k true = true → ∀ e ∈ ok.after, Region.binds md e = true → listed.getD e.on true = true
theorem getD_ft {listed : Array Bool} {j : Nat} (h : listed.getD j false = true) : listed.getD j true = true := by
  rcases Nat.lt_or_ge j listed.size with h' | h'
  · simp [h'] at h ⊢; exact h
  · simp [Array.getElem?_eq_none h'] at h
theorem getD_set_tt {listed : Array Bool} {i j : Nat} (h : listed.getD j true = true) : (listed.setIfInBounds i true).getD j true = true := by
  by_cases hij : i = j
  · subst hij
    rcases Nat.lt_or_ge i listed.size with h' | h'
    · simp [h']
    · simp [h']
  · rw [getD_set_ne true hij]; exact h
theorem Clo.put {listed : Array Bool} {j : Nat} (h : Clo md ops listed) (hj : j ∈ Region.ready md ops listed) : Clo md ops (listed.setIfInBounds j true) := fun k ok hk hl e he hb => by
  refine getD_set_tt ?_
  by_cases hjk : j = k
  · subst hjk
    obtain ⟨-, o, ho, hall⟩ := mem_ready.1 hj
    rw [ho] at hk
    obtain rfl := Option.some.inj hk
    exact getD_ft (hall e he hb)
  · rw [getD_set_ne true hjk] at hl
    exact h k ok hk hl e he hb
theorem Clo.dep {listed : Array Bool} {i : Nat} (h : Clo md ops listed) (hi : listed.getD i true = false) : ∀ (f j : Nat), depB md ops i f j = true → listed.getD j true = false
  | 0, _, hd => by cases hd
  | f + 1, j, hd => by
    unfold depB at hd
    split at hd
    · rename_i oj hoj
      obtain ⟨e, he, hb⟩ := Array.any_eq_true'.1 hd
      simp only [Bool.and_eq_true, Bool.or_eq_true] at hb
      obtain ⟨hb, hon⟩ := hb
      cases hl : listed.getD j true with
      | false => rfl
      | true =>
        have h1 := h j oj hoj hl e he hb
        rcases hon with hon | hon
        · rw [Nat.eq_of_beq_eq_true hon, hi] at h1; cases h1
        · rw [h.dep hi f _ hon] at h1; cases h1
    · cases hd
theorem Clo.unready {listed : Array Bool} {i f j : Nat} (h : Clo md ops listed) (hi : listed.getD i true = false) (hd : depB md ops i f j = true) : ¬ j ∈ Region.ready md ops listed := fun hj => by
  cases f with
  | zero => cases hd
  | succ f =>
    obtain ⟨-, o, ho, hall⟩ := mem_ready.1 hj
    unfold depB at hd
    rw [ho] at hd
    obtain ⟨e, he, hb⟩ := Array.any_eq_true'.1 hd
    simp only [Bool.and_eq_true, Bool.or_eq_true] at hb
    obtain ⟨hb, hon⟩ := hb
    have h1 := getD_ft (hall e he hb)
    rcases hon with hon | hon
    · rw [Nat.eq_of_beq_eq_true hon, hi] at h1; cases h1
    · rw [h.dep hi f _ hon] at h1; cases h1

theorem wpG_first {i : Nat} {oi : Oper} (hC : ∀ w w', C w → Below w.heap.size w w' → C w') (h0 : ∃ w, C w) (hi : ops[i]? = some oi) (hsel : ∀ (j : Nat) (o : Oper) cs b, ops[j]? = some o → o.op ≠ .select cs b)
    (hiS : S.contains i = false) (hlp : pu.contains i = true → lo.contains i = false)
    (hB : pu.contains i = false → ∀ j, S.contains j = true → depB md ops i 8 j = true)
    (hQ : ∀ c a w, ¬ Q (.panic c) a w) :
    ∀ (f : Nat) (listed : Array Bool) (a : Act) (Fc : Fct), Clo md ops listed →
      (∀ j oj, ops[j]? = some oj → j ≠ i → listed.getD j true = false → (∀ e ∈ oj.after, Region.binds md e = true → e.on ≠ i) → oi.apart ops oj = true) →
      i ∈ Region.ready md ops listed → opA P ops C lo pu spec i (wpG P md ops C S lo pu spec Q f (listed.setIfInBounds i true)) a Fc → wpG P md ops C S lo pu spec Q (f + 1) listed a Fc := by
  intro f
  induction f with
  | zero =>
    intro listed a Fc _ _ hr H
    refine ⟨fun h => (by rw [h] at hr; cases hr), fun j hj => ?_⟩
    by_cases hji : j = i
    · subst hji; rw [if_neg (by rw [hiS]; simp)]; exact H
    · obtain ⟨a', f', hk⟩ := opA_some hC h0 H
      have := ready_mono hj hji
      rw [hk.1] at this
      cases this
  | succ f ih =>
    intro listed a Fc hclo hfree hr H
    refine ⟨fun h => (by rw [h] at hr; cases hr), fun j hj => ?_⟩
    by_cases hji : j = i
    · subst hji; rw [if_neg (by rw [hiS]; simp)]; exact H
    · obtain ⟨hjun, oj, hoj, hall⟩ := mem_ready.1 hj
      have hnot : ∀ e ∈ oj.after, Region.binds md e = true → e.on ≠ i := fun e he hb heq => by
        have h1 := hall e he hb
        have h0 := (mem_ready.1 hr).1
        rw [heq] at h1
        rcases Nat.lt_or_ge i listed.size with h' | h'
        · simp [h'] at h0 h1; rw [h0] at h1; cases h1
        · simp [Array.getElem?_eq_none h'] at h1
      have hapt := hfree j oj hoj hji hjun hnot
      have hfree' : ∀ k ok, ops[k]? = some ok → k ≠ i → (listed.setIfInBounds j true).getD k true = false →
          (∀ e ∈ ok.after, Region.binds md e = true → e.on ≠ i) → oi.apart ops ok = true := fun k ok hk hki hun hno => by
        refine hfree k ok hk hki ?_ hno
        by_cases hjk : j = k
        · subst hjk; exact hjun
        · rw [getD_set_ne true hjk] at hun; exact hun
      split
      · rename_i hjS
        cases hp : pu.contains i with
        | false =>
          exact absurd hj (hclo.unready (mem_ready.1 hr).1 (hB hp j hjS))
        | true =>
          intro w hc hw
          have hy : ∃ v, Yields P ops oi v a ∧ wpG P md ops C S lo pu spec Q (f + 1) (listed.setIfInBounds i true) (a.put oi.dst v) Fc := by
            unfold opA at H
            simp only [hi, hlp hp, hp, if_true, Bool.false_eq_true, if_false] at H
            by_cases hwi : Region.wanted oi (yielded ops a.tmps) = true
            · simp only [hwi, if_true] at H
              obtain ⟨v, e1, e2⟩ := H
              exact ⟨v, .inl ⟨hwi, fun w => e1 w trivial⟩, e2⟩
            · simp only [hwi, Bool.false_eq_true, if_false] at H
              exact ⟨undef, .inr ⟨by simpa using hwi, rfl⟩, H⟩
          obtain ⟨v, hy, hG⟩ := hy
          have h1 := hG.2 j (ready_mono hj hji)
          rw [if_pos hjS] at h1
          have h2 := wpOp_put hoj hapt (fun cs b => hsel i oi cs b hi) (fun cs b => hsel j oj cs b hoj) (fun c a w h => absurd h (hQ c _ w)) hy (h1 w hc hw)
          refine wpOp_mono (fun a' w' h3 => wpAny_first hi hsel (fun c a w h => absurd h (hQ c _ w)) f (listed.setIfInBounds j true) a' w' hfree' (ready_mono hr (Ne.symm hji)) h3.1 ?_) h2
          rw [Array.setIfInBounds_comm _ _ hji]
          exact h3.2
      · rename_i hjS
        have h1 : opA P ops C lo pu spec i (opA P ops C lo pu spec j (wpG P md ops C S lo pu spec Q f ((listed.setIfInBounds i true).setIfInBounds j true))) a Fc :=
          opA_mono (fun a' f1 f2 h12 hk => by
            have h4 := hk.2 j (ready_mono hj hji)
            rw [if_neg hjS] at h4
            exact opA_mono (fun a'' g1 g2 hg hk' => wpG_mono f _ a'' g1 g2 hg hk') h12 h4) (fun _ h => h) H
        have h2 := opA_swap hC h0 (fun a f1 f2 h12 hk => wpG_mono f _ a f1 f2 h12 hk) hi hoj hapt (fun cs b => hsel i oi cs b hi) (fun cs b => hsel j oj cs b hoj) h1
        refine opA_mono (fun a' f1 f2 h12 h3 => ih (listed.setIfInBounds j true) a' f2 (hclo.put hj) hfree' (ready_mono hr (Ne.symm hji)) ?_) (fun _ h => h) h2
        rw [Array.setIfInBounds_comm _ _ hji]
        exact opA_mono (fun a f1 f2 hfg hk => wpG_mono f _ a f1 f2 hfg hk) h12 h3

/-- the operations of 'ord' in their order, then those of S: the Bool -/
def ordB (md : Region.Mode) (ops : Array Oper) (S pu lo : List Nat) : List Nat → Array Bool → Bool
  | [], listed => seqB S listed
  | i :: r, listed => (Region.ready md ops listed).contains i && Region.free md ops listed i && !S.contains i && !(pu.contains i && lo.contains i) &&
      (pu.contains i || S.all fun j => depB md ops i 8 j) && ordB md ops S pu lo r (listed.setIfInBounds i true)
where seqB : List Nat → Array Bool → Bool
  | [], listed => (Region.ready md ops listed).isEmpty
  | j :: r, listed => (match Region.ready md ops listed with | [k] => Nat.beq k j | _ => false) && seqB r (listed.setIfInBounds j true)

/-- the walk in that order -/
def wpR (P : Program) (ops : Array Oper) (C : Fct) (lo pu : List Nat) (spec : Nat → Value → Fct) (T : Act → Fct → Prop) : List Nat → Act → Fct → Prop
  | [], a, Fc => T a Fc
  | i :: r, a, Fc => opA P ops C lo pu spec i (wpR P ops C lo pu spec T r) a Fc

theorem wpAny_seq : ∀ (S : List Nat) (listed : Array Bool) (a : Act) (w : World), ordB.seqB md ops S listed = true → wpOps P ops Q S a w → wpAny P md ops Q S.length listed a w
  | [], listed, a, w, hB, h => ⟨by simpa [ordB.seqB] using hB, by simpa [wpOps] using h⟩
  | j :: r, listed, a, w, hB, h => by
    simp only [ordB.seqB, Bool.and_eq_true] at hB
    obtain ⟨h1, h2⟩ := hB
    split at h1
    · rename_i k hk
      obtain rfl := Nat.eq_of_beq_eq_true h1
      refine ⟨fun h => (by rw [hk] at h; cases h), fun i hi => ?_⟩
      rw [hk] at hi
      obtain rfl := List.mem_singleton.1 hi
      rw [wpOps_cons] at h
      exact wpOp_mono (fun a w h => wpAny_seq r _ a w h2 h) h
    · cases h1
theorem wpG_seq (S' : List Nat) (hS : ∀ j ∈ S', S.contains j = true) (listed : Array Bool) (a : Act) (Fc : Fct) (hB : ordB.seqB md ops S' listed = true) (h : ∀ w, C w → Fc w → wpOps P ops Q S' a w) : wpG P md ops C S lo pu spec Q S'.length listed a Fc := by
  cases S' with
  | nil => exact ⟨by simpa [ordB.seqB] using hB, fun w hc hw => by simpa [wpOps] using h w hc hw⟩
  | cons j r =>
    have hB' := hB
    simp only [ordB.seqB, Bool.and_eq_true] at hB
    obtain ⟨h1, h2⟩ := hB
    split at h1
    · rename_i k hk
      obtain rfl := Nat.eq_of_beq_eq_true h1
      refine ⟨fun h => (by rw [hk] at h; cases h), fun i hi => ?_⟩
      rw [hk] at hi
      obtain rfl := List.mem_singleton.1 hi
      rw [if_pos (hS i (List.mem_cons_self ..))]
      intro w hc hw
      have := h w hc hw
      rw [wpOps_cons] at this
      exact wpOp_mono (fun a w h => wpAny_seq r _ a w h2 h) this
    · cases h1

theorem wpG_ord (hC : ∀ w w', C w → Below w.heap.size w w' → C w') (h0 : ∃ w, C w) (hsel : ∀ (j : Nat) (o : Oper) cs b, ops[j]? = some o → o.op ≠ .select cs b) (hQ : ∀ c a w, ¬ Q (.panic c) a w) :
    ∀ (ord : List Nat) (listed : Array Bool) (a : Act) (Fc : Fct), Clo md ops listed → ordB md ops S pu lo ord listed = true → wpR P ops C lo pu spec (fun a' F' => ∀ w, C w → F' w → wpOps P ops Q S a' w) ord a Fc →
      wpG P md ops C S lo pu spec Q (ord.length + S.length) listed a Fc
  | [], listed, a, Fc, _, hB, h => by
    have := wpG_seq (P := P) (C := C) (S := S) (lo := lo) (pu := pu) (spec := spec) (Q := Q) S (fun j hj => by simpa using hj) listed a Fc hB h
    simpa using this
  | i :: r, listed, a, Fc, hclo, hB, h => by
    simp only [ordB, Bool.and_eq_true] at hB
    obtain ⟨⟨⟨⟨⟨hr, hf⟩, hS⟩, hl⟩, hw⟩, hB'⟩ := hB
    have hi : ∃ oi, ops[i]? = some oi := by
      cases ho : ops[i]? with
      | none => unfold wpR opA at h; simp only [ho] at h
      | some o => exact ⟨o, rfl⟩
    obtain ⟨oi, hi⟩ := hi
    have := wpG_first (P := P) (C := C) (S := S) (lo := lo) (pu := pu) (spec := spec) (Q := Q) (md := md) hC h0 hi hsel (by simpa using hS) (fun hp => by rw [hp] at hl; simpa using hl) (fun hp j hjS => by
        rw [hp] at hw
        simp only [Bool.false_or] at hw
        exact List.all_eq_true.1 hw j (by simpa using hjS)) hQ (r.length + S.length) listed a Fc hclo (Region.free_spec hi hf) (by simpa using hr)
      (opA_mono (fun a' f1 f2 h12 hk => wpG_mono _ _ a' f1 f2 h12 (wpG_ord hC h0 hsel hQ r _ a' f1 (hclo.put (by simpa using hr)) hB' hk)) (fun _ h => h) h)
    have e : (i :: r).length + S.length = r.length + S.length + 1 := by simp only [List.length_cons]; omega
    rw [e]
    exact this
end

/-- the world class: what was there is as it was -/
def Aft (w : World) : Fct := fun w' => Below w.heap.size w w'
theorem Aft.closed {w : World} : ∀ w1 w2, Aft w w1 → Below w1.heap.size w1 w2 → Aft w w2 := fun _ _ h hb => h.trans (hb.mono h.size)

section
variable {P : Program} {n : Nat} {Q : Post} {ρ : Env} {w : World} {ops : Array Oper}
/-- the walk over a frame -/
def AW (P : Program) (n : Nat) (ops : Array Oper) (C : Fct) (lo pu : List Nat) (spec : Nat → Value → Fct) (T : Env → Fct → Prop) (l : List Nat) (ρ : Env) (Fc : Fct) : Prop :=
  ∀ a, St n ρ a → wpR P ops C lo pu spec (fun a' F' => ∃ ρ', St n ρ' a' ∧ T ρ' F') l a Fc

def pick (ops : Array Oper) (S : List Nat) : List Oper := S.filterMap (ops[·]?)
theorem wpOps_pick {Q' : Exit → Act → World → Prop} : ∀ (S : List Nat), (S.all fun i => (ops[i]?).isSome) = true → wpOps P ops Q' S = wpList P ops Q' (pick ops S)
  | [], _ => by funext a w; simp [wpOps, pick, wpList]
  | i :: r, h => by
    simp only [List.all_cons, Bool.and_eq_true] at h
    obtain ⟨o, ho⟩ := Option.isSome_iff_exists.1 h.1
    have ih := wpOps_pick (Q' := Q') r h.2
    funext a w
    simp only [pick] at ih
    simp only [wpOps, ho, pick, List.filterMap_cons, wpList, ih]

/-- A REGION THAT DRAWS ITS ORDER. ord: all operations but the stores; S: the stores; pu: those of ord that are reckoned out of the frame alone; lo: those whose value is not one (calls, new blocks), spec: what they yield. -/
theorem cw_draw {id : Nat} {l : List Oper} (hm : P.follows .mixedOrders = true) (ord S lo pu : List Nat) (spec : Nat → Value → Fct) (hn : Region.noSelect l.toArray = true) (hB : ordB .any l.toArray S pu lo ord (Array.replicate l.toArray.size false) = true)
    (hS : (S.all fun i => (l.toArray[i]?).isSome) = true) (hl : Nat.beq (ord.length + S.length) l.length = true) (hQ : ∀ c ρ w, ¬ Q (.panic c) ρ w) (hsp : ∀ i v w1 w2, Aft w w1 → Below w1.heap.size w1 w2 → spec i v w1 → spec i v w2)
    (h : AW P n l.toArray (Aft w) lo pu spec (fun ρ' F' => ∀ w', Aft w w' → F' w' → LW P n l.toArray (pick l.toArray S) Q ρ' w') ord ρ (fun _ => True)) : CW P n (.region id l.toArray true) Q ρ w := fun a ha => by
  refine wp_region_any hm ?_
  have hlen : l.toArray.size = ord.length + S.length := by
    have := Nat.eq_of_beq_eq_true hl
    simpa using this.symm
  have hc0 : Aft w { w with drawn := w.drawn + 1 } := (Below.refl w.heap.size w).drew
  have hG := wpG_ord (P := P) (ops := l.toArray) (md := .any) (C := Aft w) (S := S) (lo := lo) (pu := pu) (spec := spec) (Q := low n Q) Aft.closed ⟨_, hc0⟩ (Region.noSelect_spec hn) (fun c a w ⟨ρ, _, hq⟩ => hQ c ρ w hq)
    ord (Array.replicate l.toArray.size false) a (fun _ => True) (fun k ok hk hl => by
      have hlt := (Array.getElem?_eq_some_iff.1 hk).1
      simp only [List.size_toArray] at hlt
      simp [hlt] at hl) hB ?_
  · rw [hlen]
    rw [hlen] at hG
    exact wpG_sound Aft.closed (fun i v w1 w2 h1 h2 h3 => hsp i v w1 w2 h1 h2 h3) _ _ _ _ (fun _ _ _ _ _ => trivial) hG _ hc0 trivial
  · have := h a ha
    have key : ∀ (ord : List Nat) (a : Act) (Fc : Fct), wpR P l.toArray (Aft w) lo pu spec (fun a' F' => ∃ ρ', St n ρ' a' ∧ ∀ w', Aft w w' → F' w' → LW P n l.toArray (pick l.toArray S) Q ρ' w') ord a Fc →
        wpR P l.toArray (Aft w) lo pu spec (fun a' F' => ∀ w', Aft w w' → F' w' → wpOps P l.toArray (low n Q) S a' w') ord a Fc := by
      intro ord
      induction ord with
      | nil =>
        intro a Fc ⟨ρ', hs, hk⟩ w' h1 h2
        rw [wpOps_pick S hS]
        exact hk w' h1 h2 a hs
      | cons i r ih =>
        intro a Fc hk
        exact opA_mono (fun a f1 f2 h12 hk => ih a f2 (by
          have mono : ∀ (r : List Nat) a f1 f2, (∀ w, f2 w → f1 w) → wpR P l.toArray (Aft w) lo pu spec (fun a' F' => ∃ ρ', St n ρ' a' ∧ ∀ w', Aft w w' → F' w' → LW P n l.toArray (pick l.toArray S) Q ρ' w') r a f1 → wpR P l.toArray (Aft w) lo pu spec (fun a' F' => ∃ ρ', St n ρ' a' ∧ ∀ w', Aft w w' → F' w' → LW P n l.toArray (pick l.toArray S) Q ρ' w') r a f2 := by
            intro r
            induction r with
            | nil => intro a f1 f2 h12 ⟨ρ', hs, hk⟩; exact ⟨ρ', hs, fun w' h1 h2 => hk w' h1 (h12 _ h2)⟩
            | cons i r ih => intro a f1 f2 h12 hk; exact opA_mono (fun a f1 f2 h12 hk => ih a f1 f2 h12 hk) h12 hk
          exact mono r a f1 f2 h12 hk)) (fun _ h => h) hk
    exact key ord a _ this
end
end Go.Eng
end

section
namespace Go.Eng
open Go Go.RowKit

def wantE (ops : Array Oper) (ρ : Env) (o : Oper) : Bool :=
  match o.guard with
  | none => true
  | some (j, b) => match ops[j]? with
    | some o' => match o'.dst with
      | some d => match ρ d with
        | .bool b' => b' == b
        | _ => false
      | none => false
    | none => false
/-- an operation, guarded or not -/
abbrev Og (dst : Option Nat) (op : Op) (t : TypeId) (p : String) (af : Array Edge) (g : Option (Nat × Bool)) : Oper := { dst := dst, op := op, type := t, pos := p, after := af, guard := g }
/-- where a slice's piece lies -/
def cut (A : Option Addr) (cap l sz : Nat) : Option Addr := if cap = l then A else A.map (·.add (l * sz))
theorem cut_from {A : Option Addr} {cap l len sz : Nat} (h : len ≤ cap) : From A (cut A cap l sz) l len sz := fun hlt b o hA => by
  subst hA
  unfold cut
  rw [if_neg (by omega)]
  simp [Addr.add_lit]

section
variable {P : Program} {n : Nat} {Q : Post} {ρ : Env} {w : World} {ops : Array Oper} {rest : List Oper} {d : Nat} {t : TypeId} {p : String} {af : Array Edge} {g : Option (Nat × Bool)} {dst : Option Nat}
theorem St.wants {a : Act} (ha : St n ρ a) (o : Oper) : Region.wanted o (Go.yielded ops a.tmps) = wantE ops ρ o := by
  unfold Region.wanted wantE
  cases hg : o.guard with
  | none => rfl
  | some q =>
    obtain ⟨j, b⟩ := q
    simp only
    cases hj : ops[j]? with
    | none => simp [Go.yielded, hj]
    | some o' =>
      simp only
      cases hd : o'.dst with
      | none => simp [Go.yielded, hj, hd]
      | some dj =>
        simp only
        have hgt := ha.get dj
        simp only [Go.yielded, hj, Option.bind_some, hd]
        rw [Array.getD_eq_getD_getElem?] at hgt
        cases h : a.tmps[dj]? with
        | none =>
          rw [h] at hgt
          simp only [Option.getD_none] at hgt
          rw [← hgt]
          rfl
        | some v =>
          rw [h] at hgt
          simp only [Option.getD_some] at hgt
          subst hgt
          cases hv : ρ dj <;> simp [BEq.comm]
theorem lwG {o : Oper} (hw : wantE ops ρ o = true) (h : LW P n ops ({ o with guard := none } :: rest) Q ρ w) : LW P n ops (o :: rest) Q ρ w := fun a ha => by
  have := h a ha
  unfold wpList at this ⊢
  rw [ha.wants o, hw]
  have hw' : Region.wanted { o with guard := none } (Go.yielded ops a.tmps) = true := rfl
  rw [hw'] at this
  exact this
theorem lwN {o : Oper} (hw : wantE ops ρ o = false) (hd : o.dst = some d) (hdn : Nat.blt d n = true) (h : LW P n ops rest Q (upd ρ d undef) w) : LW P n ops (o :: rest) Q ρ w := fun a ha => by
  refine wpList_skip (by rw [ha.wants o, hw]) ?_
  rw [hd]
  exact h _ (ha.put hdn _)

/-! what the operations come to -/
theorem mv_r {x : Operand} {v : Value} (hx : ev ρ x = v) : (execOp (ev ρ) (Og dst (.move x) t p af g)).run P w = .ok (.value v) w := by simp [execOp, hx]
theorem as_r {x : Operand} {v : Value} (hx : ev ρ x = v) : (execOp (ev ρ) (Og dst (.assign x) t p af g)).run P w = .ok (.value v) w := by simp [execOp, hx]
theorem lss_r {x y : Operand} {ty ty' : TypeId} {k : IntKind} {a b : Int} (hx : ev ρ x = .int k a) (hy : ev ρ y = .int k b) : (execOp (ev ρ) (Og dst (.binOp .lss ty x y ty') t p af g)).run P w = .ok (.value (.bool (decide (a < b)))) w := by simp [execOp, hx, hy, eqGuard, binOp, Op.intCmp]
theorem leq_r {x y : Operand} {ty ty' : TypeId} {k : IntKind} {a b : Int} (hx : ev ρ x = .int k a) (hy : ev ρ y = .int k b) : (execOp (ev ρ) (Og dst (.binOp .leq ty x y ty') t p af g)).run P w = .ok (.value (.bool (decide (a ≤ b)))) w := by simp [execOp, hx, hy, eqGuard, binOp, Op.intCmp]
theorem gtr_r {x y : Operand} {ty ty' : TypeId} {k : IntKind} {a b : Int} (hx : ev ρ x = .int k a) (hy : ev ρ y = .int k b) : (execOp (ev ρ) (Og dst (.binOp .gtr ty x y ty') t p af g)).run P w = .ok (.value (.bool (decide (b < a)))) w := by simp [execOp, hx, hy, eqGuard, binOp, Op.intCmp]
theorem geq_r {x y : Operand} {ty ty' : TypeId} {k : IntKind} {a b : Int} (hx : ev ρ x = .int k a) (hy : ev ρ y = .int k b) : (execOp (ev ρ) (Og dst (.binOp .geq ty x y ty') t p af g)).run P w = .ok (.value (.bool (decide (b ≤ a)))) w := by simp [execOp, hx, hy, eqGuard, binOp, Op.intCmp]
theorem eql_r {x y : Operand} {ty ty' : TypeId} {k : IntKind} {a b : Int} (hx : ev ρ x = .int k a) (hy : ev ρ y = .int k b) : (execOp (ev ρ) (Og dst (.binOp .eql ty x y ty') t p af g)).run P w = .ok (.value (.bool (decide (a = b)))) w := by
  simp [execOp, hx, hy, eqGuard, binOp, Op.intCmp]; try rfl
theorem neq_r {x y : Operand} {ty ty' : TypeId} {k : IntKind} {a b : Int} (hx : ev ρ x = .int k a) (hy : ev ρ y = .int k b) : (execOp (ev ρ) (Og dst (.binOp .neq ty x y ty') t p af g)).run P w = .ok (.value (.bool (!decide (a = b)))) w := by
  simp [execOp, hx, hy, eqGuard, binOp, Op.intCmp]; try rfl
theorem add_r {x y : Operand} {ty ty' : TypeId} {a b : Int} (hx : ev ρ x = .int .i64 a) (hy : ev ρ y = .int .i64 b) (h1 : -9000000000000000000 ≤ a + b) (h2 : a + b ≤ 9000000000000000000) : (execOp (ev ρ) (Og dst (.binOp .add ty x y ty') t p af g)).run P w = .ok (.value (.int .i64 (a + b))) w := by simp [execOp, hx, hy, eqGuard, binOp, Op.intArith, wrapI h1 h2]
theorem sub_r {x y : Operand} {ty ty' : TypeId} {a b : Int} (hx : ev ρ x = .int .i64 a) (hy : ev ρ y = .int .i64 b) (h1 : -9000000000000000000 ≤ a - b) (h2 : a - b ≤ 9000000000000000000) : (execOp (ev ρ) (Og dst (.binOp .sub ty x y ty') t p af g)).run P w = .ok (.value (.int .i64 (a - b))) w := by simp [execOp, hx, hy, eqGuard, binOp, Op.intArith, wrapI h1 h2]
theorem not_r {x : Operand} {ty : TypeId} {b : Bool} (hx : ev ρ x = .bool b) : (execOp (ev ρ) (Og dst (.unOp .not ty x) t p af g)).run P w = .ok (.value (.bool (!b))) w := by simp [execOp, hx, Op.unary]
theorem pkT_r {c x y : Operand} {v : Value} (hc : ev ρ c = .bool true) (hx : ev ρ x = v) : (execOp (ev ρ) (Og dst (.pick c x y) t p af g)).run P w = .ok (.value v) w := by simp [execOp, hc, hx, asBool]
theorem pkF_r {c x y : Operand} {v : Value} (hc : ev ρ c = .bool false) (hy : ev ρ y = v) : (execOp (ev ρ) (Og dst (.pick c x y) t p af g)).run P w = .ok (.value v) w := by simp [execOp, hc, hy, asBool]
theorem ex_r {x : Operand} {i : Nat} {vs : List Value} {v : Value} (hx : ev ρ x = .tuple vs.toArray) (hi : vs[i]? = some v) : (execOp (ev ρ) (Og dst (.extract x i) t p af g)).run P w = .ok (.value v) w := by simp [execOp, hx, Instr.extract, hi]
theorem nck_r {x : Operand} {a : Addr} (hx : ev ρ x = .pointer (some a)) : (execOp (ev ρ) (Og dst (.nilCheck x) t p af g)).run P w = .ok (.value (.pointer (some a))) w := by simp [execOp, hx]
theorem fad_r {x : Operand} {T f off b o : Nat} (hf : fieldB P T f off = true) (hx : ev ρ x = .pointer (some ⟨b, o, none⟩)) : (execOp (ev ρ) (Og dst (.fieldAddr T x f) t p af g)).run P w = .ok (.value (.pointer (some ⟨b, o + off, none⟩))) w := by
  obtain ⟨fs, q, i, h1, h2, h3, h4, h5⟩ := field_of hf
  simp only [execOp, hx, Instr.fieldAt, Sem.run_bind, run_underlying h1, Result.andThen_ok, h2, Instr.sureAddr, Sem.run_pure, fieldPlace, run_size h4, h5, if_false, h3, Addr.add_lit]
theorem ixa_r {x y : Operand} {T E sz b o l c : Nat} {k : IntKind} {i : Int} (hT : sliceB P T E sz = true) (hx : ev ρ x = .slice (some ⟨b, o, none⟩) l c) (hy : ev ρ y = .int k i) (h0 : 0 ≤ i) (hl : i < l) : (execOp (ev ρ) (Og dst (.indexAddr T x y) t p af g)).run P w = .ok (.value (.pointer (some ⟨b, o + i.toNat * sz, none⟩))) w := by
  obtain ⟨h1, j, h2, h3⟩ := slice_of hT
  simp only [execOp, hx, hy, Instr.indexAt, asIntOf, Sem.run_bind, run_underlying h1, Result.andThen_ok, Sem.run_pure]
  simp [h0, hl, run_size h2, h3, Addr.add_lit]
theorem ld_r {x : Operand} {T : TypeId} {a : Addr} {v : Value} (hT : oneB P T = true) (hx : ev ρ x = .pointer (some a)) (hc : w.cell? a = some v) : (execOp (ev ρ) (Og dst (.load T x) t p af g)).run P w = .ok (.value v) w := by
  simp only [execOp, hx, Instr.loadAt, Instr.sureAddr, Sem.run_bind, Sem.run_pure, Result.andThen_ok, run_loadOne hT hc]
theorem ldA_r {x : Operand} {T sz b o : Nat} {xs : List Value} (hT : aggB P T sz = true) (hx : ev ρ x = .pointer (some ⟨b, o, none⟩)) (hl : xs.length = sz) (hc : ∀ j v, xs[j]? = some v → w.cell? ⟨b, o + j, none⟩ = some v) : (execOp (ev ρ) (Og dst (.load T x) t p af g)).run P w = .ok (.value (.agg xs.toArray)) w := by
  simp only [execOp, hx, Instr.loadAt, Instr.sureAddr, Sem.run_bind, Sem.run_pure, Result.andThen_ok, run_loadAgg hT hl (fun j v hj => by rw [Addr.add_lit]; exact hc j v hj)]
theorem lenS_r {x : Operand} {T : TypeId} {A : Option Addr} {l c : Nat} (hT : lenB P T = true) (hx : ev ρ x = .slice A l c) : (execOp (ev ρ) (Og dst (.call { callee := .builtin .len, args := #[x], argTypes := #[T] }) t p af g)).run P w = .ok (.value (.int .i64 l)) w := by
  unfold lenB at hT
  split at hT
  · rename_i e hu
    simp [execOp, resolve, invoke, builtin, Builtin.len_, hx, run_underlying hu, goInt]
  · cases hT
theorem sliLo_r {x lo : Operand} {T E sz : Nat} {A : Option Addr} {len cap : Nat} {k : IntKind} {i : Int} (hT : sliceB P T E sz = true) (hx : ev ρ x = .slice A len cap) (hl : ev ρ lo = .int k i) (h0 : 0 ≤ i) (h1 : i ≤ len) : (execOp (ev ρ) (Og dst (.slice T x (some lo) none none) t p af g)).run P w = .ok (.value (.slice (cut A cap i.toNat sz) (len - i.toNat) (cap - i.toNat))) w := by
  obtain ⟨hu, j, h2, h3⟩ := slice_of hT
  simp only [execOp, Instr.sliceAt, Option.map_some, Option.map_none, hx, hl, Sem.run_bind, run_underlying hu, Result.andThen_ok, Instr.slice, Instr.sliceBounds, Instr.sliceBound, asIntOf, Sem.run_pure]
  simp [h0, h1, run_size h2, h3, cut]
theorem sliHi_r {x hi : Operand} {T E sz : Nat} {A : Option Addr} {len cap : Nat} {k : IntKind} {i : Int} (hT : sliceB P T E sz = true) (hx : ev ρ x = .slice A len cap) (hl : ev ρ hi = .int k i) (h0 : 0 ≤ i) (h1 : i ≤ cap) : (execOp (ev ρ) (Og dst (.slice T x none (some hi) none) t p af g)).run P w = .ok (.value (.slice (cut A cap 0 sz) i.toNat cap)) w := by
  obtain ⟨hu, j, h2, h3⟩ := slice_of hT
  simp only [execOp, Instr.sliceAt, Option.map_some, Option.map_none, hx, hl, Sem.run_bind, run_underlying hu, Result.andThen_ok, Instr.slice, Instr.sliceBounds, Instr.sliceBound, asIntOf, Sem.run_pure]
  simp [h0, h1, run_size h2, h3, cut]
theorem cvI_r {x : Operand} {S T : TypeId} {k k' : IntKind} {a b : Int} (hS : intB P S k = true) (hT : intB P T k' = true) (hx : ev ρ x = .int k a) (hw : k'.wrap a = b) : (execOp (ev ρ) (Og dst (.convert S T x) t p af g)).run P w = .ok (.value (.int k' b)) w := by
  unfold intB at hS hT
  split at hS
  · rename_i k1 h1
    split at hT
    · rename_i k2 h2
      have := of_decide_eq_true hT
      subst this
      simp [execOp, convert, hx, run_underlying h1, run_underlying h2, Conv.intToInt, hw]
    · cases hT
  · cases hS

theorem lssT_r {x y : Operand} {ty ty' : TypeId} {k : IntKind} {a b : Int} (hx : ev ρ x = .int k a) (hy : ev ρ y = .int k b) (hp : a < b) : (execOp (ev ρ) (Og dst (.binOp .lss ty x y ty') t p af g)).run P w = .ok (.value (.bool true)) w := by rw [lss_r hx hy]; simp [hp]
theorem lssF_r {x y : Operand} {ty ty' : TypeId} {k : IntKind} {a b : Int} (hx : ev ρ x = .int k a) (hy : ev ρ y = .int k b) (hp : ¬ a < b) : (execOp (ev ρ) (Og dst (.binOp .lss ty x y ty') t p af g)).run P w = .ok (.value (.bool false)) w := by rw [lss_r hx hy]; simp [hp]
theorem leqT_r {x y : Operand} {ty ty' : TypeId} {k : IntKind} {a b : Int} (hx : ev ρ x = .int k a) (hy : ev ρ y = .int k b) (hp : a ≤ b) : (execOp (ev ρ) (Og dst (.binOp .leq ty x y ty') t p af g)).run P w = .ok (.value (.bool true)) w := by rw [leq_r hx hy]; simp [hp]
theorem leqF_r {x y : Operand} {ty ty' : TypeId} {k : IntKind} {a b : Int} (hx : ev ρ x = .int k a) (hy : ev ρ y = .int k b) (hp : ¬ a ≤ b) : (execOp (ev ρ) (Og dst (.binOp .leq ty x y ty') t p af g)).run P w = .ok (.value (.bool false)) w := by rw [leq_r hx hy]; simp [hp]
theorem gtrT_r {x y : Operand} {ty ty' : TypeId} {k : IntKind} {a b : Int} (hx : ev ρ x = .int k a) (hy : ev ρ y = .int k b) (hp : b < a) : (execOp (ev ρ) (Og dst (.binOp .gtr ty x y ty') t p af g)).run P w = .ok (.value (.bool true)) w := by rw [gtr_r hx hy]; simp [hp]
theorem gtrF_r {x y : Operand} {ty ty' : TypeId} {k : IntKind} {a b : Int} (hx : ev ρ x = .int k a) (hy : ev ρ y = .int k b) (hp : ¬ b < a) : (execOp (ev ρ) (Og dst (.binOp .gtr ty x y ty') t p af g)).run P w = .ok (.value (.bool false)) w := by rw [gtr_r hx hy]; simp [hp]
theorem geqT_r {x y : Operand} {ty ty' : TypeId} {k : IntKind} {a b : Int} (hx : ev ρ x = .int k a) (hy : ev ρ y = .int k b) (hp : b ≤ a) : (execOp (ev ρ) (Og dst (.binOp .geq ty x y ty') t p af g)).run P w = .ok (.value (.bool true)) w := by rw [geq_r hx hy]; simp [hp]
theorem geqF_r {x y : Operand} {ty ty' : TypeId} {k : IntKind} {a b : Int} (hx : ev ρ x = .int k a) (hy : ev ρ y = .int k b) (hp : ¬ b ≤ a) : (execOp (ev ρ) (Og dst (.binOp .geq ty x y ty') t p af g)).run P w = .ok (.value (.bool false)) w := by rw [geq_r hx hy]; simp [hp]
theorem eqlT_r {x y : Operand} {ty ty' : TypeId} {k : IntKind} {a b : Int} (hx : ev ρ x = .int k a) (hy : ev ρ y = .int k b) (hp : a = b) : (execOp (ev ρ) (Og dst (.binOp .eql ty x y ty') t p af g)).run P w = .ok (.value (.bool true)) w := by rw [eql_r hx hy]; simp [hp]
theorem eqlF_r {x y : Operand} {ty ty' : TypeId} {k : IntKind} {a b : Int} (hx : ev ρ x = .int k a) (hy : ev ρ y = .int k b) (hp : ¬ a = b) : (execOp (ev ρ) (Og dst (.binOp .eql ty x y ty') t p af g)).run P w = .ok (.value (.bool false)) w := by rw [eql_r hx hy]; simp [hp]
theorem neqT_r {x y : Operand} {ty ty' : TypeId} {k : IntKind} {a b : Int} (hx : ev ρ x = .int k a) (hy : ev ρ y = .int k b) (hp : ¬ a = b) : (execOp (ev ρ) (Og dst (.binOp .neq ty x y ty') t p af g)).run P w = .ok (.value (.bool true)) w := by rw [neq_r hx hy]; simp [hp]
theorem neqF_r {x y : Operand} {ty ty' : TypeId} {k : IntKind} {a b : Int} (hx : ev ρ x = .int k a) (hy : ev ρ y = .int k b) (hp : a = b) : (execOp (ev ρ) (Og dst (.binOp .neq ty x y ty') t p af g)).run P w = .ok (.value (.bool false)) w := by rw [neq_r hx hy]; simp [hp]
/-! the walk over a region that draws -/
variable {C : Fct} {lo pu : List Nat} {spec : Nat → Value → Fct} {T : Env → Fct → Prop} {r : List Nat} {Fc : Fct} {i : Nat} {o : Oper}
theorem aw_nil (h : T ρ Fc) : AW P n ops C lo pu spec T [] ρ Fc := fun _ ha => ⟨ρ, ha, h⟩
/-- an operation of one value -/
theorem aw {v : Value} (hi : ops[i]? = some o) (hw : wantE ops ρ o = true) (hl : lo.contains i = false) (hd : o.dst = some d) (hdn : Nat.blt d n = true) (hr : ∀ w', (bif pu.contains i then True else C w') → (execOp (ev ρ) o).run P w' = .ok (.value v) w')
    (h : AW P n ops C lo pu spec T r (upd ρ d v) Fc) : AW P n ops C lo pu spec T (i :: r) ρ Fc := fun a ha => by
  unfold wpR opA
  simp only [hi, ha.wants o, hw, if_true, hl, Bool.false_eq_true, if_false]
  refine ⟨v, fun w' hc => ?_, by rw [hd]; exact h _ (ha.put hdn v)⟩
  rw [ha.eval]
  refine hr w' ?_
  cases hp : pu.contains i
  · rw [hp] at hc; exact hc
  · trivial
theorem awN (hi : ops[i]? = some o) (hw : wantE ops ρ o = false) (hd : o.dst = some d) (hdn : Nat.blt d n = true) (h : AW P n ops C lo pu spec T r (upd ρ d undef) Fc) : AW P n ops C lo pu spec T (i :: r) ρ Fc := fun a ha => by
  unfold wpR opA
  simp only [hi, ha.wants o, hw, Bool.false_eq_true, if_false]
  rw [hd]
  exact h _ (ha.put hdn _)
theorem awL (hi : ops[i]? = some o) (hw : wantE ops ρ o = true) (hl : lo.contains i = true) (hd : o.dst = some d) (hdn : Nat.blt d n = true)
    (hr : ∀ a, St n ρ a → ∀ w', C w' → exA P o a (spec i) w') (h : ∀ v, (∃ w', C w' ∧ spec i v w') → AW P n ops C lo pu spec T r (upd ρ d v) (fun w => Fc w ∧ spec i v w)) : AW P n ops C lo pu spec T (i :: r) ρ Fc := fun a ha => by
  unfold wpR opA
  simp only [hi, ha.wants o, hw, if_true, hl]
  exact ⟨hr a ha, fun v hv => by rw [hd]; exact h v hv _ (ha.put hdn v)⟩
theorem awCal {f : FuncId} {xs : List Operand} {ats : Array TypeId} {vs : List Value} (hf : callB P f = true) (hi : ops[i]? = some (Og (some d) (.call { callee := .value (.func f), args := xs.toArray, argTypes := ats }) t p af g)) (hw : wantE ops ρ (Og (some d) (.call { callee := .value (.func f), args := xs.toArray, argTypes := ats }) t p af g) = true) (hl : lo.contains i = true) (hdn : Nat.blt d n = true)
    (hc : ∀ w', C w' → Ret P f vs w' fun v w2 => Below w'.heap.size w' w2 ∧ spec i v w2) (hv : xs.map (ev ρ) = vs)
    (h : ∀ v, (∃ w', C w' ∧ spec i v w') → AW P n ops C lo pu spec T r (upd ρ d v) (fun w => Fc w ∧ spec i v w)) : AW P n ops C lo pu spec T (i :: r) ρ Fc :=
  awL hi hw hl rfl hdn (fun a ha w' hcw => by
    unfold exA
    have hr : (execOp a.eval (Og (some d) (.call { callee := .value (.func f), args := xs.toArray, argTypes := ats }) t p af g)).run P w' = .ok (.enter f vs.toArray) w' := by
      rw [ha.eval]; subst hv
      simp [execOp, resolve, ev, Deferred.ofValue, invoke, run_callFunc hf]
    rw [hr]
    exact ⟨rfl, Calls.mono (hc w' hcw) fun e w2 ⟨v, he, hb, hs⟩ => ⟨v, he, hb, hs⟩⟩) h
theorem awAlo {T' : TypeId} {z : Value} (hz : (P.info? T').bind (·.zero) = some z) (hi : ops[i]? = some (Og (some d) (.alloc T') t p af g)) (hw : wantE ops ρ (Og (some d) (.alloc T') t p af g) = true) (hl : lo.contains i = true) (hdn : Nat.blt d n = true)
    (hs : ∀ w' w2 b, C w' → w'.heap.size ≤ b → w2.heap[b]? = some (.cells z.cells T' (0, 0)) → spec i (.pointer (some ⟨b, 0, none⟩)) w2)
    (h : ∀ v, (∃ w', C w' ∧ spec i v w') → AW P n ops C lo pu spec T r (upd ρ d v) (fun w => Fc w ∧ spec i v w)) : AW P n ops C lo pu spec T (i :: r) ρ Fc :=
  awL hi hw hl rfl hdn (fun a _ w' hcw => by
    unfold exA
    have hr : (execOp a.eval (Og (some d) (.alloc T') t p af g)).run P w' = .ok (.value (.pointer (some ⟨w'.heap.size, 0, none⟩))) (w'.alloc (.cells z.cells T')) := by
      cases hii : P.info? T' with
      | none => rw [hii] at hz; cases hz
      | some ii =>
        rw [hii] at hz
        simp only [Option.bind_some] at hz
        simp only [execOp, Instr.alloc, zeroValue, run_typeInfo hii, hz, newVar, newRow, newObj, Sem.run_bind, Sem.run_pure, Result.andThen_ok]
        rfl
    rw [hr]
    exact ⟨(Below.refl _ _).alloc (Nat.le_refl _) _, hs w' _ _ hcw (Nat.le_refl _) (heap_alloc_new w' _)⟩) h
end

/-- what loose operations yield -/
structure Sp where
  V : Value → Fct
  st : ∀ v w1 w2, Below w1.heap.size w1 w2 → V v w1 → V v w2
def sp (l : List (Nat × Sp)) (i : Nat) (v : Value) : Fct := match l.find? (fun q => Nat.beq q.1 i) with
  | some q => q.2.V v
  | none => fun _ => True
theorem sp_st {w : World} (l : List (Nat × Sp)) : ∀ i v w1 w2, Aft w w1 → Below w1.heap.size w1 w2 → sp l i v w1 → sp l i v w2 := fun i v w1 w2 _ hb h => by
  unfold sp at *
  cases hq : l.find? (fun q => Nat.beq q.1 i) with
  | none => trivial
  | some q => rw [hq] at h; exact q.2.st v w1 w2 hb h
/-- one known value -/
def Sp.one (u : Value) : Sp := ⟨fun v _ => v = u, fun _ _ _ _ h => h⟩
/-- a new block -/
def Sp.blk (lo : Nat) (z : Value) (T : TypeId) : Sp := ⟨fun v w => ∃ b, v = .pointer (some ⟨b, 0, none⟩) ∧ lo ≤ b ∧ w.heap[b]? = some (.cells z.cells T (0, 0)), fun _ _ _ hb ⟨b, h1, h2, h3⟩ => ⟨b, h1, h2, (hb.block b (lt_of_heap h3)).trans h3⟩⟩
end Go.Eng
end

section
namespace Go.Eng
open Go Go.RowKit
section
variable {P : Program} {n : Nat} {Q : Post} {ρ : Env} {w : World} {ops : Array Oper} {rest : List Oper} {d : Nat} {t : TypeId} {p : String} {af : Array Edge}
variable {w0 : World} {L : List (Nat × Obj)} {F : List Fact}
/-- what a block holds when the cells new are laid at o -/
def lay (cs : Array Value) (o : Nat) (new : List Value) : Array Value := (cs.toList.take o ++ new ++ cs.toList.drop (o + new.length)).toArray
theorem lay_all (cs : Array Value) (new : List Value) (h : cs.size = new.length) : lay cs 0 new = new.toArray := by
  unfold lay
  rw [List.take_zero, List.nil_append, List.drop_of_length_le (by simp [h]), List.append_nil]
theorem stv (H : Hp w0 w L F) (i : Nat) {x y : Operand} {T : TypeId} {b o sz : Nat} {cs : Array Value} {tt : TypeId} {v : Value} (hT : (P.info? T).map (·.size) = some sz) (hx : ev ρ x = .pointer (some ⟨b, o, none⟩)) (hy : ev ρ y = v) (hi : L[i]? = some (b, .cells cs tt (0, 0)))
    (hs : v.cells.size = sz) (hf : o + sz ≤ cs.size) (h1 : v.cells.toList.all (·.oneCell') = true)
    (h : ∀ w', Hp w0 w' (L.set i (b, .cells (lay cs o v.cells.toList) tt)) F → LW P n ops rest Q ρ w') : LW P n ops ({ dst := none, op := .store T x y, type := t, pos := p, after := af, guard := none } :: rest) Q ρ w :=
  stE H i hT hx hy hi hs hf h1 fun w' h' => h w' (by unfold lay; rw [Array.length_toList, hs]; exact h')
theorem stA (H : Hp w0 w L F) (i : Nat) {x y : Operand} {T : TypeId} {b o sz : Nat} {cs : Array Value} {tt : TypeId} {c2 : Array Value} (hT : (P.info? T).map (·.size) = some sz) (hx : ev ρ x = .pointer (some ⟨b, o, none⟩)) (hy : ev ρ y = .agg c2) (hi : L[i]? = some (b, .cells cs tt (0, 0)))
    (hs : c2.size = sz) (hf : o + sz ≤ cs.size) (h1 : c2.toList.all (·.oneCell') = true)
    (h : ∀ w', Hp w0 w' (L.set i (b, .cells (lay cs o c2.toList) tt)) F → LW P n ops rest Q ρ w') : LW P n ops ({ dst := none, op := .store T x y, type := t, pos := p, after := af, guard := none } :: rest) Q ρ w := stv H i hT hx hy hi hs hf h1 h
/-- the whole of a block -/
theorem stW (H : Hp w0 w L F) (i : Nat) {x y : Operand} {T : TypeId} {b sz : Nat} {cs : Array Value} {tt : TypeId} {c2 : Array Value} (hT : (P.info? T).map (·.size) = some sz) (hx : ev ρ x = .pointer (some ⟨b, 0, none⟩)) (hy : ev ρ y = .agg c2) (hi : L[i]? = some (b, .cells cs tt (0, 0)))
    (hs : c2.size = sz) (hf : cs.size = sz) (h1 : c2.toList.all (·.oneCell') = true)
    (h : ∀ w', Hp w0 w' (L.set i (b, .cells c2 tt)) F → LW P n ops rest Q ρ w') : LW P n ops ({ dst := none, op := .store T x y, type := t, pos := p, after := af, guard := none } :: rest) Q ρ w :=
  stv H i hT hx hy hi hs (by omega) h1 fun w' h' => h w' (by
    have e : lay cs 0 (Value.agg c2).cells.toList = c2 := lay_all cs _ (by simp [Value.cells, hs, hf])
    rw [e] at h'; exact h')
theorem st1 (H : Hp w0 w L F) (i : Nat) {x y : Operand} {T : TypeId} {b o : Nat} {cs : Array Value} {tt : TypeId} {v : Value} (hT : (P.info? T).map (·.size) = some 1) (hx : ev ρ x = .pointer (some ⟨b, o, none⟩)) (hy : ev ρ y = v) (hi : L[i]? = some (b, .cells cs tt (0, 0)))
    (hs : v.cells = #[v]) (hf : o < cs.size) (h1 : v.oneCell' = true)
    (h : ∀ w', Hp w0 w' (L.set i (b, .cells (lay cs o [v]) tt)) F → LW P n ops rest Q ρ w') : LW P n ops ({ dst := none, op := .store T x y, type := t, pos := p, after := af, guard := none } :: rest) Q ρ w :=
  stv H i hT hx hy hi (by rw [hs]; rfl) (by omega) (by rw [hs]; simpa using h1) fun w' h' => h w' (by rw [hs] at h'; exact h')
theorem stI (H : Hp w0 w L F) (i : Nat) {x y : Operand} {T : TypeId} {b o : Nat} {cs : Array Value} {tt : TypeId} {k : IntKind} {m : Int} (hT : (P.info? T).map (·.size) = some 1) (hx : ev ρ x = .pointer (some ⟨b, o, none⟩)) (hy : ev ρ y = .int k m) (hi : L[i]? = some (b, .cells cs tt (0, 0))) (hf : o < cs.size)
    (h : ∀ w', Hp w0 w' (L.set i (b, .cells (lay cs o [.int k m]) tt)) F → LW P n ops rest Q ρ w') : LW P n ops ({ dst := none, op := .store T x y, type := t, pos := p, after := af, guard := none } :: rest) Q ρ w := st1 H i hT hx hy hi rfl hf rfl h
theorem stB (H : Hp w0 w L F) (i : Nat) {x y : Operand} {T : TypeId} {b o : Nat} {cs : Array Value} {tt : TypeId} {m : Bool} (hT : (P.info? T).map (·.size) = some 1) (hx : ev ρ x = .pointer (some ⟨b, o, none⟩)) (hy : ev ρ y = .bool m) (hi : L[i]? = some (b, .cells cs tt (0, 0))) (hf : o < cs.size)
    (h : ∀ w', Hp w0 w' (L.set i (b, .cells (lay cs o [.bool m]) tt)) F → LW P n ops rest Q ρ w') : LW P n ops ({ dst := none, op := .store T x y, type := t, pos := p, after := af, guard := none } :: rest) Q ρ w := st1 H i hT hx hy hi rfl hf rfl h
theorem stS (H : Hp w0 w L F) (i : Nat) {x y : Operand} {T : TypeId} {b o : Nat} {cs : Array Value} {tt : TypeId} {A : Option Addr} {l c : Nat} (hT : (P.info? T).map (·.size) = some 1) (hx : ev ρ x = .pointer (some ⟨b, o, none⟩)) (hy : ev ρ y = .slice A l c) (hi : L[i]? = some (b, .cells cs tt (0, 0))) (hf : o < cs.size)
    (h : ∀ w', Hp w0 w' (L.set i (b, .cells (lay cs o [.slice A l c]) tt)) F → LW P n ops rest Q ρ w') : LW P n ops ({ dst := none, op := .store T x y, type := t, pos := p, after := af, guard := none } :: rest) Q ρ w := st1 H i hT hx hy hi rfl hf rfl h
theorem stT (H : Hp w0 w L F) (i : Nat) {x y : Operand} {T : TypeId} {b o : Nat} {cs : Array Value} {tt : TypeId} {s : ByteArray} (hT : (P.info? T).map (·.size) = some 1) (hx : ev ρ x = .pointer (some ⟨b, o, none⟩)) (hy : ev ρ y = .string s) (hi : L[i]? = some (b, .cells cs tt (0, 0))) (hf : o < cs.size)
    (h : ∀ w', Hp w0 w' (L.set i (b, .cells (lay cs o [.string s]) tt)) F → LW P n ops rest Q ρ w') : LW P n ops ({ dst := none, op := .store T x y, type := t, pos := p, after := af, guard := none } :: rest) Q ρ w := st1 H i hT hx hy hi rfl hf rfl h
theorem stP (H : Hp w0 w L F) (i : Nat) {x y : Operand} {T : TypeId} {b o : Nat} {cs : Array Value} {tt : TypeId} {A : Option Addr} (hT : (P.info? T).map (·.size) = some 1) (hx : ev ρ x = .pointer (some ⟨b, o, none⟩)) (hy : ev ρ y = .pointer A) (hi : L[i]? = some (b, .cells cs tt (0, 0))) (hf : o < cs.size)
    (h : ∀ w', Hp w0 w' (L.set i (b, .cells (lay cs o [.pointer A]) tt)) F → LW P n ops rest Q ρ w') : LW P n ops ({ dst := none, op := .store T x y, type := t, pos := p, after := af, guard := none } :: rest) Q ρ w := st1 H i hT hx hy hi rfl hf rfl h
theorem bxA (H : Hp w0 w L F) {x : Operand} {T : TypeId} {c : Array Value} (hx : ev ρ x = .agg c) (hdn : Nat.blt d n = true)
    (h : ∀ w' b, Hp w0 w' ((b, .cells c T) :: L) F → LW P n ops rest Q (upd ρ d (.pointer (some ⟨b, 0, none⟩))) w') : LW P n ops (O d (.box T x) t p af :: rest) Q ρ w := box H hx hdn h
theorem bxI (H : Hp w0 w L F) {x : Operand} {T : TypeId} {k : IntKind} {m : Int} (hx : ev ρ x = .int k m) (hdn : Nat.blt d n = true)
    (h : ∀ w' b, Hp w0 w' ((b, .cells #[.int k m] T) :: L) F → LW P n ops rest Q (upd ρ d (.pointer (some ⟨b, 0, none⟩))) w') : LW P n ops (O d (.box T x) t p af :: rest) Q ρ w := box H hx hdn h
theorem bxT (H : Hp w0 w L F) {x : Operand} {T : TypeId} {s : ByteArray} (hx : ev ρ x = .string s) (hdn : Nat.blt d n = true)
    (h : ∀ w' b, Hp w0 w' ((b, .cells #[.string s] T) :: L) F → LW P n ops rest Q (upd ρ d (.pointer (some ⟨b, 0, none⟩))) w') : LW P n ops (O d (.box T x) t p af :: rest) Q ρ w := box H hx hdn h
theorem bxS (H : Hp w0 w L F) {x : Operand} {T : TypeId} {A : Option Addr} {l c : Nat} (hx : ev ρ x = .slice A l c) (hdn : Nat.blt d n = true)
    (h : ∀ w' b, Hp w0 w' ((b, .cells #[.slice A l c] T) :: L) F → LW P n ops rest Q (upd ρ d (.pointer (some ⟨b, 0, none⟩))) w') : LW P n ops (O d (.box T x) t p af :: rest) Q ρ w := box H hx hdn h
end
end Go.Eng
end

section
namespace Go.Eng
open Go Go.RowKit
theorem ofInt_nat (k : IntKind) (a : Nat) : BitVec.ofInt k.bits (a : Int) = BitVec.ofNat k.bits a := by
  apply BitVec.eq_of_toNat_eq
  simp
theorem wrapN {n : Nat} (h : n ≤ 9000000000000000000) : IntKind.i64.wrap (n : Int) = n := wrapI (by omega) (by omega)
theorem wrap8 {n : Nat} (h : n < 256) : IntKind.u8.wrap (n : Int) = n := by
  simp [IntKind.wrap, IntKind.signed, IntKind.bits]
  omega
theorem and_lt {a b m : Nat} (h : a < m) : a &&& b < m := Nat.lt_of_le_of_lt Nat.and_le_left h
section
variable {P : Program} {n : Nat} {Q : Post} {ρ : Env} {w : World} {ops : Array Oper} {rest : List Oper} {d : Nat} {t : TypeId} {p : String} {af : Array Edge} {g : Option (Nat × Bool)} {dst : Option Nat}
theorem and_r {x y : Operand} {ty ty' : TypeId} {a b : Nat} (hx : ev ρ x = .int .i64 a) (hy : ev ρ y = .int .i64 b) (ha : a < 4611686018427387904) (hb : b < 4611686018427387904) : (execOp (ev ρ) (Og dst (.binOp .and ty x y ty') t p af g)).run P w = .ok (.value (.int .i64 (a &&& b : Nat))) w := by
  have ea : a % 2 ^ IntKind.i64.bits = a := Nat.mod_eq_of_lt (Nat.lt_of_lt_of_le ha (by decide))
  have eb : b % 2 ^ IntKind.i64.bits = b := Nat.mod_eq_of_lt (Nat.lt_of_lt_of_le hb (by decide))
  have hlt : a &&& b < 4611686018427387904 := and_lt ha
  have ew : IntKind.i64.wrap ((a &&& b : Nat) : Int) = (a &&& b : Nat) := wrapN (by omega)
  simp only [execOp, hx, hy, eqGuard, binOp, Op.intBits, Sem.run_bind, Sem.run_pure]
  simp [ea, eb, ew]
theorem or_r {x y : Operand} {ty ty' : TypeId} {a b : Nat} (hx : ev ρ x = .int .i64 a) (hy : ev ρ y = .int .i64 b) (ha : a < 4611686018427387904) (hb : b < 4611686018427387904) : (execOp (ev ρ) (Og dst (.binOp .or ty x y ty') t p af g)).run P w = .ok (.value (.int .i64 (a ||| b : Nat))) w := by
  have ea : a % 2 ^ IntKind.i64.bits = a := Nat.mod_eq_of_lt (Nat.lt_of_lt_of_le ha (by decide))
  have eb : b % 2 ^ IntKind.i64.bits = b := Nat.mod_eq_of_lt (Nat.lt_of_lt_of_le hb (by decide))
  have hlt : a ||| b < 2 ^ 62 := Nat.or_lt_two_pow (by omega) (by omega)
  have ew : IntKind.i64.wrap ((a ||| b : Nat) : Int) = (a ||| b : Nat) := wrapN (by omega)
  simp only [execOp, hx, hy, eqGuard, binOp, Op.intBits, Sem.run_bind, Sem.run_pure]
  simp [ea, eb, ew]
theorem and8_r {x y : Operand} {ty ty' : TypeId} {a b : Nat} (hx : ev ρ x = .int .u8 a) (hy : ev ρ y = .int .u8 b) (ha : a < 256) (hb : b < 256) : (execOp (ev ρ) (Og dst (.binOp .and ty x y ty') t p af g)).run P w = .ok (.value (.int .u8 (a &&& b : Nat))) w := by
  have ea : a % 2 ^ IntKind.u8.bits = a := Nat.mod_eq_of_lt (Nat.lt_of_lt_of_le ha (by decide))
  have eb : b % 2 ^ IntKind.u8.bits = b := Nat.mod_eq_of_lt (Nat.lt_of_lt_of_le hb (by decide))
  
  have ew : IntKind.u8.wrap ((a &&& b : Nat) : Int) = (a &&& b : Nat) := wrap8 (and_lt ha)
  simp only [execOp, hx, hy, eqGuard, binOp, Op.intBits, Sem.run_bind, Sem.run_pure]
  simp [ea, eb, ew]
theorem shr_r {x y : Operand} {ty ty' : TypeId} {a b : Nat} {k : IntKind} (hx : ev ρ x = .int .i64 a) (hy : ev ρ y = .int k b) (hb : b ≤ 64) : (execOp (ev ρ) (Og dst (.binOp .shr ty x y ty') t p af g)).run P w = .ok (.value (.int .i64 (a / 2 ^ b : Nat))) w := by
  have e : (a : Int).fdiv (2 ^ b) = ((a / 2 ^ b : Nat) : Int) := by
    rw [Int.fdiv_eq_ediv_of_nonneg _ (Int.le_of_lt (Int.pow_pos (by decide)))]
    simp
  simp only [execOp, hx, hy, eqGuard, binOp, Op.shift, Sem.run_bind, Sem.run_pure]
  simp [e, Nat.min_eq_left (show b ≤ IntKind.i64.bits from hb)]
  intro h; omega
theorem shl_r {x y : Operand} {ty ty' : TypeId} {a b : Nat} {k : IntKind} (hx : ev ρ x = .int .i64 a) (hy : ev ρ y = .int k b) (hb : b ≤ 64) (hm : a * 2 ^ b ≤ 9000000000000000000) : (execOp (ev ρ) (Og dst (.binOp .shl ty x y ty') t p af g)).run P w = .ok (.value (.int .i64 (a * 2 ^ b : Nat))) w := by
  have e : IntKind.i64.wrap ((a : Int) * 2 ^ b) = ((a * 2 ^ b : Nat) : Int) := by
    have : (a : Int) * 2 ^ b = ((a * 2 ^ b : Nat) : Int) := by simp
    rw [this, wrapN hm]
  simp only [execOp, hx, hy, eqGuard, binOp, Op.shift, Sem.run_bind, Sem.run_pure]
  simp [Nat.min_eq_left (show b ≤ IntKind.i64.bits from hb), e]
  intro h; omega
/-- an operation of one value, in a region in its order -/
theorem l1 {o : Oper} {v : Value} (hr : (execOp (ev ρ) o).run P w = .ok (.value v) w) (hg : o.guard = none) (hd : o.dst = some d) (hdn : Nat.blt d n = true) (h : LW P n ops rest Q (upd ρ d v) w) : LW P n ops (o :: rest) Q ρ w := lw_val hg hd hdn hr h

variable {w0 : World} {F : List Fact}
/-- append(s, text...), s not nil -/
theorem apT {T U : TypeId} {e : TypeId} (hT : apB P T e 1 1 = true) (hU : strB P U = true) {Y : Lay UInt8} (hY : Y.sz = 1) (hYf : ∀ s : ByteArray, Y.all s.data.toList = Lib.strCells s) {K L M : List (Nat × Obj)} (H : Hp w0 w (K ++ L ++ M) F) {v : Value} {es : List UInt8} (ho : Own Y v e es L) (hne : es ≠ []) {s x : Operand} {tx : ByteArray}
    (hs : ev ρ s = v) (hx : ev ρ x = .string tx) (hb : es.length + tx.size ≤ 140737488355328) (hdn : Nat.blt d n = true)
    (h : ∀ A cp w' L', (es ++ tx.data.toList).length ≤ cp → cp ≤ maxLen → Own Y (.slice A (es ++ tx.data.toList).length cp) e (es ++ tx.data.toList) L' → Hp w0 w' (K ++ L' ++ M) F → LW P n ops rest Q (upd ρ d (.slice A (es ++ tx.data.toList).length cp)) w') :
    LW P n ops (O d (.call { callee := .builtin .append, args := #[s, x], argTypes := #[T, U] }) t p af :: rest) Q ρ w := by
  obtain ⟨i, z, h1, h2, h3, h4, h5, h6, h7, -⟩ := ap_of hT
  have hu : P.underlying U = some .string := by
    unfold strB at hU
    split at hU
    · assumption
    · cases hU
  have hsz : tx.data.toList.length = tx.size := by rw [Array.length_toList]; rfl
  have h63 : es.length + tx.size ≤ maxLen := by simp only [maxLen]; omega
  obtain ⟨hxl, ho'⟩ := ho
  rw [hY] at hxl
  have hlen : (es ++ tx.data.toList).length = es.length + tx.size := by rw [List.length_append, hsz]
  have hall : Y.all (es ++ tx.data.toList) = Y.all es ++ Lib.strCells tx := by rw [Lay.all_append, hYf]
  rcases ho' with ⟨_, hn, _⟩ | ⟨g, cap, cur, rfl, rfl, hnc, hcm, hcs, htake⟩
  · exact absurd (List.eq_nil_of_length_eq_zero hn) hne
  rw [hY] at hcs htake
  have hg : w.heap[g]? = some (.cells cur e (0, 0)) := H.ent (i := K.length) (by simp)
  have fin : ∀ A cp w' L', es.length + tx.size ≤ cp → cp ≤ maxLen → (Builtin.append_ #[T, U] t #[.slice (some ⟨g, 0, none⟩) es.length cap, .string tx]).run P w = .ok (.slice A (es.length + tx.size) cp) w' →
      OwnE (.slice A (es.length + tx.size) cp) e 1 (es.length + tx.size) (Y.all es ++ Lib.strCells tx) L' → Hp w0 w' (K ++ L' ++ M) F →
      LW P n ops (O d (.call { callee := .builtin .append, args := #[s, x], argTypes := #[T, U] }) t p af :: rest) Q ρ w := by
    intro A cp w' L' hc1 hc2 hr hOw hH
    refine lw_val rfl rfl hdn ?_ (h A cp w' L' (by rw [hlen]; exact hc1) hc2 (by unfold Own; rw [hlen, hall, hY]; exact hOw) hH)
    rw [hlen]
    simp [execOp, resolve, invoke, builtin, hs, hx, hr]
  have hcl : (Y.all es ++ Lib.strCells tx).length = (es.length + tx.size) * 1 := by rw [List.length_append, hxl, Lib.strCells_length]; omega
  by_cases hroom : es.length + tx.size ≤ cap
  · have hr := Lib.run_append_room_string (P := P) w T U t e i h1 hu h2 h4 g es.length cap cur hg tx hroom (by omega)
    have hH := H.put (i := K.length) (b := g) (o := .cells cur e) (by simp) (o' := .cells (cur.toList.take es.length ++ Lib.strCells tx ++ cur.toList.drop (es.length + tx.size)).toArray e) (w' := w.setRow g (cur.toList.take es.length ++ Lib.strCells tx ++ cur.toList.drop (es.length + tx.size)).toArray) (setRow_heap w g cur _ e _ hg) (by simp [World.setRow]) rfl rfl rfl (fun k hk => setRow_other w g k _ hk)
    refine fin _ _ _ [(g, .cells (cur.toList.take es.length ++ Lib.strCells tx ++ cur.toList.drop (es.length + tx.size)).toArray e (0, 0))] hroom hcm hr ⟨hcl, .inr ⟨g, cap, _, rfl, rfl, hroom, hcm, ?_, ?_⟩⟩ (by simpa using hH)
    · have := Lib.strCells_length tx
      simp only [List.size_toArray, List.length_append, List.length_take, List.length_drop, Array.length_toList]
      omega
    · rw [Nat.mul_one] at htake
      rw [htake, ← hcl]
      exact List.take_left
  · have holds : ∀ j u, (Y.all es)[j]? = some u → w.cell? ((⟨g, 0, none⟩ : Addr).add j) = some u := fun j u hj => by
      rw [Addr.add_lit, Nat.zero_add]
      refine cellE hg ?_
      rw [← htake, List.getElem?_take] at hj
      split at hj
      · simpa using hj
      · cases hj
    have hr := Lib.run_append_grow_string (P := P) w T U t e i z h1 hu h2 h3 ⟨g, 0, none⟩ es.length cap (Y.all es) (by rw [hxl, h4]) holds tx (by omega) (by omega) (growslice_fits (by omega) (by rw [h5]; omega))
    have hge := grownCap_ge w (es.length + tx.size) cap e
    refine fin _ _ _ _ hge (grownCap_le_maxLen w _ cap e h63) hr ⟨hcl, .inr ⟨_, _, _, rfl, rfl, hge, grownCap_le_maxLen w _ cap e h63, ?_, ?_⟩⟩ (H.dropIn.addIn ((Below.refl _ _).drew.alloc (Nat.le_refl _) _) (heap_alloc_new w.drew _) (Nat.le_refl _))
    · simp only [Array.size_append, List.size_toArray, size_zeroCells, h6, hxl, Lib.strCells_length]
      omega
    · simp only [Array.toList_append]
      rw [← hcl]
      exact List.take_left
end
end Go.Eng
end

section
namespace Go.Eng
open Go Go.RowKit
def enumV : List Value → Nat → List (Nat × Value)
  | [], _ => []
  | v :: r, k => (k, v) :: enumV r (k + 1)
def flatV (vs : List Value) : List Value := vs.flatMap fun v => v.cells.toList
theorem foldl_set (off : Nat) : ∀ (l : List Value) (k : Nat) (cs : Array Value), off + k + l.length ≤ cs.size →
    ((l.zipIdx k).foldl (fun cs (q : Value × Nat) => cs.setIfInBounds (off + q.2) q.1) cs) = (cs.toList.take (off + k) ++ l ++ cs.toList.drop (off + k + l.length)).toArray
  | [], k, cs, _ => by simp
  | v :: r, k, cs, h => by
    simp only [List.length_cons] at h
    simp only [List.zipIdx_cons, List.foldl_cons]
    rw [foldl_set off r (k + 1) _ (by simp; omega)]
    congr 1
    simp only [Array.toList_setIfInBounds, List.length_cons]
    have e := list_seg_step cs.toList (off + k) v r (by simp; omega)
    have e1 : off + (k + 1) = off + k + 1 := by omega
    rw [e1]
    simpa [Nat.add_assoc] using e
theorem fill_enum {sz : Nat} : ∀ (vs : List Value) (k : Nat) (cs : Array Value), (∀ v ∈ vs, v.cells.size = sz) → k * sz + vs.length * sz ≤ cs.size →
    Instr.fill (fun i => some (i * sz, sz)) cs (enumV vs k) = some (cs.toList.take (k * sz) ++ flatV vs ++ cs.toList.drop (k * sz + vs.length * sz)).toArray
  | [], k, cs, _, _ => by simp [enumV, Instr.fill, flatV]
  | v :: r, k, cs, hv, hs => by
    have hv0 := hv v (List.mem_cons_self ..)
    simp only [List.length_cons, Nat.add_mul, Nat.one_mul] at hs
    have hl : v.cells.toList.length = sz := by simpa using hv0
    simp only [enumV, Instr.fill]
    rw [if_neg (show ¬ ((decide (v.cells.size ≠ sz) || decide (k * sz + v.cells.size > cs.size)) = true) by simp [hv0]; omega)]
    have hz : v.cells.zipIdx.foldl (fun cs x => match x with | (c, j) => cs.setIfInBounds (k * sz + j) c) cs = (cs.toList.take (k * sz) ++ v.cells.toList ++ cs.toList.drop (k * sz + sz)).toArray := by
      rw [← Array.foldl_toList, Array.toList_zipIdx]
      have := foldl_set (k * sz) v.cells.toList 0 cs (by rw [hl]; omega)
      rw [hl] at this
      simpa using this
    rw [hz]
    have hlen : (cs.toList.take (k * sz) ++ v.cells.toList ++ cs.toList.drop (k * sz + sz)).length = cs.size := by
      simp only [List.length_append, List.length_take, List.length_drop, Array.length_toList, hv0]; omega
    rw [fill_enum r (k + 1) _ (fun u hu => hv u (List.mem_cons_of_mem _ hu)) (by simp only [List.size_toArray, hlen, Nat.add_mul, Nat.one_mul]; omega)]
    have hA : (cs.toList.take (k * sz) ++ v.cells.toList).length = (k + 1) * sz := by
      simp only [List.length_append, List.length_take, Array.length_toList, hv0, Nat.add_mul, Nat.one_mul]; omega
    have e1 : (cs.toList.take (k * sz) ++ v.cells.toList ++ cs.toList.drop (k * sz + sz)).take ((k + 1) * sz) = cs.toList.take (k * sz) ++ v.cells.toList := List.take_left' hA
    have e2 : (cs.toList.take (k * sz) ++ v.cells.toList ++ cs.toList.drop (k * sz + sz)).drop ((k + 1) * sz + r.length * sz) = cs.toList.drop (k * sz + (r.length + 1) * sz) := by
      rw [List.drop_append, List.drop_of_length_le (by rw [hA]; omega), List.nil_append, hA, List.drop_drop]
      congr 1
      simp only [Nat.add_mul, Nat.one_mul]; omega
    rw [List.length_cons, e1, e2]
    simp only [flatV, List.flatMap_cons, List.append_assoc]
theorem sl0 {ρ : Env} : ∀ p ∈ ([] : List (Nat × Value)), ρ p.1 = p.2 := by simp
theorem slc {ρ : Env} {a : Nat} {v : Value} {l : List (Nat × Value)} (h : ρ a = v) (h2 : ∀ p ∈ l, ρ p.1 = p.2) : ∀ p ∈ (a, v) :: l, ρ p.1 = p.2 := List.forall_mem_cons.2 ⟨h, h2⟩
theorem sl1 {ρ : Env} {a : Nat} {v : Value} (h : ρ a = v) : ∀ p ∈ [(a, v)], ρ p.1 = p.2 := slc h sl0
theorem sl2 {ρ : Env} {a a2 : Nat} {v v2 : Value} (h : ρ a = v) (h2 : ρ a2 = v2) : ∀ p ∈ [(a, v), (a2, v2)], ρ p.1 = p.2 := slc h (sl1 h2)
theorem sl3 {ρ : Env} {a a2 a3 : Nat} {v v2 v3 : Value} (h : ρ a = v) (h2 : ρ a2 = v2) (h3 : ρ a3 = v3) : ∀ p ∈ [(a, v), (a2, v2), (a3, v3)], ρ p.1 = p.2 := slc h (sl2 h2 h3)
theorem sl4 {ρ : Env} {a a2 a3 a4 : Nat} {v v2 v3 v4 : Value} (h : ρ a = v) (h2 : ρ a2 = v2) (h3 : ρ a3 = v3) (h4 : ρ a4 = v4) : ∀ p ∈ [(a, v), (a2, v2), (a3, v3), (a4, v4)], ρ p.1 = p.2 := slc h (sl3 h2 h3 h4)
section
variable {P : Program} {n : Nat} {Q : Post} {ρ : Env} {w : World} {ops : Array Oper} {rest : List Oper} {d : Nat} {t : TypeId} {p : String} {af : Array Edge}
variable {w0 : World} {L : List (Nat × Obj)} {F : List Fact}
theorem fill_all {sz len : Nat} {z : Array Value} {vs : List Value} (hl : vs.length = len) (hv : ∀ v ∈ vs, v.cells.size = sz) :
    Instr.fill (fun i => some (i * sz, sz)) ((Array.range (len * sz)).map (z[· % z.size]!)) (enumV vs 0) = some (flatV vs).toArray := by
  have := fill_enum vs 0 ((Array.range (len * sz)).map (z[· % z.size]!)) hv (by simp [hl])
  rw [this]
  congr 2
  simp [hl]
/-- a slice that is written out: vs are its elements -/
theorem bsv (H : Hp w0 w L F) {T E sz len : Nat} {parts : List (Nat × Operand)} {z : Value} {vs : List Value} (hT : sliceB P T E sz = true) (hz : (P.info? E).bind (·.zero) = some z) (hp : (parts.map fun q => (q.1, ev ρ q.2)) = enumV vs 0) (hl : Nat.beq vs.length len = true) (hv : (vs.all fun v => Nat.beq v.cells.size sz) = true) (hn : Nat.blt 0 (len * sz) = true) (hm : Nat.ble (len * sz) 16777216 = true) (hdn : Nat.blt d n = true)
    (h : ∀ w' b, Hp w0 w' ((b, .cells (flatV vs).toArray E) :: L) F → LW P n ops rest Q (upd ρ d (.slice (some ⟨b, 0, none⟩) len len)) w') : LW P n ops (O d (.buildSlice T len parts.toArray) t p af :: rest) Q ρ w :=
  bsl H hT hz hn hm (by rw [hp]; exact fill_all (Nat.eq_of_beq_eq_true hl) (fun v hv' => Nat.eq_of_beq_eq_true (List.all_eq_true.1 hv v hv'))) hdn h
end
end Go.Eng
end

section
namespace Go.Eng
open Go Go.RowKit
theorem toList_inj {a b : ByteArray} : a.toList = b.toList ↔ a = b := by
  rw [ByteArray.toList_eq, ByteArray.toList_eq]
  obtain ⟨⟨x⟩⟩ := a
  obtain ⟨⟨y⟩⟩ := b
  simp
theorem toList_beq (a b : ByteArray) : (a.toList == b.toList) = decide (a = b) := by
  rw [Bool.eq_iff_iff]
  simp [toList_inj]
section
variable {P : Program} {n : Nat} {Q : Post} {ρ : Env} {w : World} {ops : Array Oper} {rest : List Oper} {d : Nat} {t : TypeId} {p : String} {af : Array Edge} {g : Option (Nat × Bool)} {dst : Option Nat}
theorem seql_r {x y : Operand} {ty ty' : TypeId} {a b : ByteArray} (hx : ev ρ x = .string a) (hy : ev ρ y = .string b) : (execOp (ev ρ) (Og dst (.binOp .eql ty x y ty') t p af g)).run P w = .ok (.value (.bool (decide (a = b)))) w := by
  simp [execOp, hx, hy, eqGuard, binOp, Op.stringOp, toList_beq]
theorem sneq_r {x y : Operand} {ty ty' : TypeId} {a b : ByteArray} (hx : ev ρ x = .string a) (hy : ev ρ y = .string b) : (execOp (ev ρ) (Og dst (.binOp .neq ty x y ty') t p af g)).run P w = .ok (.value (.bool (!decide (a = b)))) w := by
  simp [execOp, hx, hy, eqGuard, binOp, Op.stringOp, toList_beq]
theorem seqlT_r {x y : Operand} {ty ty' : TypeId} {a b : ByteArray} (hx : ev ρ x = .string a) (hy : ev ρ y = .string b) (h : a = b) : (execOp (ev ρ) (Og dst (.binOp .eql ty x y ty') t p af g)).run P w = .ok (.value (.bool true)) w := by rw [seql_r hx hy]; simp [h]
theorem seqlF_r {x y : Operand} {ty ty' : TypeId} {a b : ByteArray} (hx : ev ρ x = .string a) (hy : ev ρ y = .string b) (h : ¬ a = b) : (execOp (ev ρ) (Og dst (.binOp .eql ty x y ty') t p af g)).run P w = .ok (.value (.bool false)) w := by rw [seql_r hx hy]; simp [h]
theorem sneqT_r {x y : Operand} {ty ty' : TypeId} {a b : ByteArray} (hx : ev ρ x = .string a) (hy : ev ρ y = .string b) (h : ¬ a = b) : (execOp (ev ρ) (Og dst (.binOp .neq ty x y ty') t p af g)).run P w = .ok (.value (.bool true)) w := by rw [sneq_r hx hy]; simp [h]
theorem sneqF_r {x y : Operand} {ty ty' : TypeId} {a b : ByteArray} (hx : ev ρ x = .string a) (hy : ev ρ y = .string b) (h : a = b) : (execOp (ev ρ) (Og dst (.binOp .neq ty x y ty') t p af g)).run P w = .ok (.value (.bool false)) w := by rw [sneq_r hx hy]; simp [h]
end
end Go.Eng
end

section
namespace Go.Eng
open Go Go.RowKit
theorem Hp.perm {w0 w : World} {L L' : List (Nat × Obj)} {F : List Fact} (H : Hp w0 w L F) (hp : L'.Perm L) : Hp w0 w L' F :=
  ⟨H.below, fun e he => H.ents e (hp.mem_iff.1 he), (hp.map _).nodup_iff.2 H.nodup, fun f hf => by
    obtain ⟨a, b, c⟩ := H.facts f hf
    exact ⟨a, b, fun e he => c e (hp.mem_iff.1 he)⟩⟩
theorem Hp.swap {w0 w : World} {a b : Nat × Obj} {L : List (Nat × Obj)} {F : List Fact} (H : Hp w0 w (a :: b :: L) F) : Hp w0 w (b :: a :: L) F := H.perm (List.Perm.swap _ _ _)
/-- the own row is given away: it is read only from here on -/
theorem Own.rd' {α : Type} {Y : Lay α} {e : TypeId} {es : List α} {L K M : List (Nat × Obj)} {w0 w : World} {F : List Fact} {A : Option Addr} {n c : Nat} (h : Own Y (.slice A n c) e es L) (H : Hp w0 w (K ++ L ++ M) F) : Rd Y w0.heap.size w.heap.size A es w := h.rd H
end Go.Eng
end

section
namespace Go.Eng
open Go Go.RowKit
def structB (P : Program) (T : TypeId) (pl : List (Nat × Nat)) : Bool := match P.underlying T with
  | some (.struct fs) => decide (fs.toList.map (fun f => (f.offset, (P.info? f.type).map (·.size))) = pl.map fun q => (q.1, some q.2))
  | _ => false
theorem struct_places {P : Program} : ∀ (l : List Field) (pl : List (Nat × Nat)) (w : World), l.map (fun f => (f.offset, (P.info? f.type).map (·.size))) = pl.map (fun q => (q.1, some q.2)) →
    (l.mapM (fun f => Prod.mk f.offset <$> sizeOf f.type)).run P w = .ok pl w
  | [], [], w, _ => by simp
  | [], _ :: _, _, h => by simp at h
  | _ :: _, [], _, h => by simp at h
  | f :: l, q :: pl, w, h => by
    simp only [List.map_cons, List.cons.injEq, Prod.mk.injEq] at h
    obtain ⟨⟨h1, h2⟩, h3⟩ := h
    cases hi : P.info? f.type with
    | none => rw [hi] at h2; cases h2
    | some i =>
      rw [hi] at h2
      simp only [Option.map_some, Option.some.injEq] at h2
      have := struct_places l pl w h3
      simp [run_size hi, h1, h2, this]
section
variable {P : Program} {n : Nat} {Q : Post} {ρ : Env} {w : World} {ops : Array Oper} {rest : List Oper} {d : Nat} {t : TypeId} {p : String} {af : Array Edge} {g : Option (Nat × Bool)} {dst : Option Nat}
theorem bld_r {T : TypeId} {pl : List (Nat × Nat)} {z : Value} {parts : List (Nat × Operand)} {cs : Array Value} (hT : structB P T pl = true) (hz : (P.info? T).bind (·.zero) = some z)
    (hf : Instr.fill (fun i => pl[i]?) z.cells (parts.map fun q => (q.1, ev ρ q.2)) = some cs) : (execOp (ev ρ) (Og dst (.build T parts.toArray) t p af g)).run P w = .ok (.value (.agg cs)) w := by
  unfold structB at hT
  split at hT
  · rename_i fs hu
    have hp := struct_places (P := P) fs.toList pl w (of_decide_eq_true hT)
    cases hii : P.info? T with
    | none => rw [hii] at hz; cases hz
    | some ii =>
      rw [hii] at hz
      simp only [Option.bind_some] at hz
      simp [execOp, Instr.build, run_underlying hu, run_typeInfo hii, zeroValue, hz, Array.mapM_eq_mapM_toList, hp, hf]
  · cases hT
/-- the bytes of a row as a string -/
theorem cvBT_r {x : Operand} {S T e : TypeId} {A : Option Addr} {l : List UInt8} {m c : Nat} {lo hi : Nat} {Y : Lay UInt8} (hS : sliceB P S e 1 = true) (he : intB P e .u8 = true) (hT : strB P T = true) (hx : ev ρ x = .slice A m c) (hm : m = l.length) (hY : ∀ c : UInt8, Y.f c = [.int .u8 c.toNat]) (hr : Rd Y lo hi A l w) :
    (execOp (ev ρ) (Og dst (.convert S T x) t p af g)).run P w = .ok (.value (.string ⟨l.toArray⟩)) w := by
  obtain ⟨hS1, -, -⟩ := slice_of hS
  have he1 : P.underlying e = some (.int .u8) := by
    unfold intB at he
    split at he
    · rename_i k hk; rw [hk, of_decide_eq_true he]
    · cases he
  have hT1 : P.underlying T = some .string := by
    unfold strB at hT
    split at hT
    · assumption
    · cases hT
  subst hm
  have hall : ∀ l, Y.all l = (l.map fun c => Value.int .u8 c.toNat) := fun l => by
    unfold Lay.all
    induction l with
    | nil => rfl
    | cons a l ih =>
      rw [List.flatMap_cons, hY, ih]
      rfl
  have key : (convert S T (.slice A l.length c)).run P w = .ok (.string ⟨l.toArray⟩) w := by
    cases A with
    | none =>
      have : l = [] := by
        cases l with
        | nil => rfl
        | cons a l => obtain ⟨b, o, h, _⟩ := hr (by simp); cases h
      subst this
      exact run_convert_bytes_nil w S e hS1 he1 _ _ T hT1
    | some a =>
      have hl : (loadCells a l.length).run P w = .ok ((l.map fun c => (c.toNat : Int)).map (Value.int .u8)).toArray w := by
        have := run_loadCells_list (P := P) w a (l.map fun c => Value.int .u8 c.toNat) (fun j v hj => by
          have hjl : j < l.length := by
            have := (List.getElem?_eq_some_iff.1 hj).1
            simpa using this
          obtain ⟨b, o, h, _, _, hc⟩ := hr (by omega)
          cases h
          rw [Addr.add_lit]
          exact hc j v (by rw [hall]; exact hj))
        rw [List.length_map] at this
        rw [this]
        simp
      rw [run_convert_bytes_string w S T e _ l.length c hS1 he1 hT1, run_bytesToString w a l.length c _ hl, foldl_push_bytes]
      have e : l.map ((fun n : Int => UInt8.ofNat n.toNat) ∘ fun c : UInt8 => (c.toNat : Int)) = l := by simp [Function.comp_def]
      simp [ByteArray.empty, ByteArray.emptyWithCapacity, e]
      rfl
  simp [execOp, hx, key]
theorem finCT {fn : Func} {R : Value → World → Prop} {a u T sz b : Nat} {cs : Array Value} {tt : TypeId} {fr : Nat × Nat} {v2 : Value} (h : fn.results = #[.cell a T, .tmp u]) (hT : aggB P T sz = true) (ha : ρ a = .pointer (some ⟨b, 0, none⟩)) (hb : w.heap[b]? = some (.cells cs tt fr)) (hs : cs.size = sz) (hv2 : ρ u = v2) (hR : R (.tuple #[.agg cs, v2]) w) : Fin P fn R .ret ρ w :=
  ⟨_, fun ac hac => by
    have hl := run_loadAgg (P := P) (w := w) (a := ⟨b, 0, none⟩) (xs := cs.toList) hT (by simpa using hs) (fun j v hj => by rw [Addr.add_lit, Nat.zero_add]; exact cellE hb (by simpa using hj))
    have h1 := hac.get a
    rw [ha, Array.getD_eq_getD_getElem?] at h1
    rw [← hv2, ← hac.get u]
    simp [results, h, h1, asAddr, hl], hR⟩
end
end Go.Eng
end

section
namespace Go.Eng
open Go Go.RowKit
theorem Hp.adoptNew {w0 w w' : World} {L : List (Nat × Obj)} {F : List Fact} (H : Hp w0 w L F) (hw : Below w.heap.size w w') {b : Nat} {o : Obj} (hb : w'.heap[b]? = some o) (hge : w.heap.size ≤ b) : Hp w0 w' ((b, o) :: L) F := H.addIn (K := []) hw hb hge
section
variable {P : Program} {n : Nat} {Q : Post} {ρ : Env} {w : World} {ops : Array Oper} {rest : List Oper} {d : Nat} {t : TypeId} {p : String} {af : Array Edge} {g : Option (Nat × Bool)} {dst : Option Nat}
theorem ldW_r {x : Operand} {T sz b : Nat} {cs : Array Value} {tt : TypeId} {fr : Nat × Nat} (hT : aggB P T sz = true) (hx : ev ρ x = .pointer (some ⟨b, 0, none⟩)) (hb : w.heap[b]? = some (.cells cs tt fr)) (hs : cs.size = sz) : (execOp (ev ρ) (Og dst (.load T x) t p af g)).run P w = .ok (.value (.agg cs)) w := by
  have := ldA_r (P := P) (dst := dst) (t := t) (p := p) (af := af) (g := g) (w := w) (xs := cs.toList) hT hx (by simpa using hs) (fun j v hj => by rw [Nat.zero_add]; exact cellE hb (by simpa using hj))
  exact this
end
end Go.Eng
end

section
namespace Go.Eng
open Go Go.RowKit
/-- the cells of two structs of one type, all of whose fields are one cell each, and are compared by what they hold -/
def cmpB (P : Program) : Nat → List Field → List Value → List Value → Bool
  | _, [], [], [] => true
  | k, f :: fs, a :: l, b :: l' => decide (f.name ≠ "_") && Nat.beq f.offset k && oneB P f.type && (match P.underlying f.type, a, b with
      | some (.int _), .int k _, .int k' _ => decide (k = k')
      | some .bool, .bool _, .bool _ => true
      | some .string, .string _, .string _ => true
      | _, _, _ => false) && cmpB P (k + 1) fs l l'
  | _, _, _, _ => false
section
variable {P : Program} {w : World}
theorem run_part_one {T : TypeId} {cs : Array Value} {o : Nat} {v : Value} (hT : oneB P T = true) (hv : cs[o]? = some v) : (part T cs o).run P w = .ok v w := by
  obtain ⟨h1, -⟩ := one_isAgg (w := w) hT
  simp only [part, Sem.run_bind, h1, Result.andThen_ok]
  simp [hv]
theorem run_cmp (d : Nat) : ∀ (fs : List Field) (k : Nat) (pre pre' l l' : List Value), pre.length = k → pre'.length = k → cmpB P k fs l l' = true →
    ∃ r : Bool, (Op.eqFields (d + 1) (pre ++ l).toArray (pre' ++ l').toArray fs).run P w = .ok r w ∧ (r = true ↔ l = l')
  | [], k, pre, pre', l, l', _, _, h => by
    cases l with
    | nil => cases l' with
      | nil => exact ⟨true, by simp [Op.eqFields], by simp⟩
      | cons b l' => simp [cmpB] at h
    | cons a l => cases l' <;> simp [cmpB] at h
  | f :: fs, k, pre, pre', l, l', hp, hp', h => by
    cases l with
    | nil => cases l' <;> simp [cmpB] at h
    | cons a l => cases l' with
      | nil => simp [cmpB] at h
      | cons b l' =>
        simp only [cmpB, Bool.and_eq_true] at h
        obtain ⟨⟨⟨⟨h1, h2⟩, h3⟩, h4⟩, h5⟩ := h
        have hn : f.name ≠ "_" := of_decide_eq_true h1
        have ho : f.offset = k := Nat.eq_of_beq_eq_true h2
        obtain ⟨r, hr, hrl⟩ := run_cmp d fs (k + 1) (pre ++ [a]) (pre' ++ [b]) l l' (by simp [hp]) (by simp [hp']) h5
        simp only [List.append_assoc, List.singleton_append] at hr
        have ga : (pre ++ a :: l).toArray[f.offset]? = some a := by rw [ho, ← hp]; simp
        have gb : (pre' ++ b :: l').toArray[f.offset]? = some b := by rw [ho, ← hp']; simp
        have key : ∃ s : Bool, (Op.equalIn (d + 1) f.type a b).run P w = .ok s w ∧ (s = true ↔ a = b) := by
          split at h4
          · rename_i u k k' m m' hu
            have hk := of_decide_eq_true h4
            subst hk
            exact ⟨_, run_equalIn_int w d f.type k _ _ _ hu, by simp⟩
          · rename_i u m m' hu
            exact ⟨_, run_equalIn_bool' w d f.type _ _ hu, by simp⟩
          · rename_i u m m' hu
            exact ⟨_, run_equalIn_string w d f.type _ _ hu, by simp [toList_inj]⟩
          · cases h4
        obtain ⟨s, hs, hsl⟩ := key
        unfold Op.eqFields
        rw [if_pos hn]
        simp only [Sem.run_bind, run_part_one h3 ga, run_part_one h3 gb, hs, Result.andThen_ok]
        cases s with
        | false => exact ⟨false, by simp, by simp at hsl; simp [hsl]⟩
        | true =>
          have := hsl.1 rfl
          subst this
          exact ⟨r, by simpa using hr, by simpa using hrl⟩
theorem run_agg_eq {T : TypeId} {xs ys : List Value} {r : Bool} (hT : P.underlying T = some (.struct (P.fieldsOf T))) (hp : P.stoodInHeld T = false) (hc : cmpB P 0 (P.fieldsOf T).toList xs ys = true) (hr : r = true ↔ xs = ys) :
    (Op.equalIn 10000 T (.agg xs.toArray) (.agg ys.toArray)).run P w = .ok r w := by
  obtain ⟨r', h1, h2⟩ := run_cmp (P := P) (w := w) 9998 (P.fieldsOf T).toList 0 [] [] xs ys rfl rfl hc
  have e : r = r' := by rw [Bool.eq_iff_iff, hr, h2]
  rw [run_equalIn_struct w 9999 T _ _ hT hp, e]
  exact h1
variable {n : Nat} {ρ : Env} {t : TypeId} {p : String} {af : Array Edge} {g : Option (Nat × Bool)} {dst : Option Nat}
theorem aeql_r {x y : Operand} {T ty' : TypeId} {xs ys : List Value} {r : Bool} (hT : P.underlying T = some (.struct (P.fieldsOf T))) (hp : P.stoodInHeld T = false) (hm : P.eqGuardType P.depth T = false) (hx : ev ρ x = .agg xs.toArray) (hy : ev ρ y = .agg ys.toArray) (hc : cmpB P 0 (P.fieldsOf T).toList xs ys = true) (hr : r = true ↔ xs = ys) :
    (execOp (ev ρ) (Og dst (.binOp .eql T x y ty') t p af g)).run P w = .ok (.value (.bool r)) w := by
  simp only [execOp, hx, hy, Sem.run_bind, run_eqGuard_agg w .eql T x y _ _ hm, Result.andThen_ok, run_eql_struct, run_agg_eq hT hp hc hr]
  rfl
theorem aneq_r {x y : Operand} {T ty' : TypeId} {xs ys : List Value} {r : Bool} (hT : P.underlying T = some (.struct (P.fieldsOf T))) (hp : P.stoodInHeld T = false) (hm : P.eqGuardType P.depth T = false) (hx : ev ρ x = .agg xs.toArray) (hy : ev ρ y = .agg ys.toArray) (hc : cmpB P 0 (P.fieldsOf T).toList xs ys = true) (hr : r = true ↔ xs = ys) :
    (execOp (ev ρ) (Og dst (.binOp .neq T x y ty') t p af g)).run P w = .ok (.value (.bool (!r))) w := by
  simp only [execOp, hx, hy, Sem.run_bind, run_eqGuard_agg w .neq T x y _ _ hm, Result.andThen_ok, run_neq_struct, run_agg_eq hT hp hc hr]
  rfl
theorem sadd_r {x y : Operand} {T ty' : TypeId} {a b : ByteArray} (hx : ev ρ x = .string a) (hy : ev ρ y = .string b) (hb : a.size + b.size ≤ 1000000) : (execOp (ev ρ) (Og dst (.binOp .add T x y ty') t p af g)).run P w = .ok (.value (.string (a ++ b))) w := by
  simp [execOp, hx, hy, eqGuard, binOp, Op.stringOp]
  omega
end
end Go.Eng
end

section
namespace Go.Eng
open Go Go.RowKit
theorem wrapF {n : Int} (h1 : -9223372036854775808 ≤ n) (h2 : n ≤ 9223372036854775807) : IntKind.i64.wrap n = n := by
  simp [IntKind.wrap, IntKind.signed, IntKind.bits]
  omega
section
variable {P : Program} {w : World} {ρ : Env} {t : TypeId} {p : String} {af : Array Edge} {g : Option (Nat × Bool)} {dst : Option Nat}
theorem addF_r {x y : Operand} {ty ty' : TypeId} {a b : Int} (hx : ev ρ x = .int .i64 a) (hy : ev ρ y = .int .i64 b) (h1 : -9223372036854775808 ≤ a + b) (h2 : a + b ≤ 9223372036854775807) : (execOp (ev ρ) (Og dst (.binOp .add ty x y ty') t p af g)).run P w = .ok (.value (.int .i64 (a + b))) w := by
  simp [execOp, hx, hy, eqGuard, binOp, Op.intArith, wrapF h1 h2]
theorem negF_r {x : Operand} {ty : TypeId} {a : Int} (hx : ev ρ x = .int .i64 a) (h1 : -9223372036854775808 ≤ -a) (h2 : -a ≤ 9223372036854775807) : (execOp (ev ρ) (Og dst (.unOp .neg ty x) t p af g)).run P w = .ok (.value (.int .i64 (-a))) w := by
  simp [execOp, hx, Op.unary, Op.intArith, wrapF h1 h2]
end
end Go.Eng
end
