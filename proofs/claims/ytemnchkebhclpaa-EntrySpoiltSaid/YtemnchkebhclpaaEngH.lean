/- EngH: a part of the proofs over this seat: what stands in its theorems holds for every input that they name. -/
import Derived.Test.YtemnchkebhclpaaEngG
import Derived.Laws.Pointers
namespace Go.Eng
open Go Go.RowKit
section
variable {P : Program} {n : Nat} {Q : Post} {ρ : Env} {w : World} {ops : Array Oper} {rest : List Oper} {d : Nat} {t : TypeId} {p : String} {af : Array Edge} {g : Option (Nat × Bool)} {dst : Option Nat}
theorem mvI_r {x : Operand} {k : IntKind} {i : Int} (hx : ev ρ x = .int k i) : (execOp (ev ρ) (Og dst (.move x) t p af g)).run P w = .ok (.value (.int k i)) w := mv_r hx
theorem mvB_r {x : Operand} {b : Bool} (hx : ev ρ x = .bool b) : (execOp (ev ρ) (Og dst (.move x) t p af g)).run P w = .ok (.value (.bool b)) w := mv_r hx
theorem mvS_r {x : Operand} {A : Option Addr} {l c : Nat} (hx : ev ρ x = .slice A l c) : (execOp (ev ρ) (Og dst (.move x) t p af g)).run P w = .ok (.value (.slice A l c)) w := mv_r hx
theorem mvP_r {x : Operand} {A : Option Addr} (hx : ev ρ x = .pointer A) : (execOp (ev ρ) (Og dst (.move x) t p af g)).run P w = .ok (.value (.pointer A)) w := mv_r hx
theorem mvT_r {x : Operand} {s : ByteArray} (hx : ev ρ x = .string s) : (execOp (ev ρ) (Og dst (.move x) t p af g)).run P w = .ok (.value (.string s)) w := mv_r hx
theorem mvA_r {x : Operand} {c : Array Value} (hx : ev ρ x = .agg c) : (execOp (ev ρ) (Og dst (.move x) t p af g)).run P w = .ok (.value (.agg c)) w := mv_r hx
theorem mvU_r {x : Operand} {c : Array Value} (hx : ev ρ x = .tuple c) : (execOp (ev ρ) (Og dst (.move x) t p af g)).run P w = .ok (.value (.tuple c)) w := mv_r hx
theorem mvM_r {x : Operand} {c : Option Nat} (hx : ev ρ x = .map c) : (execOp (ev ρ) (Og dst (.move x) t p af g)).run P w = .ok (.value (.map c)) w := mv_r hx
theorem asI_r {x : Operand} {k : IntKind} {i : Int} (hx : ev ρ x = .int k i) : (execOp (ev ρ) (Og dst (.assign x) t p af g)).run P w = .ok (.value (.int k i)) w := as_r hx
theorem asB_r {x : Operand} {b : Bool} (hx : ev ρ x = .bool b) : (execOp (ev ρ) (Og dst (.assign x) t p af g)).run P w = .ok (.value (.bool b)) w := as_r hx
theorem asS_r {x : Operand} {A : Option Addr} {l c : Nat} (hx : ev ρ x = .slice A l c) : (execOp (ev ρ) (Og dst (.assign x) t p af g)).run P w = .ok (.value (.slice A l c)) w := as_r hx
theorem asP_r {x : Operand} {A : Option Addr} (hx : ev ρ x = .pointer A) : (execOp (ev ρ) (Og dst (.assign x) t p af g)).run P w = .ok (.value (.pointer A)) w := as_r hx
theorem asT_r {x : Operand} {s : ByteArray} (hx : ev ρ x = .string s) : (execOp (ev ρ) (Og dst (.assign x) t p af g)).run P w = .ok (.value (.string s)) w := as_r hx
theorem asA_r {x : Operand} {c : Array Value} (hx : ev ρ x = .agg c) : (execOp (ev ρ) (Og dst (.assign x) t p af g)).run P w = .ok (.value (.agg c)) w := as_r hx
theorem asM_r {x : Operand} {c : Option Nat} (hx : ev ρ x = .map c) : (execOp (ev ρ) (Og dst (.assign x) t p af g)).run P w = .ok (.value (.map c)) w := as_r hx
theorem exI_r {x : Operand} {i : Nat} {vs : List Value} {k : IntKind} {m : Int} (hx : ev ρ x = .tuple vs.toArray) (hi : vs[i]? = some (.int k m)) : (execOp (ev ρ) (Og dst (.extract x i) t p af g)).run P w = .ok (.value (.int k m)) w := ex_r hx hi
theorem exB_r {x : Operand} {i : Nat} {vs : List Value} {m : Bool} (hx : ev ρ x = .tuple vs.toArray) (hi : vs[i]? = some (.bool m)) : (execOp (ev ρ) (Og dst (.extract x i) t p af g)).run P w = .ok (.value (.bool m)) w := ex_r hx hi
theorem exS_r {x : Operand} {i : Nat} {vs : List Value} {A : Option Addr} {l c : Nat} (hx : ev ρ x = .tuple vs.toArray) (hi : vs[i]? = some (.slice A l c)) : (execOp (ev ρ) (Og dst (.extract x i) t p af g)).run P w = .ok (.value (.slice A l c)) w := ex_r hx hi
theorem exT_r {x : Operand} {i : Nat} {vs : List Value} {s : ByteArray} (hx : ev ρ x = .tuple vs.toArray) (hi : vs[i]? = some (.string s)) : (execOp (ev ρ) (Og dst (.extract x i) t p af g)).run P w = .ok (.value (.string s)) w := ex_r hx hi
theorem exP_r {x : Operand} {i : Nat} {vs : List Value} {A : Option Addr} (hx : ev ρ x = .tuple vs.toArray) (hi : vs[i]? = some (.pointer A)) : (execOp (ev ρ) (Og dst (.extract x i) t p af g)).run P w = .ok (.value (.pointer A)) w := ex_r hx hi
theorem exA_r {x : Operand} {i : Nat} {vs : List Value} {c : Array Value} (hx : ev ρ x = .tuple vs.toArray) (hi : vs[i]? = some (.agg c)) : (execOp (ev ρ) (Og dst (.extract x i) t p af g)).run P w = .ok (.value (.agg c)) w := ex_r hx hi
theorem pkTI_r {c x y : Operand} {k : IntKind} {v : Int} (hc : ev ρ c = .bool true) (hx : ev ρ x = .int k v) : (execOp (ev ρ) (Og dst (.pick c x y) t p af g)).run P w = .ok (.value (.int k v)) w := pkT_r hc hx
theorem pkFI_r {c x y : Operand} {k : IntKind} {v : Int} (hc : ev ρ c = .bool false) (hx : ev ρ y = .int k v) : (execOp (ev ρ) (Og dst (.pick c x y) t p af g)).run P w = .ok (.value (.int k v)) w := pkF_r hc hx
theorem pkTB_r {c x y : Operand} {v : Bool} (hc : ev ρ c = .bool true) (hx : ev ρ x = .bool v) : (execOp (ev ρ) (Og dst (.pick c x y) t p af g)).run P w = .ok (.value (.bool v)) w := pkT_r hc hx
theorem pkFB_r {c x y : Operand} {v : Bool} (hc : ev ρ c = .bool false) (hx : ev ρ y = .bool v) : (execOp (ev ρ) (Og dst (.pick c x y) t p af g)).run P w = .ok (.value (.bool v)) w := pkF_r hc hx
theorem lenT_r {x : Operand} {T : TypeId} {s : ByteArray} (hT : strB P T = true) (hx : ev ρ x = .string s) : (execOp (ev ρ) (Og dst (.call { callee := .builtin .len, args := #[x], argTypes := #[T] }) t p af g)).run P w = .ok (.value (.int .i64 s.size)) w := by
  unfold strB at hT
  split at hT
  · rename_i hu
    simp [execOp, resolve, invoke, builtin, Builtin.len_, hx, run_underlying hu, goInt]
  · cases hT
theorem minI_r {x y : Operand} {T T' : TypeId} {k : IntKind} {a b : Int} (hx : ev ρ x = .int k a) (hy : ev ρ y = .int k b) : (execOp (ev ρ) (Og dst (.call { callee := .builtin .min, args := #[x, y], argTypes := #[T, T'] }) t p af g)).run P w = .ok (.value (.int k (min a b))) w := by
  simp [execOp, resolve, invoke, builtin, Builtin.min_, Builtin.min2, hx, hy, Int.min_def]
  split <;> split <;> omega
theorem maxI_r {x y : Operand} {T T' : TypeId} {k : IntKind} {a b : Int} (hx : ev ρ x = .int k a) (hy : ev ρ y = .int k b) : (execOp (ev ρ) (Og dst (.call { callee := .builtin .max, args := #[x, y], argTypes := #[T, T'] }) t p af g)).run P w = .ok (.value (.int k (max a b))) w := by
  simp [execOp, resolve, invoke, builtin, Builtin.max_, Builtin.max2, hx, hy, Int.max_def]
  split <;> split <;> omega
theorem mul_r {x y : Operand} {ty ty' : TypeId} {a b : Int} (hx : ev ρ x = .int .i64 a) (hy : ev ρ y = .int .i64 b) (h1 : -9000000000000000000 ≤ a * b) (h2 : a * b ≤ 9000000000000000000) : (execOp (ev ρ) (Og dst (.binOp .mul ty x y ty') t p af g)).run P w = .ok (.value (.int .i64 (a * b))) w := by simp [execOp, hx, hy, eqGuard, binOp, Op.intArith, wrapI h1 h2]
theorem rem_r {x y : Operand} {ty ty' : TypeId} {a b : Int} (hx : ev ρ x = .int .i64 a) (hy : ev ρ y = .int .i64 b) (h1 : 0 ≤ a) (h2 : 0 < b) : (execOp (ev ρ) (Og dst (.binOp .rem ty x y ty') t p af g)).run P w = .ok (.value (.int .i64 (a % b))) w := by
  have hb : b ≠ 0 := by omega
  simp [execOp, hx, hy, eqGuard, binOp, Op.intDiv, hb, Int.tmod_eq_emod_of_nonneg h1]
theorem quo_r {x y : Operand} {ty ty' : TypeId} {a b : Int} (hx : ev ρ x = .int .i64 a) (hy : ev ρ y = .int .i64 b) (h1 : 0 ≤ a) (h2 : 0 < b) (h3 : a ≤ 9000000000000000000) : (execOp (ev ρ) (Og dst (.binOp .quo ty x y ty') t p af g)).run P w = .ok (.value (.int .i64 (a / b))) w := by
  have hb : b ≠ 0 := by omega
  have hq : a / b ≤ a := Int.ediv_le_self b h1
  have hq0 : 0 ≤ a / b := Int.ediv_nonneg h1 (by omega)
  simp [execOp, hx, hy, eqGuard, binOp, Op.intDiv, hb, Int.tdiv_eq_ediv_of_nonneg h1]
  exact wrapI (by omega) (by omega)
theorem neg_r {x : Operand} {ty : TypeId} {a : Int} (hx : ev ρ x = .int .i64 a) (h1 : -9000000000000000000 ≤ -a) (h2 : -a ≤ 9000000000000000000) : (execOp (ev ρ) (Og dst (.unOp .neg ty x) t p af g)).run P w = .ok (.value (.int .i64 (-a))) w := by simp [execOp, hx, Op.unary, Op.intArith, wrapI h1 h2]
/-! pointers against nil -/
def ptrB (P : Program) (T : TypeId) : Bool := match P.underlying T with
  | some (.pointer _) => true
  | _ => false
theorem ptr_of {T : TypeId} (h : ptrB P T = true) : P.underlying T = some (.pointer (P.pointee T)) := by
  unfold ptrB at h
  split at h
  · rename_i e he
    rw [he]; simp [Program.pointee, he]
  · cases h
theorem peq_r {x : Operand} {ty ty' : TypeId} {A : Option Addr} (hT : ptrB P ty = true) (hx : ev ρ x = .pointer A) : (execOp (ev ρ) (Og dst (.binOp .eql ty x (.const (.pointer none)) ty') t p af g)).run P w = .ok (.value (.bool A.isNone)) w := by
  have := run_eql_pointer_nil (P := P) w ty A (ptr_of hT)
  have e : ev ρ (.const (.pointer none)) = .pointer none := rfl
  simp only [execOp, e, hx, eqGuard, Sem.run_bind, Sem.run_pure]
  simp [this]
theorem peqN_r {x : Operand} {ty ty' : TypeId} (hT : ptrB P ty = true) (hx : ev ρ x = .pointer none) : (execOp (ev ρ) (Og dst (.binOp .eql ty x (.const (.pointer none)) ty') t p af g)).run P w = .ok (.value (.bool true)) w := peq_r hT hx
theorem peqS_r {x : Operand} {ty ty' : TypeId} {a : Addr} (hT : ptrB P ty = true) (hx : ev ρ x = .pointer (some a)) : (execOp (ev ρ) (Og dst (.binOp .eql ty x (.const (.pointer none)) ty') t p af g)).run P w = .ok (.value (.bool false)) w := peq_r hT hx

/-! a value of two kinds: both ways -/
theorem lwD {o : Oper} {q : Prop} [Decidable q] (hr : (execOp (ev ρ) o).run P w = .ok (.value (.bool (decide q))) w) (hg : o.guard = none) (hd : o.dst = some d) (hdn : Nat.blt d n = true)
    (ht : q → LW P n ops rest Q (upd ρ d (.bool true)) w) (hf : ¬ q → LW P n ops rest Q (upd ρ d (.bool false)) w) : LW P n ops (o :: rest) Q ρ w := by
  refine l1 hr hg hd hdn ?_
  by_cases h : q
  · rw [decide_eq_true h]; exact ht h
  · rw [decide_eq_false h]; exact hf h
theorem lwND {o : Oper} {q : Prop} [Decidable q] (hr : (execOp (ev ρ) o).run P w = .ok (.value (.bool (!decide q))) w) (hg : o.guard = none) (hd : o.dst = some d) (hdn : Nat.blt d n = true)
    (ht : ¬ q → LW P n ops rest Q (upd ρ d (.bool true)) w) (hf : q → LW P n ops rest Q (upd ρ d (.bool false)) w) : LW P n ops (o :: rest) Q ρ w := by
  refine l1 hr hg hd hdn ?_
  by_cases h : q
  · rw [decide_eq_true h]; exact hf h
  · rw [decide_eq_false h]; exact ht h
theorem lwB {o : Oper} {b : Bool} (hr : (execOp (ev ρ) o).run P w = .ok (.value (.bool b)) w) (hg : o.guard = none) (hd : o.dst = some d) (hdn : Nat.blt d n = true)
    (ht : b = true → LW P n ops rest Q (upd ρ d (.bool true)) w) (hf : b = false → LW P n ops rest Q (upd ρ d (.bool false)) w) : LW P n ops (o :: rest) Q ρ w := by
  refine l1 hr hg hd hdn ?_
  cases b
  · exact hf rfl
  · exact ht rfl
theorem upd_same {v : Value} (h : ρ d = v) : upd ρ d v = ρ := by
  funext t
  unfold upd
  cases hb : Nat.beq t d
  · rfl
  · rw [Nat.eq_of_beq_eq_true hb, h]; rfl
/-- a slot that holds a bool: both ways -/
theorem lwCase (d : Nat) {b : Bool} (hb : ρ d = .bool b) (ht : b = true → LW P n ops rest Q (upd ρ d (.bool true)) w) (hf : b = false → LW P n ops rest Q (upd ρ d (.bool false)) w) : LW P n ops rest Q ρ w := by
  cases b
  · have := hf rfl; rwa [upd_same hb] at this
  · have := ht rfl; rwa [upd_same hb] at this
theorem lwCaseD (d : Nat) {q : Prop} [Decidable q] (hb : ρ d = .bool (decide q)) (ht : q → LW P n ops rest Q (upd ρ d (.bool true)) w) (hf : ¬ q → LW P n ops rest Q (upd ρ d (.bool false)) w) : LW P n ops rest Q ρ w :=
  lwCase d hb (fun h => ht (of_decide_eq_true h)) (fun h => hf (of_decide_eq_false h))
variable {C : Fct} {lo pu : List Nat} {spec : Nat → Value → Fct} {T : Env → Fct → Prop} {r : List Nat} {Fc : Fct} {i : Nat} {o : Oper}
theorem awD {q : Prop} [Decidable q] (hi : ops[i]? = some o) (hw : wantE ops ρ o = true) (hl : lo.contains i = false) (hd : o.dst = some d) (hdn : Nat.blt d n = true) (hr : ∀ w', (bif pu.contains i then True else C w') → (execOp (ev ρ) o).run P w' = .ok (.value (.bool (decide q))) w')
    (ht : q → AW P n ops C lo pu spec T r (upd ρ d (.bool true)) Fc) (hf : ¬ q → AW P n ops C lo pu spec T r (upd ρ d (.bool false)) Fc) : AW P n ops C lo pu spec T (i :: r) ρ Fc := by
  refine aw hi hw hl hd hdn hr ?_
  by_cases h : q
  · rw [decide_eq_true h]; exact ht h
  · rw [decide_eq_false h]; exact hf h
theorem awND {q : Prop} [Decidable q] (hi : ops[i]? = some o) (hw : wantE ops ρ o = true) (hl : lo.contains i = false) (hd : o.dst = some d) (hdn : Nat.blt d n = true) (hr : ∀ w', (bif pu.contains i then True else C w') → (execOp (ev ρ) o).run P w' = .ok (.value (.bool (!decide q))) w')
    (ht : ¬ q → AW P n ops C lo pu spec T r (upd ρ d (.bool true)) Fc) (hf : q → AW P n ops C lo pu spec T r (upd ρ d (.bool false)) Fc) : AW P n ops C lo pu spec T (i :: r) ρ Fc := by
  refine aw hi hw hl hd hdn hr ?_
  by_cases h : q
  · rw [decide_eq_true h]; exact hf h
  · rw [decide_eq_false h]; exact ht h
theorem awB {b : Bool} (hi : ops[i]? = some o) (hw : wantE ops ρ o = true) (hl : lo.contains i = false) (hd : o.dst = some d) (hdn : Nat.blt d n = true) (hr : ∀ w', (bif pu.contains i then True else C w') → (execOp (ev ρ) o).run P w' = .ok (.value (.bool b)) w')
    (ht : b = true → AW P n ops C lo pu spec T r (upd ρ d (.bool true)) Fc) (hf : b = false → AW P n ops C lo pu spec T r (upd ρ d (.bool false)) Fc) : AW P n ops C lo pu spec T (i :: r) ρ Fc := by
  refine aw hi hw hl hd hdn hr ?_
  cases b
  · exact hf rfl
  · exact ht rfl
theorem awCase (d : Nat) {l : List Nat} {b : Bool} (hb : ρ d = .bool b) (ht : b = true → AW P n ops C lo pu spec T l (upd ρ d (.bool true)) Fc) (hf : b = false → AW P n ops C lo pu spec T l (upd ρ d (.bool false)) Fc) : AW P n ops C lo pu spec T l ρ Fc := by
  cases b
  · have := hf rfl; rwa [upd_same hb] at this
  · have := ht rfl; rwa [upd_same hb] at this
end
section
variable {P : Program} {n : Nat} {Q : Post} {ρ : Env} {w w0 : World} {ops : Array Oper} {rest : List Oper} {d : Nat} {t : TypeId} {p : String} {af : Array Edge} {g : Option (Nat × Bool)} {dst : Option Nat} {L : List (Nat × Obj)} {F : List Fact}
variable {α : Type} {Y : Lay α}
/-- an element of a row that reads as es -/
structure El (Y : Lay α) (es : List α) (k : Nat) (w : World) (b o : Nat) (e : α) : Prop where
  at_ : es[k]? = some e
  lt : b < w.heap.size
  cl : ∀ j u, (Y.f e)[j]? = some u → w.cell? ⟨b, o + j, none⟩ = some u
theorem El.later {es : List α} {k b o : Nat} {e : α} {w' : World} (h : El Y es k w b o e) (hw : Aft w w') (j : Nat) (u : Value) (hj : (Y.f e)[j]? = some u) : w'.cell? ⟨b, o + j, none⟩ = some u :=
  (hw.cell (p := ⟨b, _, none⟩) h.lt).trans (h.cl j u hj)
theorem Rd.el {lo hi : Nat} {es : List α} {A : Option Addr} (hR : Rd Y lo hi A es w) (hhi : hi ≤ w.heap.size) {k : Nat} (hk : k < es.length) : ∃ b o e, A = some ⟨b, o, none⟩ ∧ El Y es k w b (o + k * Y.sz) e := by
  obtain ⟨b, o, hA, -, h2, hc⟩ := hR.at_ hk
  exact ⟨b, o, _, hA, ⟨List.getElem?_eq_getElem hk, by omega, hc⟩⟩
theorem ixF {lo hi : Nat} {es : List α} {A : Option Addr} (H : Hp w0 w L F) (i : Nat) (hF : F[i]? = some (FRd Y lo hi A es)) {x y : Operand} {T E l c k : Nat} {kd : IntKind} (hT : sliceB P T E Y.sz = true) (hx : ev ρ x = .slice A l c) (hy : ev ρ y = .int kd k) (h1 : k < es.length) (h2 : k < l) (hdn : Nat.blt d n = true)
    (h : ∀ b o e, El Y es k w b o e → LW P n ops rest Q (upd ρ d (.pointer (some ⟨b, o, none⟩))) w) : LW P n ops (O d (.indexAddr T x y) t p af :: rest) Q ρ w := by
  obtain ⟨b, o, e, rfl, he⟩ := Rd.el (H.fact hF) (H.facts _ (List.mem_of_getElem? hF)).2.1 h1
  exact ixa hT hx hy (by omega) (by omega) hdn (h b _ e (by simpa using he))
variable {C : Fct} {lo' pu : List Nat} {spec : Nat → Value → Fct} {TT : Env → Fct → Prop} {r : List Nat} {Fc : Fct} {ii : Nat}
theorem awIxF {lo hi : Nat} {es : List α} {A : Option Addr} (H : Hp w0 w L F) (i : Nat) (hF : F[i]? = some (FRd Y lo hi A es)) {x y : Operand} {T E l c k : Nat} {kd : IntKind} (hi' : ops[ii]? = some (Og (some d) (.indexAddr T x y) t p af g)) (hw : wantE ops ρ (Og (some d) (.indexAddr T x y) t p af g) = true) (hl : lo'.contains ii = false) (hdn : Nat.blt d n = true)
    (hT : sliceB P T E Y.sz = true) (hx : ev ρ x = .slice A l c) (hy : ev ρ y = .int kd k) (h1 : k < es.length) (h2 : k < l)
    (h : ∀ b o e, El Y es k w b o e → AW P n ops C lo' pu spec TT r (upd ρ d (.pointer (some ⟨b, o, none⟩))) Fc) : AW P n ops C lo' pu spec TT (ii :: r) ρ Fc := by
  obtain ⟨b, o, e, rfl, he⟩ := Rd.el (H.fact hF) (H.facts _ (List.mem_of_getElem? hF)).2.1 h1
  exact aw hi' hw hl rfl hdn (fun _ _ => ixa_r hT hx hy (by omega) (by omega)) (h b _ e (by simpa using he))
end
end Go.Eng
