/- GB: a part of the proofs over this seat: what stands in its theorems holds for every input that they name. -/
import Derived.Test.YtemnchkebhclpaaGA
import Derived.Laws.Pointers
import Derived.Laws.Runes
import Derived.Maps.RangeRun
import Derived.Lib.AppendZeros
section
namespace Go.Eng
open Go Go.RowKit
section
variable {P : Program} {n : Nat} {Q : Post} {ρ : Env} {w : World} {ops : Array Oper} {rest : List Oper} {d : Nat} {t : TypeId} {p : String} {af : Array Edge} {g : Option (Nat × Bool)} {dst : Option Nat}
theorem mvI_r {x : Operand} {k : IntKind} {i : Int} (hx : ev ρ x = .int k i) : (execOp (ev ρ) (Og dst (.move x) t p af g)).run P w = .ok (.value (.int k i)) w := mv_r hx
theorem mvB_r {x : Operand} {b : Bool} (hx : ev ρ x = .bool b) : (execOp (ev ρ) (Og dst (.move x) t p af g)).run P w = .ok (.value (.bool b)) w := mv_r hx
theorem mvS_r {x : Operand} {A : Option Addr} {l c : Nat} (hx : ev ρ x = .slice A l c) : (execOp (ev ρ) (Og dst (.move x) t p af g)).run P w = .ok (.value (.slice A l c)) w := mv_r hx
theorem mvP_r {x : Operand} {A : Option Addr} (hx : ev ρ x = .pointer A) : (execOp (ev ρ) (Og dst (.move x) t p af g)).run P w = .ok (.value (.pointer A)) w := mv_r hx
theorem mvT_r {x : Operand} {s : ByteArray} (hx : ev ρ x = .string s) : (execOp (ev ρ) (Og dst (.move x) t p af g)).run P w = .ok (.value (.string s)) w := mv_r hx
theorem mvA_r {x : Operand} {c : Array Value} (hx : ev ρ x = .agg c) : (execOp (ev ρ) (Og dst (.move x) t p af g)).run P w = .ok (.value (.agg c)) w := mv_r hx
theorem mvU_r {x : Operand} {c : Array Value} (hx : ev ρ x = .tuple c) : (execOp (ev ρ) (Og dst (.move x) t p af g)).run P w = .ok (.value (.tuple c)) w := mv_r hx
theorem mvM_r {x : Operand} {c : Option Nat} (hx : ev ρ x = .map c) : (execOp (ev ρ) (Og dst (.move x) t p af g)).run P w = .ok (.value (.map c)) w := mv_r hx
theorem asI_r {x : Operand} {k : IntKind} {i : Int} (hx : ev ρ x = .int k i) : (execOp (ev ρ) (Og dst (.assign x) t p af g)).run P w = .ok (.value (.int k i)) w := as_r hx
theorem asB_r {x : Operand} {b : Bool} (hx : ev ρ x = .bool b) : (execOp (ev ρ) (Og dst (.assign x) t p af g)).run P w = .ok (.value (.bool b)) w := as_r hx
theorem asS_r {x : Operand} {A : Option Addr} {l c : Nat} (hx : ev ρ x = .slice A l c) : (execOp (ev ρ) (Og dst (.assign x) t p af g)).run P w = .ok (.value (.slice A l c)) w := as_r hx
theorem asP_r {x : Operand} {A : Option Addr} (hx : ev ρ x = .pointer A) : (execOp (ev ρ) (Og dst (.assign x) t p af g)).run P w = .ok (.value (.pointer A)) w := as_r hx
theorem asT_r {x : Operand} {s : ByteArray} (hx : ev ρ x = .string s) : (execOp (ev ρ) (Og dst (.assign x) t p af g)).run P w = .ok (.value (.string s)) w := as_r hx
theorem asA_r {x : Operand} {c : Array Value} (hx : ev ρ x = .agg c) : (execOp (ev ρ) (Og dst (.assign x) t p af g)).run P w = .ok (.value (.agg c)) w := as_r hx
theorem asM_r {x : Operand} {c : Option Nat} (hx : ev ρ x = .map c) : (execOp (ev ρ) (Og dst (.assign x) t p af g)).run P w = .ok (.value (.map c)) w := as_r hx
theorem exI_r {x : Operand} {i : Nat} {vs : List Value} {k : IntKind} {m : Int} (hx : ev ρ x = .tuple vs.toArray) (hi : vs[i]? = some (.int k m)) : (execOp (ev ρ) (Og dst (.extract x i) t p af g)).run P w = .ok (.value (.int k m)) w := ex_r hx hi
theorem exB_r {x : Operand} {i : Nat} {vs : List Value} {m : Bool} (hx : ev ρ x = .tuple vs.toArray) (hi : vs[i]? = some (.bool m)) : (execOp (ev ρ) (Og dst (.extract x i) t p af g)).run P w = .ok (.value (.bool m)) w := ex_r hx hi
theorem exS_r {x : Operand} {i : Nat} {vs : List Value} {A : Option Addr} {l c : Nat} (hx : ev ρ x = .tuple vs.toArray) (hi : vs[i]? = some (.slice A l c)) : (execOp (ev ρ) (Og dst (.extract x i) t p af g)).run P w = .ok (.value (.slice A l c)) w := ex_r hx hi
theorem exT_r {x : Operand} {i : Nat} {vs : List Value} {s : ByteArray} (hx : ev ρ x = .tuple vs.toArray) (hi : vs[i]? = some (.string s)) : (execOp (ev ρ) (Og dst (.extract x i) t p af g)).run P w = .ok (.value (.string s)) w := ex_r hx hi
theorem exP_r {x : Operand} {i : Nat} {vs : List Value} {A : Option Addr} (hx : ev ρ x = .tuple vs.toArray) (hi : vs[i]? = some (.pointer A)) : (execOp (ev ρ) (Og dst (.extract x i) t p af g)).run P w = .ok (.value (.pointer A)) w := ex_r hx hi
theorem exA_r {x : Operand} {i : Nat} {vs : List Value} {c : Array Value} (hx : ev ρ x = .tuple vs.toArray) (hi : vs[i]? = some (.agg c)) : (execOp (ev ρ) (Og dst (.extract x i) t p af g)).run P w = .ok (.value (.agg c)) w := ex_r hx hi
theorem pkTI_r {c x y : Operand} {k : IntKind} {v : Int} (hc : ev ρ c = .bool true) (hx : ev ρ x = .int k v) : (execOp (ev ρ) (Og dst (.pick c x y) t p af g)).run P w = .ok (.value (.int k v)) w := pkT_r hc hx
theorem pkFI_r {c x y : Operand} {k : IntKind} {v : Int} (hc : ev ρ c = .bool false) (hx : ev ρ y = .int k v) : (execOp (ev ρ) (Og dst (.pick c x y) t p af g)).run P w = .ok (.value (.int k v)) w := pkF_r hc hx
theorem pkTB_r {c x y : Operand} {v : Bool} (hc : ev ρ c = .bool true) (hx : ev ρ x = .bool v) : (execOp (ev ρ) (Og dst (.pick c x y) t p af g)).run P w = .ok (.value (.bool v)) w := pkT_r hc hx
theorem pkFB_r {c x y : Operand} {v : Bool} (hc : ev ρ c = .bool false) (hx : ev ρ y = .bool v) : (execOp (ev ρ) (Og dst (.pick c x y) t p af g)).run P w = .ok (.value (.bool v)) w := pkF_r hc hx
theorem lenT_r {x : Operand} {T : TypeId} {s : ByteArray} (hT : strB P T = true) (hx : ev ρ x = .string s) : (execOp (ev ρ) (Og dst (.call { callee := .builtin .len, args := #[x], argTypes := #[T] }) t p af g)).run P w = .ok (.value (.int .i64 s.size)) w := by
  unfold strB at hT
  split at hT
  · rename_i hu
    simp [execOp, resolve, invoke, builtin, Builtin.len_, hx, run_underlying hu, goInt]
  · cases hT
theorem minI_r {x y : Operand} {T T' : TypeId} {k : IntKind} {a b : Int} (hx : ev ρ x = .int k a) (hy : ev ρ y = .int k b) : (execOp (ev ρ) (Og dst (.call { callee := .builtin .min, args := #[x, y], argTypes := #[T, T'] }) t p af g)).run P w = .ok (.value (.int k (min a b))) w := by
  simp [execOp, resolve, invoke, builtin, Builtin.min_, Builtin.min2, hx, hy, Int.min_def]
  split <;> split <;> omega
theorem maxI_r {x y : Operand} {T T' : TypeId} {k : IntKind} {a b : Int} (hx : ev ρ x = .int k a) (hy : ev ρ y = .int k b) : (execOp (ev ρ) (Og dst (.call { callee := .builtin .max, args := #[x, y], argTypes := #[T, T'] }) t p af g)).run P w = .ok (.value (.int k (max a b))) w := by
  simp [execOp, resolve, invoke, builtin, Builtin.max_, Builtin.max2, hx, hy, Int.max_def]
  split <;> split <;> omega
theorem mul_r {x y : Operand} {ty ty' : TypeId} {a b : Int} (hx : ev ρ x = .int .i64 a) (hy : ev ρ y = .int .i64 b) (h1 : -9000000000000000000 ≤ a * b) (h2 : a * b ≤ 9000000000000000000) : (execOp (ev ρ) (Og dst (.binOp .mul ty x y ty') t p af g)).run P w = .ok (.value (.int .i64 (a * b))) w := by simp [execOp, hx, hy, eqGuard, binOp, Op.intArith, wrapI h1 h2]
theorem rem_r {x y : Operand} {ty ty' : TypeId} {a b : Int} (hx : ev ρ x = .int .i64 a) (hy : ev ρ y = .int .i64 b) (h1 : 0 ≤ a) (h2 : 0 < b) : (execOp (ev ρ) (Og dst (.binOp .rem ty x y ty') t p af g)).run P w = .ok (.value (.int .i64 (a % b))) w := by
  have hb : b ≠ 0 := by omega
  simp [execOp, hx, hy, eqGuard, binOp, Op.intDiv, hb, Int.tmod_eq_emod_of_nonneg h1]
theorem quo_r {x y : Operand} {ty ty' : TypeId} {a b : Int} (hx : ev ρ x = .int .i64 a) (hy : ev ρ y = .int .i64 b) (h1 : 0 ≤ a) (h2 : 0 < b) (h3 : a ≤ 9000000000000000000) : (execOp (ev ρ) (Og dst (.binOp .quo ty x y ty') t p af g)).run P w = .ok (.value (.int .i64 (a / b))) w := by
  have hb : b ≠ 0 := by omega
  have hq : a / b ≤ a := Int.ediv_le_self b h1
  have hq0 : 0 ≤ a / b := Int.ediv_nonneg h1 (by omega)
  simp [execOp, hx, hy, eqGuard, binOp, Op.intDiv, hb, Int.tdiv_eq_ediv_of_nonneg h1]
  exact wrapI (by omega) (by omega)
theorem neg_r {x : Operand} {ty : TypeId} {a : Int} (hx : ev ρ x = .int .i64 a) (h1 : -9000000000000000000 ≤ -a) (h2 : -a ≤ 9000000000000000000) : (execOp (ev ρ) (Og dst (.unOp .neg ty x) t p af g)).run P w = .ok (.value (.int .i64 (-a))) w := by simp [execOp, hx, Op.unary, Op.intArith, wrapI h1 h2]
/-! pointers against nil -/
def ptrB (P : Program) (T : TypeId) : Bool := match P.underlying T with
  | some (.pointer _) => true
  | _ => false
theorem ptr_of {T : TypeId} (h : ptrB P T = true) : P.underlying T = some (.pointer (P.pointee T)) := by
  unfold ptrB at h
  split at h
  · rename_i e he
    rw [he]; simp [Program.pointee, he]
  · cases h
theorem peq_r {x : Operand} {ty ty' : TypeId} {A : Option Addr} (hT : ptrB P ty = true) (hx : ev ρ x = .pointer A) : (execOp (ev ρ) (Og dst (.binOp .eql ty x (.const (.pointer none)) ty') t p af g)).run P w = .ok (.value (.bool A.isNone)) w := by
  have := run_eql_pointer_nil (P := P) w ty A (ptr_of hT)
  have e : ev ρ (.const (.pointer none)) = .pointer none := rfl
  simp only [execOp, e, hx, eqGuard, Sem.run_bind, Sem.run_pure]
  simp [this]
theorem peqN_r {x : Operand} {ty ty' : TypeId} (hT : ptrB P ty = true) (hx : ev ρ x = .pointer none) : (execOp (ev ρ) (Og dst (.binOp .eql ty x (.const (.pointer none)) ty') t p af g)).run P w = .ok (.value (.bool true)) w := peq_r hT hx
theorem peqS_r {x : Operand} {ty ty' : TypeId} {a : Addr} (hT : ptrB P ty = true) (hx : ev ρ x = .pointer (some a)) : (execOp (ev ρ) (Og dst (.binOp .eql ty x (.const (.pointer none)) ty') t p af g)).run P w = .ok (.value (.bool false)) w := peq_r hT hx

/-! a value of two kinds: both ways -/
theorem lwD {o : Oper} {q : Prop} [Decidable q] (hr : (execOp (ev ρ) o).run P w = .ok (.value (.bool (decide q))) w) (hg : o.guard = none) (hd : o.dst = some d) (hdn : Nat.blt d n = true)
    (ht : q → LW P n ops rest Q (upd ρ d (.bool true)) w) (hf : ¬ q → LW P n ops rest Q (upd ρ d (.bool false)) w) : LW P n ops (o :: rest) Q ρ w := by
  refine l1 hr hg hd hdn ?_
  by_cases h : q
  · rw [decide_eq_true h]; exact ht h
  · rw [decide_eq_false h]; exact hf h
theorem lwND {o : Oper} {q : Prop} [Decidable q] (hr : (execOp (ev ρ) o).run P w = .ok (.value (.bool (!decide q))) w) (hg : o.guard = none) (hd : o.dst = some d) (hdn : Nat.blt d n = true)
    (ht : ¬ q → LW P n ops rest Q (upd ρ d (.bool true)) w) (hf : q → LW P n ops rest Q (upd ρ d (.bool false)) w) : LW P n ops (o :: rest) Q ρ w := by
  refine l1 hr hg hd hdn ?_
  by_cases h : q
  · rw [decide_eq_true h]; exact hf h
  · rw [decide_eq_false h]; exact ht h
theorem lwB {o : Oper} {b : Bool} (hr : (execOp (ev ρ) o).run P w = .ok (.value (.bool b)) w) (hg : o.guard = none) (hd : o.dst = some d) (hdn : Nat.blt d n = true)
    (ht : b = true → LW P n ops rest Q (upd ρ d (.bool true)) w) (hf : b = false → LW P n ops rest Q (upd ρ d (.bool false)) w) : LW P n ops (o :: rest) Q ρ w := by
  refine l1 hr hg hd hdn ?_
  cases b
  · exact hf rfl
  · exact ht rfl
theorem upd_same {v : Value} (h : ρ d = v) : upd ρ d v = ρ := by
  funext t
  unfold upd
  cases hb : Nat.beq t d
  · rfl
  · rw [Nat.eq_of_beq_eq_true hb, h]; rfl
/-- a slot that holds a bool: both ways -/
theorem lwCase (d : Nat) {b : Bool} (hb : ρ d = .bool b) (ht : b = true → LW P n ops rest Q (upd ρ d (.bool true)) w) (hf : b = false → LW P n ops rest Q (upd ρ d (.bool false)) w) : LW P n ops rest Q ρ w := by
  cases b
  · have := hf rfl; rwa [upd_same hb] at this
  · have := ht rfl; rwa [upd_same hb] at this
theorem lwCaseD (d : Nat) {q : Prop} [Decidable q] (hb : ρ d = .bool (decide q)) (ht : q → LW P n ops rest Q (upd ρ d (.bool true)) w) (hf : ¬ q → LW P n ops rest Q (upd ρ d (.bool false)) w) : LW P n ops rest Q ρ w :=
  lwCase d hb (fun h => ht (of_decide_eq_true h)) (fun h => hf (of_decide_eq_false h))
variable {C : Fct} {lo pu : List Nat} {spec : Nat → Value → Fct} {T : Env → Fct → Prop} {r : List Nat} {Fc : Fct} {i : Nat} {o : Oper}
theorem awD {q : Prop} [Decidable q] (hi : ops[i]? = some o) (hw : wantE ops ρ o = true) (hl : lo.contains i = false) (hd : o.dst = some d) (hdn : Nat.blt d n = true) (hr : ∀ w', (bif pu.contains i then True else C w') → (execOp (ev ρ) o).run P w' = .ok (.value (.bool (decide q))) w')
    (ht : q → AW P n ops C lo pu spec T r (upd ρ d (.bool true)) Fc) (hf : ¬ q → AW P n ops C lo pu spec T r (upd ρ d (.bool false)) Fc) : AW P n ops C lo pu spec T (i :: r) ρ Fc := by
  refine aw hi hw hl hd hdn hr ?_
  by_cases h : q
  · rw [decide_eq_true h]; exact ht h
  · rw [decide_eq_false h]; exact hf h
theorem awND {q : Prop} [Decidable q] (hi : ops[i]? = some o) (hw : wantE ops ρ o = true) (hl : lo.contains i = false) (hd : o.dst = some d) (hdn : Nat.blt d n = true) (hr : ∀ w', (bif pu.contains i then True else C w') → (execOp (ev ρ) o).run P w' = .ok (.value (.bool (!decide q))) w')
    (ht : ¬ q → AW P n ops C lo pu spec T r (upd ρ d (.bool true)) Fc) (hf : q → AW P n ops C lo pu spec T r (upd ρ d (.bool false)) Fc) : AW P n ops C lo pu spec T (i :: r) ρ Fc := by
  refine aw hi hw hl hd hdn hr ?_
  by_cases h : q
  · rw [decide_eq_true h]; exact hf h
  · rw [decide_eq_false h]; exact ht h
theorem awB {b : Bool} (hi : ops[i]? = some o) (hw : wantE ops ρ o = true) (hl : lo.contains i = false) (hd : o.dst = some d) (hdn : Nat.blt d n = true) (hr : ∀ w', (bif pu.contains i then True else C w') → (execOp (ev ρ) o).run P w' = .ok (.value (.bool b)) w')
    (ht : b = true → AW P n ops C lo pu spec T r (upd ρ d (.bool true)) Fc) (hf : b = false → AW P n ops C lo pu spec T r (upd ρ d (.bool false)) Fc) : AW P n ops C lo pu spec T (i :: r) ρ Fc := by
  refine aw hi hw hl hd hdn hr ?_
  cases b
  · exact hf rfl
  · exact ht rfl
theorem awCase (d : Nat) {l : List Nat} {b : Bool} (hb : ρ d = .bool b) (ht : b = true → AW P n ops C lo pu spec T l (upd ρ d (.bool true)) Fc) (hf : b = false → AW P n ops C lo pu spec T l (upd ρ d (.bool false)) Fc) : AW P n ops C lo pu spec T l ρ Fc := by
  cases b
  · have := hf rfl; rwa [upd_same hb] at this
  · have := ht rfl; rwa [upd_same hb] at this
end
section
variable {P : Program} {n : Nat} {Q : Post} {ρ : Env} {w w0 : World} {ops : Array Oper} {rest : List Oper} {d : Nat} {t : TypeId} {p : String} {af : Array Edge} {g : Option (Nat × Bool)} {dst : Option Nat} {L : List (Nat × Obj)} {F : List Fact}
variable {α : Type} {Y : Lay α}
/-- an element of a row that reads as es -/
structure El (Y : Lay α) (es : List α) (k : Nat) (w : World) (b o : Nat) (e : α) : Prop where
  at_ : es[k]? = some e
  lt : b < w.heap.size
  cl : ∀ j u, (Y.f e)[j]? = some u → w.cell? ⟨b, o + j, none⟩ = some u
theorem El.later {es : List α} {k b o : Nat} {e : α} {w' : World} (h : El Y es k w b o e) (hw : Aft w w') (j : Nat) (u : Value) (hj : (Y.f e)[j]? = some u) : w'.cell? ⟨b, o + j, none⟩ = some u :=
  (hw.cell (p := ⟨b, _, none⟩) h.lt).trans (h.cl j u hj)
theorem Rd.el {lo hi : Nat} {es : List α} {A : Option Addr} (hR : Rd Y lo hi A es w) (hhi : hi ≤ w.heap.size) {k : Nat} (hk : k < es.length) : ∃ b o e, A = some ⟨b, o, none⟩ ∧ El Y es k w b (o + k * Y.sz) e := by
  obtain ⟨b, o, hA, -, h2, hc⟩ := hR.at_ hk
  exact ⟨b, o, _, hA, ⟨List.getElem?_eq_getElem hk, by omega, hc⟩⟩
theorem ixF {lo hi : Nat} {es : List α} {A : Option Addr} (H : Hp w0 w L F) (i : Nat) (hF : F[i]? = some (FRd Y lo hi A es)) {x y : Operand} {T E l c k : Nat} {kd : IntKind} (hT : sliceB P T E Y.sz = true) (hx : ev ρ x = .slice A l c) (hy : ev ρ y = .int kd k) (h1 : k < es.length) (h2 : k < l) (hdn : Nat.blt d n = true)
    (h : ∀ b o e, El Y es k w b o e → LW P n ops rest Q (upd ρ d (.pointer (some ⟨b, o, none⟩))) w) : LW P n ops (O d (.indexAddr T x y) t p af :: rest) Q ρ w := by
  obtain ⟨b, o, e, rfl, he⟩ := Rd.el (H.fact hF) (H.facts _ (List.mem_of_getElem? hF)).2.1 h1
  exact ixa hT hx hy (by omega) (by omega) hdn (h b _ e (by simpa using he))
variable {C : Fct} {lo' pu : List Nat} {spec : Nat → Value → Fct} {TT : Env → Fct → Prop} {r : List Nat} {Fc : Fct} {ii : Nat}
theorem awIxF {lo hi : Nat} {es : List α} {A : Option Addr} (H : Hp w0 w L F) (i : Nat) (hF : F[i]? = some (FRd Y lo hi A es)) {x y : Operand} {T E l c k : Nat} {kd : IntKind} (hi' : ops[ii]? = some (Og (some d) (.indexAddr T x y) t p af g)) (hw : wantE ops ρ (Og (some d) (.indexAddr T x y) t p af g) = true) (hl : lo'.contains ii = false) (hdn : Nat.blt d n = true)
    (hT : sliceB P T E Y.sz = true) (hx : ev ρ x = .slice A l c) (hy : ev ρ y = .int kd k) (h1 : k < es.length) (h2 : k < l)
    (h : ∀ b o e, El Y es k w b o e → AW P n ops C lo' pu spec TT r (upd ρ d (.pointer (some ⟨b, o, none⟩))) Fc) : AW P n ops C lo' pu spec TT (ii :: r) ρ Fc := by
  obtain ⟨b, o, e, rfl, he⟩ := Rd.el (H.fact hF) (H.facts _ (List.mem_of_getElem? hF)).2.1 h1
  exact aw hi' hw hl rfl hdn (fun _ _ => ixa_r hT hx hy (by omega) (by omega)) (h b _ e (by simpa using he))
end
end Go.Eng
end

section
namespace Go.Eng
open Go Go.RowKit
theorem wrap31 {n : Nat} (h : n < 2147483648) : IntKind.i32.wrap (n : Int) = n := by
  simp [IntKind.wrap, IntKind.signed, IntKind.bits]
  omega
section
variable {P : Program} {n : Nat} {Q : Post} {ρ : Env} {w : World} {ops : Array Oper} {rest : List Oper} {d : Nat} {t : TypeId} {p : String} {af : Array Edge} {g : Option (Nat × Bool)} {dst : Option Nat}
theorem enc_ascii {m : Nat} (h : m < 128) : Utf8.encode (m : Int) = ⟨#[UInt8.ofNat m]⟩ := by
  have hv : Utf8.valid (m : Int) = true := by simp [Utf8.valid]; omega
  have hc : m < 0x80 := h
  simp [Utf8.encode, hv, hc]
theorem cvIT_r {x : Operand} {S T : TypeId} {k : IntKind} {a : Int} {m : Nat} (hS : intB P S k = true) (hT : strB P T = true) (hx : ev ρ x = .int k a) (ha : a = m) (hm : m < 128) : (execOp (ev ρ) (Og dst (.convert S T x) t p af g)).run P w = .ok (.value (.string ⟨#[UInt8.ofNat m]⟩)) w := by
  have h1 : (P.underlying S).isSome = true := by
    unfold intB at hS
    split at hS
    · rename_i k hk; simp [hk]
    · cases hS
  have h2 : P.underlying T = some .string := by
    unfold strB at hT
    split at hT
    · assumption
    · cases hT
  subst ha
  have := run_convert_int_string (P := P) w S T k (m : Int) h1 h2
  rw [enc_ascii hm] at this
  simp [execOp, hx, this]
variable {C : Fct} {lo pu : List Nat} {spec : Nat → Value → Fct} {T : Env → Fct → Prop} {r : List Nat} {Fc : Fct} {i : Nat} {o : Oper}
/-- a call, in a region that draws, that yields one known value -/
theorem awCalV {u : Value} {f : FuncId} {xs : List Operand} {ats : Array TypeId} {vs : List Value} (hf : callB P f = true) (hi : ops[i]? = some (Og (some d) (.call { callee := .value (.func f), args := xs.toArray, argTypes := ats }) t p af g)) (hw : wantE ops ρ (Og (some d) (.call { callee := .value (.func f), args := xs.toArray, argTypes := ats }) t p af g) = true) (hl : lo.contains i = true) (hdn : Nat.blt d n = true)
    (hs : spec i = fun v _ => v = u) (hc : ∀ w', C w' → Ret P f vs w' fun v w2 => v = u ∧ Below w'.heap.size w' w2) (hv : xs.map (ev ρ) = vs)
    (h : AW P n ops C lo pu spec T r (upd ρ d u) (fun w => Fc w ∧ True)) : AW P n ops C lo pu spec T (i :: r) ρ Fc :=
  awCal hf hi hw hl hdn (fun w' hw' => (hc w' hw').mono fun v w2 ⟨h1, h2⟩ => ⟨h2, by rw [hs]; exact h1⟩) hv fun v ⟨w', _, hv'⟩ => by
    rw [hs] at hv' ⊢
    subst hv'
    simpa using h
/-- a new block, in a region that draws -/
theorem awAl {T' : TypeId} {z : Value} {lo' : Nat} (hz : (P.info? T').bind (·.zero) = some z) (hi : ops[i]? = some (Og (some d) (.alloc T') t p af g)) (hw : wantE ops ρ (Og (some d) (.alloc T') t p af g) = true) (hl : lo.contains i = true) (hdn : Nat.blt d n = true)
    (hs : spec i = (Sp.blk lo' z T').V) (hC : ∀ w', C w' → lo' ≤ w'.heap.size)
    (h : ∀ b, AW P n ops C lo pu spec T r (upd ρ d (.pointer (some ⟨b, 0, none⟩))) (fun w => Fc w ∧ (Sp.blk lo' z T').V (.pointer (some ⟨b, 0, none⟩)) w)) : AW P n ops C lo pu spec T (i :: r) ρ Fc :=
  awAlo hz hi hw hl hdn (fun w' w2 b hC' hb hh => by rw [hs]; exact ⟨b, rfl, Nat.le_trans (hC w' hC') hb, hh⟩) fun v ⟨w', _, hv'⟩ => by
    rw [hs] at hv' ⊢
    obtain ⟨b, rfl, _, _⟩ := hv'
    exact h b
end
section
variable {P : Program} {n : Nat} {Q : Post} {ρ : Env} {w : World} {ops : Array Oper} {rest : List Oper} {d : Nat} {t : TypeId} {p : String} {af : Array Edge}
variable {w0 : World} {L : List (Nat × Obj)} {F : List Fact}
/-- a store, what the block holds then being named -/
theorem stN (H : Hp w0 w L F) (i : Nat) (cs' : Array Value) {x y : Operand} {T : TypeId} {b o sz : Nat} {cs : Array Value} {tt : TypeId} {v : Value} (hT : (P.info? T).map (·.size) = some sz) (hx : ev ρ x = .pointer (some ⟨b, o, none⟩)) (hy : ev ρ y = v) (hi : L[i]? = some (b, .cells cs tt (0, 0)))
    (hs : v.cells.size = sz) (hf : Nat.ble (o + sz) cs.size = true) (h1 : v.cells.toList.all (·.oneCell') = true) (hc : lay cs o v.cells.toList = cs')
    (h : ∀ w', Hp w0 w' (L.set i (b, .cells cs' tt)) F → LW P n ops rest Q ρ w') : LW P n ops ({ dst := none, op := .store T x y, type := t, pos := p, after := af, guard := none } :: rest) Q ρ w :=
  stv H i hT hx hy hi hs (Nat.le_of_ble_eq_true hf) h1 fun w' h' => h w' (by rw [hc] at h'; exact h')
end
section
variable {P : Program} {ρ : Env} {w : World}
theorem finC {fn : Func} {R : Value → World → Prop} {a0 T0 sz0 b0 : Nat} {cs0 : Array Value} {tt0 : TypeId} {fr0 : Nat × Nat} (h : fn.results = #[.cell a0 T0]) (hT0 : aggB P T0 sz0 = true) (ha0 : ρ a0 = .pointer (some ⟨b0, 0, none⟩)) (hb0 : w.heap[b0]? = some (.cells cs0 tt0 fr0)) (hs0 : cs0.size = sz0) (hR : R (.agg cs0) w) : Fin P fn R .ret ρ w :=
  ⟨_, fun ac hac => by
    have hl0 := run_loadAgg (P := P) (w := w) (a := ⟨b0, 0, none⟩) (xs := cs0.toList) hT0 (by simpa using hs0) (fun j v hj => by rw [Addr.add_lit, Nat.zero_add]; exact cellE hb0 (by simpa using hj))
    have h10 := hac.get a0
    rw [ha0, Array.getD_eq_getD_getElem?] at h10
    simp [results, h, asAddr, h10, hl0], hR⟩
theorem finCTT {fn : Func} {R : Value → World → Prop} {a0 T0 sz0 b0 : Nat} {cs0 : Array Value} {tt0 : TypeId} {fr0 : Nat × Nat} {u1 : Nat} {v1 : Value} {u2 : Nat} {v2 : Value} (h : fn.results = #[.cell a0 T0, .tmp u1, .tmp u2]) (hT0 : aggB P T0 sz0 = true) (ha0 : ρ a0 = .pointer (some ⟨b0, 0, none⟩)) (hb0 : w.heap[b0]? = some (.cells cs0 tt0 fr0)) (hs0 : cs0.size = sz0) (hv1 : ρ u1 = v1) (hv2 : ρ u2 = v2) (hR : R (.tuple #[.agg cs0, v1, v2]) w) : Fin P fn R .ret ρ w :=
  ⟨_, fun ac hac => by
    have hl0 := run_loadAgg (P := P) (w := w) (a := ⟨b0, 0, none⟩) (xs := cs0.toList) hT0 (by simpa using hs0) (fun j v hj => by rw [Addr.add_lit, Nat.zero_add]; exact cellE hb0 (by simpa using hj))
    have h10 := hac.get a0
    rw [ha0, Array.getD_eq_getD_getElem?] at h10
    rw [← hv1, ← hac.get u1]
    rw [← hv2, ← hac.get u2]
    simp [results, h, asAddr, h10, hl0], hR⟩
theorem finCTTT {fn : Func} {R : Value → World → Prop} {a0 T0 sz0 b0 : Nat} {cs0 : Array Value} {tt0 : TypeId} {fr0 : Nat × Nat} {u1 : Nat} {v1 : Value} {u2 : Nat} {v2 : Value} {u3 : Nat} {v3 : Value} (h : fn.results = #[.cell a0 T0, .tmp u1, .tmp u2, .tmp u3]) (hT0 : aggB P T0 sz0 = true) (ha0 : ρ a0 = .pointer (some ⟨b0, 0, none⟩)) (hb0 : w.heap[b0]? = some (.cells cs0 tt0 fr0)) (hs0 : cs0.size = sz0) (hv1 : ρ u1 = v1) (hv2 : ρ u2 = v2) (hv3 : ρ u3 = v3) (hR : R (.tuple #[.agg cs0, v1, v2, v3]) w) : Fin P fn R .ret ρ w :=
  ⟨_, fun ac hac => by
    have hl0 := run_loadAgg (P := P) (w := w) (a := ⟨b0, 0, none⟩) (xs := cs0.toList) hT0 (by simpa using hs0) (fun j v hj => by rw [Addr.add_lit, Nat.zero_add]; exact cellE hb0 (by simpa using hj))
    have h10 := hac.get a0
    rw [ha0, Array.getD_eq_getD_getElem?] at h10
    rw [← hv1, ← hac.get u1]
    rw [← hv2, ← hac.get u2]
    rw [← hv3, ← hac.get u3]
    simp [results, h, asAddr, h10, hl0], hR⟩
theorem finTTCT {fn : Func} {R : Value → World → Prop} {u0 : Nat} {v0 : Value} {u1 : Nat} {v1 : Value} {a2 T2 sz2 b2 : Nat} {cs2 : Array Value} {tt2 : TypeId} {fr2 : Nat × Nat} {u3 : Nat} {v3 : Value} (h : fn.results = #[.tmp u0, .tmp u1, .cell a2 T2, .tmp u3]) (hv0 : ρ u0 = v0) (hv1 : ρ u1 = v1) (hT2 : aggB P T2 sz2 = true) (ha2 : ρ a2 = .pointer (some ⟨b2, 0, none⟩)) (hb2 : w.heap[b2]? = some (.cells cs2 tt2 fr2)) (hs2 : cs2.size = sz2) (hv3 : ρ u3 = v3) (hR : R (.tuple #[v0, v1, .agg cs2, v3]) w) : Fin P fn R .ret ρ w :=
  ⟨_, fun ac hac => by
    rw [← hv0, ← hac.get u0]
    rw [← hv1, ← hac.get u1]
    have hl2 := run_loadAgg (P := P) (w := w) (a := ⟨b2, 0, none⟩) (xs := cs2.toList) hT2 (by simpa using hs2) (fun j v hj => by rw [Addr.add_lit, Nat.zero_add]; exact cellE hb2 (by simpa using hj))
    have h12 := hac.get a2
    rw [ha2, Array.getD_eq_getD_getElem?] at h12
    rw [← hv3, ← hac.get u3]
    simp [results, h, asAddr, h12, hl2], hR⟩
end
theorem Hp.learnRd {α : Type} {Y : Lay α} {w0 w w' : World} {L : List (Nat × Obj)} {F : List Fact} {A : Option Addr} {es : List α} (H : Hp w0 w L F) (hb : Below w.heap.size w w') (hr : Rd Y w.heap.size w'.heap.size A es w') : Hp w0 w' L (FRd Y w.heap.size w'.heap.size A es :: F) :=
  H.learn hb _ hr (Nat.le_refl _) (Nat.le_refl _)
theorem Hp.startRd {α : Type} {Y : Lay α} {w : World} {A : Option Addr} {es : List α} (hr : Rd Y 0 w.heap.size A es w) : Hp w w [] [FRd Y 0 w.heap.size A es] := (Hp.start w).learnOld _ hr (Nat.le_refl _)
theorem Hp.rd0 {α : Type} {Y : Lay α} {w0 w : World} {L : List (Nat × Obj)} {F : List Fact} {lo hi : Nat} {A : Option Addr} {es : List α} (H : Hp w0 w L F) (i : Nat) (hF : F[i]? = some (FRd Y lo hi A es)) : Rd Y 0 w.heap.size A es w :=
  Rd.mono (H.fact hF) (Nat.zero_le _) (H.facts _ (List.mem_of_getElem? hF)).2.1
end Go.Eng
end

section
namespace Go.Eng
open Go Go.RowKit
/-- what a callee made, joined to what the caller has -/
theorem Hp.join {w0 w w' : World} {L L' : List (Nat × Obj)} {F : List Fact} (H : Hp w0 w L F) (H' : Hp w w' L' []) : Hp w0 w' (L' ++ L) F := by
  have h := H.later H'.below
  refine ⟨h.below, fun e he => ?_, ?_, fun f hf => ?_⟩
  · rcases List.mem_append.1 he with he | he
    · exact ⟨(H'.ents e he).1, Nat.le_trans H.size (H'.ents e he).2⟩
    · exact h.ents e he
  · rw [List.map_append]
    refine List.nodup_append.2 ⟨H'.nodup, h.nodup, fun a ha b hb => ?_⟩
    obtain ⟨e, he, rfl⟩ := List.mem_map.1 ha
    obtain ⟨e2, he2, rfl⟩ := List.mem_map.1 hb
    have h1 := (H'.ents e he).2
    have h2 := H.ltAll e2 he2
    omega
  · obtain ⟨h1, h2, h3⟩ := h.facts f hf
    refine ⟨h1, h2, fun e he => ?_⟩
    rcases List.mem_append.1 he with he | he
    · exact .inr (Nat.le_trans (H.facts f hf).2.1 (H'.ents e he).2)
    · exact h3 e he
section
variable {P : Program} {n : Nat} {Q : Post} {ρ : Env} {w : World} {ops : Array Oper} {rest : List Oper} {d : Nat} {t : TypeId} {p : String} {af : Array Edge} {g : Option (Nat × Bool)} {dst : Option Nat}
variable {w0 : World} {L : List (Nat × Obj)} {F : List Fact}
theorem bs0 (H : Hp w0 w L F) {T E sz : Nat} (hT : sliceB P T E sz = true) (hdn : Nat.blt d n = true)
    (h : ∀ w' b, Hp w0 w' ((b, .cells #[] E) :: L) F → LW P n ops rest Q (upd ρ d (.slice (some ⟨b, 0, none⟩) 0 0)) w') : LW P n ops (O d (.buildSlice T 0 #[]) t p af :: rest) Q ρ w := by
  obtain ⟨hu, q, h3, h4⟩ := slice_of hT
  refine lw_val rfl rfl hdn ?_ (h _ _ (H.alloc (.cells #[] E)))
  simp only [execOp, Instr.buildSlice, Sem.run_bind, run_underlying hu, Result.andThen_ok, run_size h3, Nat.zero_mul]
  have e0 : ∀ z : Array Value, (Array.range 0).map (fun i => z[i % z.size]!) = #[] := fun z => by simp
  have hm' : ¬ (0 > 2 ^ 24) := by decide
  have e1 : (Array.map (fun (x : Nat × Operand) => (x.fst, ev ρ x.snd)) #[]).toList = [] := by simp
  simp only [if_true, e0, if_neg hm', Sem.run_bind, Sem.run_pure, Result.andThen_ok, e1, Instr.fill, newRow, newObj]
  rfl
theorem slnil_r {x : Operand} {ty ty' : TypeId} {A : Option Addr} {l c : Nat} (hT : lenB P ty = true) (hx : ev ρ x = .slice A l c) : (execOp (ev ρ) (Og dst (.binOp .eql ty x (.const (.slice none 0 0)) ty') t p af g)).run P w = .ok (.value (.bool A.isNone)) w := by
  have e : ev ρ (.const (.slice none 0 0)) = .slice none 0 0 := rfl
  have key : (Op.equal ty (.slice A l c) (.slice none 0 0)).run P w = .ok A.isNone w := by
    unfold lenB at hT
    split at hT
    · rename_i q hu
      show (Op.equalIn (9999 + 1) ty _ _).run P w = _
      cases A <;> (unfold Op.equalIn; simp only [Sem.run_bind, run_underlying hu, Result.andThen_ok, Sem.run_pure]; try rfl)
    · cases hT
  simp only [execOp, e, hx, eqGuard, Sem.run_bind, Sem.run_pure]
  simp [binOp, key]
end
end Go.Eng
end

section
namespace Go.Eng
open Go Go.RowKit
/-- a block's cells, of which the first are those of es -/
structure Row {α : Type} (Y : Lay α) (es : List α) (cap : Nat) (cur : Array Value) : Prop where
  size : cur.size = cap * Y.sz
  all : cur.toList.take (es.length * Y.sz) = Y.all es
  le : es.length ≤ cap
  max : cap ≤ maxLen
section
variable {α : Type} {Y : Lay α} {es : List α} {cap : Nat} {cur : Array Value}
theorem Own.row {A : Option Addr} {n c : Nat} {e : TypeId} {L : List (Nat × Obj)} (h : Own Y (.slice A n c) e es L) (h0 : 0 < es.length) : ∃ g cur, A = some ⟨g, 0, none⟩ ∧ L = [(g, .cells cur e (0, 0))] ∧ Row Y es c cur := by
  rcases h.2 with ⟨_, hn, _⟩ | ⟨g, cap, cur, rfl, hv, h1, h2, h3, h4⟩
  · omega
  · simp only [Value.slice.injEq] at hv
    obtain ⟨rfl, _, rfl⟩ := hv
    exact ⟨g, cur, rfl, rfl, h3, h4, h1, h2⟩
theorem Row.own {g : Nat} {e : TypeId} (h : Row Y es cap cur) : Own Y (.slice (some ⟨g, 0, none⟩) es.length cap) e es [(g, .cells cur e (0, 0))] :=
  ⟨Lay.length es, .inr ⟨g, cap, cur, rfl, rfl, h.le, h.max, h.size, h.all⟩⟩
theorem Row.get (h : Row Y es cap cur) {k : Nat} {e : α} (hk : es[k]? = some e) {j : Nat} {v : Value} (hj : (Y.f e)[j]? = some v) : cur[k * Y.sz + j]? = some v := by
  obtain ⟨hlt, rfl⟩ := List.getElem?_eq_some_iff.1 hk
  have hjs : j < Y.sz := by
    have := (List.getElem?_eq_some_iff.1 hj).1
    rwa [Y.len] at this
  have h1 := Lay.get (Y := Y) hlt hjs
  rw [hj, ← h.all, List.getElem?_take] at h1
  split at h1
  · simpa using h1
  · cases h1
theorem mul_lt {k n sz j : Nat} (hk : k < n) (hj : j < sz) : k * sz + j < n * sz := by
  have : (k + 1) * sz ≤ n * sz := Nat.mul_le_mul_right _ hk
  rw [Nat.add_mul] at this
  omega
theorem Row.put (h : Row Y es cap cur) {k : Nat} {e : α} (hk : es[k]? = some e) {j : Nat} {new : List Value} (e' : α) (hj : j + new.length ≤ Y.sz) (he : Y.f e' = (Y.f e).take j ++ new ++ (Y.f e).drop (j + new.length)) :
    Row Y (es.set k e') cap (lay cur (k * Y.sz + j) new) := by
  obtain ⟨hlt, rfl⟩ := List.getElem?_eq_some_iff.1 hk
  have hsz : (k + 1) * Y.sz ≤ es.length * Y.sz := Nat.mul_le_mul_right _ hlt
  have hcap : es.length * Y.sz ≤ cap * Y.sz := Nat.mul_le_mul_right _ h.le
  rw [Nat.add_mul, Nat.one_mul] at hsz
  have hcl : cur.toList.length = cap * Y.sz := by rw [Array.length_toList, h.size]
  refine ⟨?_, ?_, by rw [List.length_set]; exact h.le, h.max⟩
  · simp only [lay, List.size_toArray, List.length_append, List.length_take, List.length_drop, hcl]
    omega
  · rw [List.length_set]
    apply List.ext_getElem?
    intro i
    have hYf := Y.len es[k]
    by_cases hi : i < es.length * Y.sz
    · rw [List.getElem?_take_of_lt hi]
      have hdm : i = i / Y.sz * Y.sz + i % Y.sz := (Nat.div_add_mod' i Y.sz).symm
      have hm : i % Y.sz < Y.sz := Nat.mod_lt _ Y.pos
      have hq : i / Y.sz < es.length := by
        rw [Nat.div_lt_iff_lt_mul Y.pos]; exact hi
      have hrhs := Lay.get (Y := Y) (es := es.set k e') (k := i / Y.sz) (j := i % Y.sz) (by rw [List.length_set]; exact hq) hm
      have hold := Lay.get (Y := Y) (es := es) (k := i / Y.sz) (j := i % Y.sz) hq hm
      rw [← hdm] at hrhs hold
      rw [← h.all, List.getElem?_take_of_lt hi] at hold
      rw [hrhs]
      unfold lay
      by_cases hkq : k = i / Y.sz
      · subst hkq
        simp only [List.getElem_set_self, he]
        by_cases h1 : i % Y.sz < j
        · rw [List.append_assoc, List.getElem?_append_left (by rw [List.length_take, hcl]; omega), List.getElem?_take_of_lt (by omega), List.append_assoc, List.getElem?_append_left (by rw [List.length_take, hYf]; omega), List.getElem?_take_of_lt h1]
          exact hold
        · by_cases h2 : i % Y.sz < j + new.length
          · rw [List.append_assoc, List.getElem?_append_right (by rw [List.length_take, hcl]; omega), List.getElem?_append_left (by rw [List.length_take, hcl]; omega), List.append_assoc, List.getElem?_append_right (by rw [List.length_take, hYf]; omega), List.getElem?_append_left (by rw [List.length_take, hYf]; omega)]
            congr 1
            rw [List.length_take, List.length_take, hcl, hYf]; omega
          · rw [List.getElem?_append_right (by rw [List.length_append, List.length_take, hcl]; omega), List.getElem?_append_right (by rw [List.length_append, List.length_take, hYf]; omega), List.getElem?_drop, List.getElem?_drop]
            have e1 : i / Y.sz * Y.sz + j + new.length + (i - (List.take (i / Y.sz * Y.sz + j) cur.toList ++ new).length) = i := by rw [List.length_append, List.length_take, hcl]; omega
            have e2 : j + new.length + (i % Y.sz - (List.take j (Y.f es[i / Y.sz]) ++ new).length) = i % Y.sz := by rw [List.length_append, List.length_take, hYf]; omega
            rw [e1, e2]
            exact hold
      · have hne : (es.set k e')[i / Y.sz]'(by rw [List.length_set]; exact hq) = es[i / Y.sz] := List.getElem_set_ne hkq _
        rw [hne, ← hold]
        rcases Nat.lt_or_gt_of_ne hkq with hl | hg
        · have : (k + 1) * Y.sz ≤ i / Y.sz * Y.sz := Nat.mul_le_mul_right _ hl
          rw [Nat.add_mul, Nat.one_mul] at this
          rw [List.getElem?_append_right (by rw [List.length_append, List.length_take, hcl]; omega), List.getElem?_drop]
          congr 1
          rw [List.length_append, List.length_take, hcl]; omega
        · have : (i / Y.sz + 1) * Y.sz ≤ k * Y.sz := Nat.mul_le_mul_right _ hg
          rw [Nat.add_mul, Nat.one_mul] at this
          rw [List.append_assoc, List.getElem?_append_left (by rw [List.length_take, hcl]; omega), List.getElem?_take_of_lt (by omega)]
    · rw [List.getElem?_take, if_neg hi, List.getElem?_eq_none]
      rw [Lay.length, List.length_set]; omega
end
section
variable {P : Program} {n : Nat} {Q : Post} {ρ : Env} {w : World} {ops : Array Oper} {rest : List Oper} {d : Nat} {t : TypeId} {p : String} {af : Array Edge} {g : Option (Nat × Bool)} {dst : Option Nat}
variable {w0 : World} {L : List (Nat × Obj)} {F : List Fact} {α : Type} {Y : Lay α} {es : List α} {cap : Nat} {cur : Array Value}
theorem ixR_r {x y : Operand} {T E sz b l c k : Nat} {kd : IntKind} (hT : sliceB P T E sz = true) (hx : ev ρ x = .slice (some ⟨b, 0, none⟩) l c) (hy : ev ρ y = .int kd (k : Nat)) (hl : k < l) : (execOp (ev ρ) (Og dst (.indexAddr T x y) t p af g)).run P w = .ok (.value (.pointer (some ⟨b, k * sz, none⟩))) w := by
  have := ixa_r (P := P) (w := w) (dst := dst) (t := t) (p := p) (af := af) (g := g) hT hx hy (by omega) (by omega)
  simpa using this
theorem ldR_r {x : Operand} {T : TypeId} {b k : Nat} {v : Value} {tt : TypeId} {fr : Nat × Nat} {e : α} (hT : oneB P T = true) (hR : Row Y es cap cur) (hk : es[k]? = some e) (j : Nat) (hx : ev ρ x = .pointer (some ⟨b, k * Y.sz + j, none⟩)) (hb : w.heap[b]? = some (.cells cur tt fr)) (hj : (Y.f e)[j]? = some v) : (execOp (ev ρ) (Og dst (.load T x) t p af g)).run P w = .ok (.value v) w :=
  ld_r hT hx (cellE hb (hR.get hk hj))
theorem ldRA_r {x : Operand} {T sz : TypeId} {b k : Nat} {tt : TypeId} {fr : Nat × Nat} {e : α} (hT : aggB P T sz = true) (hR : Row Y es cap cur) (hk : es[k]? = some e) (hx : ev ρ x = .pointer (some ⟨b, k * Y.sz, none⟩)) (hs : (Y.f e).length = sz) (hb : w.heap[b]? = some (.cells cur tt fr)) : (execOp (ev ρ) (Og dst (.load T x) t p af g)).run P w = .ok (.value (.agg (Y.f e).toArray)) w :=
  ldA_r hT hx hs fun _ _ hj => cellE hb (hR.get hk hj)
theorem stR (H : Hp w0 w L F) (i : Nat) (e' : α) {x y : Operand} {T : TypeId} {b k sz : Nat} {tt : TypeId} {v : Value} {e : α} (hT : (P.info? T).map (·.size) = some sz) (hR : Row Y es cap cur) (hk : es[k]? = some e) (j : Nat) (hx : ev ρ x = .pointer (some ⟨b, k * Y.sz + j, none⟩)) (hy : ev ρ y = v) (hi : L[i]? = some (b, .cells cur tt (0, 0)))
    (hs : v.cells.size = sz) (h1 : v.cells.toList.all (·.oneCell') = true) (hj : Nat.ble (j + sz) Y.sz = true) (he : Y.f e' = (Y.f e).take j ++ v.cells.toList ++ (Y.f e).drop (j + sz))
    (h : ∀ w' cur', Row Y (es.set k e') cap cur' → Hp w0 w' (L.set i (b, .cells cur' tt)) F → LW P n ops rest Q ρ w') : LW P n ops ({ dst := none, op := .store T x y, type := t, pos := p, after := af, guard := none } :: rest) Q ρ w := by
  obtain ⟨hlt, -⟩ := List.getElem?_eq_some_iff.1 hk
  have hj' := Nat.le_of_ble_eq_true hj
  have hl : v.cells.toList.length = sz := by simpa using hs
  refine stv H i hT hx hy hi hs ?_ h1 fun w' h' => h w' _ (hR.put hk e' (by rw [hl]; exact hj') (by rw [hl]; exact he)) h'
  rw [hR.size]
  have h2 : (k + 1) * Y.sz ≤ cap * Y.sz := Nat.mul_le_mul_right _ (Nat.lt_of_lt_of_le hlt hR.le)
  rw [Nat.add_mul, Nat.one_mul] at h2
  omega
theorem add8_r {x y : Operand} {ty ty' : TypeId} {a b : UInt8} (hx : ev ρ x = .int .u8 a.toNat) (hy : ev ρ y = .int .u8 b.toNat) : (execOp (ev ρ) (Og dst (.binOp .add ty x y ty') t p af g)).run P w = .ok (.value (.int .u8 ((a + b).toNat : Nat))) w := by
  have e : IntKind.u8.wrap ((a.toNat : Int) + b.toNat) = ((a + b).toNat : Nat) := by
    simp [IntKind.wrap, IntKind.signed, IntKind.bits]
  simp only [execOp, hx, hy, eqGuard, binOp, Op.intArith, Sem.run_bind, Sem.run_pure]
  simp [e]
theorem beql_r {x y : Operand} {ty ty' : TypeId} {a b : Bool} (hT : P.underlying ty = some .bool) (hx : ev ρ x = .bool a) (hy : ev ρ y = .bool b) : (execOp (ev ρ) (Og dst (.binOp .eql ty x y ty') t p af g)).run P w = .ok (.value (.bool (a == b))) w := by
  have key : (Op.equal ty (.bool a) (.bool b)).run P w = .ok (a == b) w := by
    have := run_equalIn_bool' (P := P) w 9999 ty a b hT
    exact this
  simp only [execOp, hx, hy, eqGuard, Sem.run_bind, Sem.run_pure]
  simp [binOp, key]
end
end Go.Eng
end

section
namespace Go.Eng
open Go Go.RowKit
open Go.ChangeMaps (setBlock)
/-- the entries of a map with int keys, in the order in which they came -/
def mapE : Nat → List (Int × Value) → List MapEntry
  | _, [] => []
  | i, q :: r => { key := .int .i64 q.1, val := q.2, born := i } :: mapE (i + 1) r
theorem mapE_len : ∀ (i : Nat) (S : List (Int × Value)), (mapE i S).length = S.length
  | _, [] => rfl
  | i, _ :: r => by simp [mapE, mapE_len (i + 1) r]
theorem mapE_get : ∀ (i : Nat) (S : List (Int × Value)) (j : Nat), (mapE i S)[j]? = (S[j]?).map fun q => { key := .int .i64 q.1, val := q.2, born := i + j }
  | _, [], j => by simp [mapE]
  | i, q :: r, 0 => by simp [mapE]
  | i, q :: r, j + 1 => by
    simp only [mapE, List.getElem?_cons_succ, mapE_get (i + 1) r j]
    congr 1; funext q; congr 1; omega
theorem mapE_append : ∀ (i : Nat) (S : List (Int × Value)) (q : Int × Value), mapE i (S ++ [q]) = mapE i S ++ [{ key := .int .i64 q.1, val := q.2, born := i + S.length }]
  | i, [], q => by simp [mapE]
  | i, p :: r, q => by simp only [List.cons_append, mapE, mapE_append (i + 1) r q, List.length_cons, show i + 1 + r.length = i + (r.length + 1) by omega]
abbrev mapO (S : List (Int × Value)) : Obj := .map (mapE 0 S).toArray S.length
theorem find_none_ (q : IntKind) (k : Int) : ∀ (i j : Nat) (S : List (Int × Value)), (∀ p ∈ S, p.1 ≠ k) → Instr.findNow (.int q) (.int .i64 k) (mapE i S) j = some none
  | _, _, [], _ => rfl
  | i, j, p :: r, h => by
    have h1 : (k == p.1) = false := by
      have := h p (List.mem_cons_self ..)
      simp; omega
    simp only [mapE, Instr.findNow, Instr.sameNow, if_true, h1]
    exact find_none_ q k (i + 1) (j + 1) r fun x hx => h x (List.mem_cons_of_mem _ hx)
theorem find_some_ (q : IntKind) (k : Int) (v : Value) : ∀ (i j m : Nat) (S : List (Int × Value)), (S.map (·.1)).Nodup → S[m]? = some (k, v) → Instr.findNow (.int q) (.int .i64 k) (mapE i S) j = some (some (j + m, v))
  | _, _, _, [], _, h => by simp at h
  | i, j, 0, p :: r, _, h => by
    simp at h; subst h
    simp [mapE, Instr.findNow, Instr.sameNow]
  | i, j, m + 1, p :: r, hn, h => by
    simp only [List.map_cons, List.nodup_cons] at hn
    simp only [List.getElem?_cons_succ] at h
    have hne : (k == p.1) = false := by
      have : p.1 ≠ k := fun e => hn.1 (List.mem_map.2 ⟨(k, v), List.mem_of_getElem? h, e.symm⟩)
      simp; omega
    simp only [mapE, Instr.findNow, Instr.sameNow, if_true, hne]
    rw [find_some_ q k v (i + 1) (j + 1) m r hn.2 h]
    congr 3; omega
def mapB (P : Program) (T K E : TypeId) : Bool := (match P.underlying T with
  | some (.map k e) => Nat.beq k K && Nat.beq e E
  | _ => false) && (match P.underlying K with
  | some (.int _) => true
  | _ => false)
theorem map_of {P : Program} {T K E : TypeId} (h : mapB P T K E = true) : P.underlying T = some (.map K E) ∧ ∃ q, P.underlying K = some (.int q) := by
  unfold mapB at h
  simp only [Bool.and_eq_true] at h
  obtain ⟨h1, h2⟩ := h
  constructor
  · split at h1
    · rename_i k e hd
      simp only [Bool.and_eq_true] at h1
      rw [hd, Nat.eq_of_beq_eq_true h1.1, Nat.eq_of_beq_eq_true h1.2]
    · cases h1
  · split at h2
    · rename_i q hd; exact ⟨q, hd⟩
    · cases h2
section
variable {P : Program} {n : Nat} {Q : Post} {ρ : Env} {w : World} {ops : Array Oper} {rest : List Oper} {d : Nat} {t : TypeId} {p : String} {af : Array Edge} {g : Option (Nat × Bool)} {dst : Option Nat}
variable {w0 : World} {L : List (Nat × Obj)} {F : List Fact}
theorem run_checkKey {K : TypeId} {q : IntKind} (hk : P.underlying K = some (.int q)) (e : Bool) (k : Int) : (Instr.checkKey e 10000 K (.int .i64 k)).run P w = .ok () w := by
  show (Instr.checkKey e (9999 + 1) K (.int .i64 k)).run P w = _
  unfold Instr.checkKey
  simp only [Sem.run_bind, run_underlying hk, Result.andThen_ok, Sem.run_pure]
theorem mkm (H : Hp w0 w L F) {T : TypeId} (hdn : Nat.blt d n = true)
    (h : ∀ w' b, Hp w0 w' ((b, mapO []) :: L) F → LW P n ops rest Q (upd ρ d (.map (some b))) w') : LW P n ops (O d (.makeMap T none) t p af :: rest) Q ρ w := by
  refine lw_val rfl rfl hdn ?_ (h _ _ (H.alloc (.map #[] 0)))
  simp only [execOp, Option.map_none, Instr.makeMap, newObj, Sem.run_bind, Sem.run_pure]
  rfl
theorem run_lookup {T K E : TypeId} {b : Nat} {S : List (Int × Value)} {k : Int} {r : Option (Nat × Value)} {z : Value} (hT : mapB P T K E = true) (hz : (P.info? E).bind (·.zero) = some z) (hb : w.heap[b]? = some (mapO S)) (hf : ∀ q, Instr.findNow (.int q) (.int .i64 k) (mapE 0 S) 0 = some r) (c : Bool) :
    (Instr.lookup T (.map (some b)) (.int .i64 k) c).run P w = .ok (if c then .tuple #[(r.map (·.2)).getD z, .bool r.isSome] else (r.map (·.2)).getD z) w := by
  obtain ⟨h1, q, h2⟩ := map_of hT
  have hzr : (zeroValue E).run P w = .ok z w := by
    cases hi : P.info? E with
    | none => rw [hi] at hz; cases hz
    | some i =>
      rw [hi] at hz
      simp only [Option.bind_some] at hz
      simp [zeroValue, run_typeInfo hi, hz]
  simp only [Instr.lookup, Sem.run_bind, run_underlying h1, Result.andThen_ok, getObj, Sem.run, hb, Sem.run_pure, run_checkKey h2, Instr.findKey, run_underlying h2, hf q]
  cases r with
  | none => cases c <;> simp [hzr]
  | some q => cases c <;> simp
theorem lkN_r {x y : Operand} {T K E : TypeId} {b : Nat} {S : List (Int × Value)} {k : Int} {z : Value} (hT : mapB P T K E = true) (hz : (P.info? E).bind (·.zero) = some z) (hx : ev ρ x = .map (some b)) (hy : ev ρ y = .int .i64 k) (hb : w.heap[b]? = some (mapO S)) (hk : ∀ p ∈ S, p.1 ≠ k) : (execOp (ev ρ) (Og dst (.lookup T x y false) t p af g)).run P w = .ok (.value z) w := by
  have := run_lookup (w := w) hT hz hb (fun q => find_none_ q k 0 0 S hk) false
  simp [execOp, hx, hy, this]
theorem lkS_r {x y : Operand} {T K E : TypeId} {b : Nat} {S : List (Int × Value)} {k : Int} {z v : Value} {m : Nat} (hT : mapB P T K E = true) (hz : (P.info? E).bind (·.zero) = some z) (hx : ev ρ x = .map (some b)) (hy : ev ρ y = .int .i64 k) (hb : w.heap[b]? = some (mapO S)) (hn : (S.map (·.1)).Nodup) (hm : S[m]? = some (k, v)) : (execOp (ev ρ) (Og dst (.lookup T x y false) t p af g)).run P w = .ok (.value v) w := by
  have := run_lookup (w := w) hT hz hb (fun q => find_some_ q k v 0 0 m S hn hm) false
  simp [execOp, hx, hy, this]
/-- a new entry -/
theorem mup (H : Hp w0 w L F) (i : Nat) {x y u : Operand} {T K E : TypeId} {b : Nat} {S : List (Int × Value)} {k : Int} {v : Value} (hT : mapB P T K E = true) (hx : ev ρ x = .map (some b)) (hy : ev ρ y = .int .i64 k) (hu : ev ρ u = v) (hi : L[i]? = some (b, mapO S)) (hk : ∀ p ∈ S, p.1 ≠ k)
    (h : ∀ w', Hp w0 w' (L.set i (b, mapO (S ++ [(k, v)]))) F → LW P n ops rest Q ρ w') : LW P n ops ({ dst := none, op := .mapUpdate T x y u, type := t, pos := p, after := af, guard := none } :: rest) Q ρ w := by
  obtain ⟨h1, q, h2⟩ := map_of hT
  have hb := H.ent hi
  have hlt := lt_of_heap hb
  have e : mapO (S ++ [(k, v)]) = .map ((mapE 0 S).toArray.push { key := .int .i64 k, val := v, born := S.length }) (S.length + 1) := by
    simp [mapO, mapE_append]
  refine lw_skip rfl rfl (w' := setBlock w b (mapO (S ++ [(k, v)]))) ?_ (h _ (H.put hi (by simp [setBlock, hlt]) (by simp [setBlock]) rfl rfl rfl fun j hj => by simp [setBlock, Ne.symm hj]))
  rw [e]
  simp only [execOp, hx, hy, hu, Instr.mapUpdate, Sem.run_bind, run_underlying h1, Result.andThen_ok, getObj, Sem.run, hb, Sem.run_pure, run_checkKey h2, Instr.findKey, run_underlying h2, find_none_ q k 0 0 S hk, setObj]
  simp [setBlock]
theorem rng (H : Hp w0 w L F) (i : Nat) {x : Operand} {T K E : TypeId} {b : Nat} {S : List (Int × Value)} (hT : mapB P T K E = true) (hx : ev ρ x = .map (some b)) (hi : L[i]? = some (b, mapO S)) (hdn : Nat.blt d n = true)
    (h : ∀ w' r, Hp w0 w' ((r, .mapIter (some b) S.length #[] S.length) :: L) F → LW P n ops rest Q (upd ρ d (.pointer (some ⟨r, 0, none⟩))) w') : LW P n ops (O d (.range T x) t p af :: rest) Q ρ w := by
  obtain ⟨h1, q, h2⟩ := map_of hT
  refine lw_val rfl rfl hdn ?_ (h _ _ (H.alloc _))
  simp only [execOp, hx]
  have := run_range_map (P := P) w T K E b (mapE 0 S).toArray S.length h1 (H.ent hi)
  simp [this]
/-- the next entry, whichever; or there is none -/
theorem nxt (H : Hp w0 w L F) (i j : Nat) {x : Operand} {b r : Nat} {S : List (Int × Value)} {seen : Array Nat} (hx : ev ρ x = .pointer (some ⟨r, 0, none⟩)) (hi : L[i]? = some (r, .mapIter (some b) S.length seen S.length)) (hj : L[j]? = some (b, mapO S)) (hdn : Nat.blt d n = true)
    (hno : (∀ m, m < S.length → seen.contains m = true) → LW P n ops rest Q (upd ρ d (.tuple #[.bool false])) w)
    (hyes : ∀ m k v w', S[m]? = some (k, v) → seen.contains m = false → Hp w0 w' (L.set i (r, .mapIter (some b) S.length (seen.push m) S.length)) F → LW P n ops rest Q (upd ρ d (.tuple #[.bool true, .int .i64 k, v])) w') :
    LW P n ops (O d (.next x false) t p af :: rest) Q ρ w := by
  have hr := H.ent hi
  have hb := H.ent hj
  have hborn : ∀ e ∈ (mapE 0 S).toArray.toList, e.born < S.length := fun e he => by
    obtain ⟨m, hm⟩ := List.mem_iff_getElem?.1 he
    rw [mapE_get] at hm
    cases hs : S[m]? with
    | none => rw [hs] at hm; cases hm
    | some q =>
      rw [hs] at hm
      simp at hm
      have := (List.getElem?_eq_some_iff.1 hs).1
      rw [← hm]; simp; omega
  rcases run_next_at (P := P) w t r b S.length S.length seen (mapE 0 S).toArray S.length hr hb hborn (Nat.le_refl _) with ⟨h0, hrun⟩ | ⟨e, he, w1, hw1, hrun⟩
  · refine lw_val rfl rfl hdn ?_ (hno ?_)
    · simp [execOp, hx, hrun]
    · intro m hm
      have := all_seen _ _ h0 { key := .int .i64 (S[m]).1, val := (S[m]).2, born := m } (by
        refine List.mem_iff_getElem?.2 ⟨m, ?_⟩
        rw [mapE_get, List.getElem?_eq_getElem hm]; simp)
      exact this
  · obtain ⟨hm1, hm2⟩ := mem_left he
    obtain ⟨m, hm⟩ := List.mem_iff_getElem?.1 hm1
    rw [mapE_get] at hm
    cases hs : S[m]? with
    | none => rw [hs] at hm; cases hm
    | some q =>
      rw [hs] at hm
      simp at hm
      obtain ⟨k, v⟩ := q
      subst hm
      simp only at hrun hm2
      have H1 : Hp w0 w1 L F := by
        rcases hw1 with rfl | rfl
        · exact H
        · exact H.drew
      have hlt := lt_of_heap (H1.ent hi)
      refine lw_val rfl rfl hdn (w' := setBlock w1 r (.mapIter (some b) S.length (seen.push m) S.length)) ?_ (hyes m k v _ hs hm2 (H1.put hi (by simp [setBlock, hlt]) (by simp [setBlock]) rfl rfl rfl fun j hj => by simp [setBlock, Ne.symm hj]))
      simp [execOp, hx, hrun]
theorem ent_r {x : Operand} {b r m : Nat} {S : List (Int × Value)} {seen : Array Nat} {k : Int} {v : Value} (hx : ev ρ x = .pointer (some ⟨r, 0, none⟩)) (hr : w.heap[r]? = some (.mapIter (some b) S.length (seen.push m) S.length)) (hb : w.heap[b]? = some (mapO S)) (hm : S[m]? = some (k, v)) : (execOp (ev ρ) (Og dst (.entry x) t p af g)).run P w = .ok (.value (.tuple #[.int .i64 k, v])) w := by
  have hmem : ({ key := .int .i64 k, val := v, born := m } : MapEntry) ∈ (mapE 0 S).toArray.toList := by
    refine List.mem_iff_getElem?.2 ⟨m, ?_⟩
    rw [mapE_get, hm]; simp
  have hnd : ((mapE 0 S).toArray.toList.map (·.born)).Nodup := by
    have : ∀ i (S : List (Int × Value)), ((mapE i S).map (·.born)) = List.range' i S.length := by
      intro i S
      induction S generalizing i with
      | nil => rfl
      | cons a r ih => simp [mapE, ih, List.range'_succ]
    rw [show (mapE 0 S).toArray.toList = mapE 0 S from rfl, this]
    exact List.nodup_range'
  have := run_entry_at (P := P) w r b S.length seen (mapE 0 S).toArray S.length _ hr hb hmem hnd
  simp [execOp, hx, this]
end
end Go.Eng
end

section
namespace Go.Eng
open Go Go.RowKit
theorem snoc_ind {α : Type} {p : List α → Prop} (h0 : p []) (h1 : ∀ l a, p l → p (l ++ [a])) (l : List α) : p l := by
  have : ∀ r : List α, p r.reverse := by
    intro r
    induction r with
    | nil => exact h0
    | cons a r ih => rw [List.reverse_cons]; exact h1 _ _ ih
  have h := this l.reverse
  rwa [List.reverse_reverse] at h
theorem Hp.base {w w' w2 : World} {L : List (Nat × Obj)} (hw : Below w.heap.size w w') (H : Hp w' w2 L []) : Hp w w2 L [] :=
  ⟨hw.trans (H.below.mono hw.size), fun e he => ⟨(H.ents e he).1, Nat.le_trans hw.size (H.ents e he).2⟩, H.nodup, by simp⟩
section
variable {P : Program} {n : Nat} {Q : Post} {ρ : Env} {w : World} {ops : Array Oper} {rest : List Oper} {d : Nat} {t : TypeId} {p : String} {af : Array Edge}
variable {w0 : World} {L : List (Nat × Obj)} {F : List Fact} {α : Type} {Y : Lay α}
theorem Hp.also (H : Hp w0 w L F) {lo hi : Nat} {A A' : Option Addr} {es es' : List α} (i : Nat) (hF : F[i]? = some (FRd Y lo hi A es)) (h : ∀ w, Rd Y lo hi A es w → Rd Y lo hi A' es' w) : Hp w0 w L (FRd Y lo hi A' es' :: F) := by
  refine ⟨H.below, H.ents, H.nodup, fun g hg => ?_⟩
  rcases List.mem_cons.1 hg with rfl | hg
  · obtain ⟨h1, h2, h3⟩ := H.facts _ (List.mem_of_getElem? hF)
    exact ⟨h w h1, h2, h3⟩
  · exact H.facts g hg
theorem sliHiF {lo hi : Nat} {es : List α} {A : Option Addr} (H : Hp w0 w L F) (i : Nat) (hF : F[i]? = some (FRd Y lo hi A es)) {x y : Operand} {T E l c k : Nat} {kd : IntKind} (hT : sliceB P T E Y.sz = true) (hx : ev ρ x = .slice A l c) (hy : ev ρ y = .int kd (k : Nat)) (hc : es.length ≤ c) (h1 : k ≤ c) (hdn : Nat.blt d n = true)
    (h : ∀ A', Hp w0 w L (FRd Y lo hi A' (es.take k) :: F) → LW P n ops rest Q (upd ρ d (.slice A' k c)) w) : LW P n ops (O d (.slice T x none (some y) none) t p af :: rest) Q ρ w :=
  sliHi hT hx hy (by omega) (by omega) hdn fun A' hA => by
    have := h A' (H.also i hF fun w' hr => by
      by_cases h0 : 0 < c
      · rw [hA h0]; exact hr.take k
      · intro h2; rw [List.length_take] at h2; omega)
    simpa using this
theorem sliLoF {lo hi : Nat} {es : List α} {A : Option Addr} (H : Hp w0 w L F) (i : Nat) (hF : F[i]? = some (FRd Y lo hi A es)) {x y : Operand} {T E l c k : Nat} {kd : IntKind} (hT : sliceB P T E Y.sz = true) (hx : ev ρ x = .slice A l c) (hy : ev ρ y = .int kd (k : Nat)) (hl : l = es.length) (hc : es.length ≤ c) (h1 : k ≤ l) (hdn : Nat.blt d n = true)
    (h : ∀ A', Hp w0 w L (FRd Y lo hi A' (es.drop k) :: F) → LW P n ops rest Q (upd ρ d (.slice A' (l - k) (c - k))) w) : LW P n ops (O d (.slice T x (some y) none none) t p af :: rest) Q ρ w :=
  sliLo hT hx hy (by omega) (by omega) (by omega) hdn fun A' hA => by
    have := h A' (H.also i hF fun w' hr => Rd.from_ hr (k := k) (len := l) (by simpa using hA) (fun h => by omega))
    simpa using this
end
end Go.Eng
end

section
namespace Go.Eng
open Go Go.RowKit
section
variable {P : Program} {n : Nat} {Q : Post} {ρ : Env} {w : World} {ops : Array Oper} {rest : List Oper} {d : Nat} {t : TypeId} {p : String} {af : Array Edge} {g : Option (Nat × Bool)} {dst : Option Nat}
theorem mkf_r {f : FuncId} {xs : List Operand} {vs : List Value} (hv : xs.map (ev ρ) = vs) : (execOp (ev ρ) (Og dst (.makeFunc (.func f) #[] xs.toArray) t p af g)).run P w = .ok (.value (.func (.func f) #[] vs.toArray)) w := by
  subst hv
  simp [execOp, Instr.makeFunc]
theorem mvF_r {x : Operand} {f : Fn} {a b : Array Value} (hx : ev ρ x = .func f a b) : (execOp (ev ρ) (Og dst (.move x) t p af g)).run P w = .ok (.value (.func f a b)) w := mv_r hx
end
section
variable {P : Program} {n : Nat} {Q : Post} {ρ : Env} {w : World} {ops : Array Oper} {rest : List Oper} {d : Nat} {t : TypeId} {p : String} {af : Array Edge}
variable {w0 : World} {L : List (Nat × Obj)} {F : List Fact} {α : Type} {Y : Lay α}
theorem sliLHF {lo hi : Nat} {es : List α} {A : Option Addr} (H : Hp w0 w L F) (i : Nat) (hF : F[i]? = some (FRd Y lo hi A es)) {x y z : Operand} {T E l c k m : Nat} {kd kd' : IntKind} (hT : sliceB P T E Y.sz = true) (hx : ev ρ x = .slice A l c) (hy : ev ρ y = .int kd (k : Nat)) (hz : ev ρ z = .int kd' (m : Nat)) (hc : es.length ≤ c) (h1 : k ≤ m) (h2 : m ≤ c) (hdn : Nat.blt d n = true)
    (h : ∀ A', Hp w0 w L (FRd Y lo hi A' ((es.take m).drop k) :: F) → LW P n ops rest Q (upd ρ d (.slice A' (m - k) (c - k))) w) : LW P n ops (O d (.slice T x (some y) (some z) none) t p af :: rest) Q ρ w :=
  sliLH hT hx hy hz (by omega) (by omega) (by omega) hdn fun A' hA => by
    have := h A' (H.also i hF fun w' hr => Rd.from_ (hr.take m) (k := k) (len := c) (by simpa using hA) (fun h => by rw [List.length_take] at h; omega))
    simpa using this
end
end Go.Eng
end

section
namespace Go.Eng
open Go Go.RowKit
section
variable {P : Program} {n : Nat} {Q : Post} {ρ : Env} {w : World} {ops : Array Oper} {rest : List Oper} {d : Nat} {t : TypeId} {p : String} {af : Array Edge} {g : Option (Nat × Bool)} {dst : Option Nat}
variable {w0 : World} {L : List (Nat × Obj)} {F : List Fact}
theorem capS_r {x : Operand} {T : TypeId} {A : Option Addr} {l c : Nat} (hT : lenB P T = true) (hx : ev ρ x = .slice A l c) : (execOp (ev ρ) (Og dst (.call { callee := .builtin .cap, args := #[x], argTypes := #[T] }) t p af g)).run P w = .ok (.value (.int .i64 c)) w := by
  unfold lenB at hT
  split at hT
  · rename_i e hu
    simp [execOp, resolve, invoke, builtin, Builtin.cap_, hx, run_underlying hu, goInt]
  · cases hT
theorem apZ {T e sz by_ tn : Nat} {kn : IntKind} (hT : apB P T e sz by_ = true) (htn : intB P tn kn = true) (H : Hp w0 w L F) {s x : Operand} {k : IntKind} {m : Nat} (hs : ev ρ s = .slice none 0 0) (hx : ev ρ x = .int k (m : Nat)) (h0 : 0 < m) (hb : m * by_ ≤ 140737488355328) (hdn : Nat.blt d n = true)
    (h : ∀ w' b cp cur, cur.size = cp * sz → m ≤ cp → cp ≤ maxLen → Hp w0 w' ((b, .cells cur e) :: L) F → LW P n ops rest Q (upd ρ d (.slice (some ⟨b, 0, none⟩) m cp)) w') :
    LW P n ops (O d (.call { callee := .builtin .append, args := #[s, x], argTypes := #[T, tn] }) t p af :: rest) Q ρ w := by
  obtain ⟨i, z, h1, h2, h3, h4, h5, h6, h7, h8⟩ := ap_of hT
  have hu : P.underlying tn = some (.int kn) := by
    unfold intB at htn
    split at htn
    · rename_i k' hk; rw [hk, of_decide_eq_true htn]
    · cases htn
  have hm : m ≤ maxLen := by
    have := Nat.le_mul_of_pos_right m h8
    simp only [maxLen]; omega
  have hr := Lib.run_append_nil_zeros (P := P) w T tn t e i z k kn h1 hu h2 h3 m h0 (by omega) (by simp only [maxLen] at hm; omega) (by rw [h5]; omega)
  have hge := grownCap_ge w m 0 e
  refine lw_val rfl rfl hdn ?_ (h _ _ _ (Builtin.zeroCells z.cells m ++ Builtin.zeroCells z.cells (grownCap w m 0 e - m)) ?_ hge (grownCap_le_maxLen w m 0 e hm) ((H.drew).alloc _))
  · simp [execOp, resolve, invoke, builtin, hs, hx, hr]
  · simp only [Array.size_append, size_zeroCells, h6, ← Nat.add_mul]
    congr 1
    omega
end
end Go.Eng
end

section
namespace Go.Eng
open Go Go.RowKit
section
variable {P : Program} {ops : Array Oper} {Q Q' : Exit → Act → World → Prop}
theorem upon_congrQ {o : Oper} {a : Act} {next : Act → World → Prop} (hp : ∀ c a w, Q' (.panic c) a w → Q (.panic c) a w) (ho : ∀ a w, Q' .outgrown a w → Q .outgrown a w) {r : Result Next} (h : o.upon P a next Q' r) : o.upon P a next Q r := by
  unfold Oper.upon at *
  split at h
  · exact h
  · exact h
  · exact h
  · refine Calls.mono h fun e w' he => ?_
    cases e with
    | returned v => exact he
    | panicked c => exact hp _ _ _ he
    | outgrown => obtain ⟨a, w, hq⟩ := he; exact ⟨a, w, ho _ _ hq⟩
  · exact h
  · exact hp _ _ _ h
  · exact h.elim
theorem wpOp_congrQ {i : Nat} {K : Act → World → Prop} {a : Act} {w : World} (hp : ∀ c a w, Q' (.panic c) a w → Q (.panic c) a w) (ho : ∀ a w, Q' .outgrown a w → Q .outgrown a w) (h : wpOp P ops Q' i K a w) : wpOp P ops Q i K a w := by
  unfold wpOp at *
  split
  · rename_i hn; rw [hn] at h; exact h
  · rename_i o hs
    rw [hs] at h
    simp only at h
    split
    · rename_i hw
      rw [if_pos hw] at h
      rcases h with h | ⟨h1, a, w, h2⟩
      · exact .inl (upon_congrQ hp ho h)
      · exact .inr ⟨h1, a, w, ho _ _ h2⟩
    · rename_i hw
      rw [if_neg hw] at h
      exact h
end
/-- the operations ord in their order, then whichever of the others is ready -/
def ordT (md : Region.Mode) (ops : Array Oper) (S pu : List Nat) : List Nat → Array Bool → Bool
  | [], listed => (Region.ready md ops listed).all fun i => S.contains i
  | i :: r, listed => (Region.ready md ops listed).contains i && Region.free md ops listed i && !S.contains i && pu.contains i && ordT md ops S pu r (listed.setIfInBounds i true)
def listedOf : List Nat → Array Bool → Array Bool
  | [], l => l
  | i :: r, l => listedOf r (l.setIfInBounds i true)
section
variable {P : Program} {n : Nat} {Q : Post} {ρ : Env} {w : World} {ops : Array Oper}
/-- whichever operation is ready, f of them at most -/
def XW (P : Program) (n : Nat) (ops : Array Oper) (Q : Post) (f : Nat) (listed : Array Bool) (ρ : Env) (w : World) : Prop := ∀ a, St n ρ a → wpAny P .any ops (low n Q) f listed a w
theorem xw_end {f : Nat} {listed : Array Bool} (hr : (Region.ready .any ops listed).isEmpty = true) (h : Q .normal ρ w) : XW P n ops Q f listed ρ w := fun a ha => by
  have hr' : Region.ready .any ops listed = [] := by simpa using hr
  cases f with
  | zero => exact ⟨hr', ρ, ha, h⟩
  | succ f => exact ⟨fun _ => ⟨ρ, ha, h⟩, fun i hi => by rw [hr'] at hi; cases hi⟩
theorem xw_op {f i : Nat} {listed : Array Bool} (hi : (ops[i]?).isSome = true) (h : LW P n ops (pick ops [i]) (thn (XW P n ops Q f (listed.setIfInBounds i true)) Q) ρ w) (a : Act) (ha : St n ρ a) : wpOp P ops (low n Q) i (wpAny P .any ops (low n Q) f (listed.setIfInBounds i true)) a w := by
  have h1 := h a ha
  rw [← wpOps_pick [i] (by simp [hi]), wpOps_cons] at h1
  refine wpOp_congrQ (fun c a w h => h) (fun a w h => h) (wpOp_mono (fun a' w' h2 => ?_) h1)
  obtain ⟨ρ', hs, hk⟩ := h2
  exact hk a' hs
theorem xw1 (i : Nat) {f : Nat} {listed : Array Bool} (hr : (Region.ready .any ops listed == [i]) = true) (hi : (ops[i]?).isSome = true) (h : LW P n ops (pick ops [i]) (thn (XW P n ops Q f (listed.setIfInBounds i true)) Q) ρ w) : XW P n ops Q (f + 1) listed ρ w := fun a ha => by
  have hr' : Region.ready .any ops listed = [i] := by simpa using hr
  refine ⟨fun h0 => (by rw [hr'] at h0; cases h0), fun j hj => ?_⟩
  rw [hr'] at hj
  obtain rfl := List.mem_singleton.1 hj
  exact xw_op hi h a ha
theorem xw2 (i j : Nat) {f : Nat} {listed : Array Bool} (hr : (Region.ready .any ops listed == [i, j]) = true) (hi : (ops[i]?).isSome = true) (hj : (ops[j]?).isSome = true) (h1 : LW P n ops (pick ops [i]) (thn (XW P n ops Q f (listed.setIfInBounds i true)) Q) ρ w) (h2 : LW P n ops (pick ops [j]) (thn (XW P n ops Q f (listed.setIfInBounds j true)) Q) ρ w) : XW P n ops Q (f + 1) listed ρ w := fun a ha => by
  have hr' : Region.ready .any ops listed = [i, j] := by simpa using hr
  refine ⟨fun h0 => (by rw [hr'] at h0; cases h0), fun k hk => ?_⟩
  rw [hr'] at hk
  simp only [List.mem_cons, List.mem_nil_iff, or_false] at hk
  rcases hk with rfl | rfl
  · exact xw_op hi h1 a ha
  · exact xw_op hj h2 a ha
theorem xw3 (i j m : Nat) {f : Nat} {listed : Array Bool} (hr : (Region.ready .any ops listed == [i, j, m]) = true) (hi : (ops[i]?).isSome = true) (hj : (ops[j]?).isSome = true) (hm : (ops[m]?).isSome = true) (h1 : LW P n ops (pick ops [i]) (thn (XW P n ops Q f (listed.setIfInBounds i true)) Q) ρ w) (h2 : LW P n ops (pick ops [j]) (thn (XW P n ops Q f (listed.setIfInBounds j true)) Q) ρ w) (h3 : LW P n ops (pick ops [m]) (thn (XW P n ops Q f (listed.setIfInBounds m true)) Q) ρ w) : XW P n ops Q (f + 1) listed ρ w := fun a ha => by
  have hr' : Region.ready .any ops listed = [i, j, m] := by simpa using hr
  refine ⟨fun h0 => (by rw [hr'] at h0; cases h0), fun k hk => ?_⟩
  rw [hr'] at hk
  simp only [List.mem_cons, List.mem_nil_iff, or_false] at hk
  rcases hk with rfl | rfl | rfl
  · exact xw_op hi h1 a ha
  · exact xw_op hj h2 a ha
  · exact xw_op hm h3 a ha

theorem wpG_tree {C : Fct} {S pu : List Nat} {spec : Nat → Value → Fct} {Q' : Exit → Act → World → Prop} (k : Nat) (hC : ∀ w w', C w → Below w.heap.size w w' → C w') (h0 : ∃ w, C w) (hsel : ∀ (j : Nat) (o : Oper) cs b, ops[j]? = some o → o.op ≠ .select cs b) (hQ : ∀ c a w, ¬ Q' (.panic c) a w) :
    ∀ (ord : List Nat) (listed : Array Bool) (a : Act), Clo .any ops listed → ordT .any ops S pu ord listed = true → wpR P ops C [] pu spec (fun a' _ => ∀ w, C w → wpAny P .any ops Q' k (listedOf ord listed) a' w) ord a (fun _ => True) →
      wpG P .any ops C S [] pu spec Q' (ord.length + k) listed a (fun _ => True)
  | [], listed, a, _, hB, h => by
    unfold ordT at hB
    unfold wpR listedOf at h
    have hB' := List.all_eq_true.1 hB
    simp only [List.length_nil, Nat.zero_add]
    cases k with
    | zero =>
      obtain ⟨w, hw⟩ := h0
      exact ⟨(h w hw).1, fun w hc _ => (h w hc).2⟩
    | succ k => exact ⟨fun hr w hc _ => (h w hc).1 hr, fun i hi => by rw [if_pos (hB' i hi)]; exact fun w hc _ => (h w hc).2 i hi⟩
  | i :: r, listed, a, hclo, hB, h => by
    simp only [ordT, Bool.and_eq_true] at hB
    obtain ⟨⟨⟨⟨hr, hf⟩, hS⟩, hp⟩, hB'⟩ := hB
    have hi : ∃ oi, ops[i]? = some oi := by
      cases ho : ops[i]? with
      | none => unfold wpR opA at h; simp only [ho] at h
      | some o => exact ⟨o, rfl⟩
    obtain ⟨oi, hi⟩ := hi
    have key : opA P ops C [] pu spec i (wpG P .any ops C S [] pu spec Q' (r.length + k) (listed.setIfInBounds i true)) a (fun _ => True) := by
      unfold wpR at h
      unfold opA at h ⊢
      simp only [hi] at h ⊢
      split at h
      · rename_i hwt
        rw [if_pos hwt]
        simp only [List.contains_nil, Bool.false_eq_true, if_false] at h ⊢
        obtain ⟨v, h1, h2⟩ := h
        exact ⟨v, (by first | exact h1 | (rw [if_pos hp]; exact h1)), wpG_tree k hC h0 hsel hQ r _ _ (hclo.put (by simpa using hr)) hB' h2⟩
      · rename_i hwt
        rw [if_neg hwt]
        exact wpG_tree k hC h0 hsel hQ r _ _ (hclo.put (by simpa using hr)) hB' h
    have := wpG_first (P := P) (C := C) (S := S) (lo := []) (pu := pu) (spec := spec) (Q := Q') (md := .any) hC h0 hi hsel (by simpa using hS) (fun _ => by simp) (fun hp' => by rw [hp] at hp'; cases hp') hQ (r.length + k) listed a (fun _ => True) hclo (Region.free_spec hi hf) (by simpa using hr) key
    have e : (i :: r).length + k = r.length + k + 1 := by simp only [List.length_cons]; omega
    rw [e]
    exact this

/-- A REGION THAT DRAWS ITS ORDER, order by order: ord: operations that are reckoned out of the frame alone; then each that is ready -/
theorem cw_tree {id : Nat} {l : List Oper} (hm : P.follows .mixedOrders = true) (ord S pu : List Nat) (k : Nat) (hn : Region.noSelect l.toArray = true) (hB : ordT .any l.toArray S pu ord (Array.replicate l.toArray.size false) = true) (hl : Nat.beq (ord.length + k) l.length = true) (hQ : ∀ c ρ w, ¬ Q (.panic c) ρ w)
    (h : AW P n l.toArray (Aft w) [] pu (fun _ _ _ => True) (fun ρ' _ => ∀ w', Aft w w' → XW P n l.toArray Q k (listedOf ord (Array.replicate l.toArray.size false)) ρ' w') ord ρ (fun _ => True)) : CW P n (.region id l.toArray true) Q ρ w := fun a ha => by
  refine wp_region_any hm ?_
  have hlen : l.toArray.size = ord.length + k := by
    have := Nat.eq_of_beq_eq_true hl
    simpa using this.symm
  have hc0 : Aft w { w with drawn := w.drawn + 1 } := (Below.refl w.heap.size w).drew
  have hG := wpG_tree (P := P) (ops := l.toArray) (C := Aft w) (S := S) (pu := pu) (spec := fun _ _ _ => True) (Q' := low n Q) k Aft.closed ⟨_, hc0⟩ (Region.noSelect_spec hn) (fun c a w ⟨ρ, _, hq⟩ => hQ c ρ w hq)
    ord (Array.replicate l.toArray.size false) a (fun k ok hk hl => by
      have hlt := (Array.getElem?_eq_some_iff.1 hk).1
      simp only [List.size_toArray] at hlt
      simp [hlt] at hl) hB ?_
  · rw [hlen]
    rw [hlen] at hG
    exact wpG_sound Aft.closed (fun _ _ _ _ _ _ _ => trivial) _ _ _ _ (fun _ _ _ _ _ => trivial) hG _ hc0 trivial
  · have h1 := h a ha
    have key : ∀ (ord : List Nat) (a : Act) (Fc : Fct) (lst : Array Bool), wpR P l.toArray (Aft w) [] pu (fun _ _ _ => True) (fun a' F' => ∃ ρ', St n ρ' a' ∧ ∀ w', Aft w w' → XW P n l.toArray Q k lst ρ' w') ord a Fc →
        wpR P l.toArray (Aft w) [] pu (fun _ _ _ => True) (fun a' F' => ∀ w', Aft w w' → wpAny P .any l.toArray (low n Q) k lst a' w') ord a Fc := by
      intro ord
      induction ord with
      | nil =>
        intro a Fc lst ⟨ρ', hs, hk⟩ w' h2
        exact hk w' h2 a hs
      | cons i r ih =>
        intro a Fc lst hk
        unfold wpR opA at hk ⊢
        split at hk
        · exact hk.elim
        · split at hk
          · rename_i hw
            rw [if_pos hw]
            simp only [List.contains_nil, Bool.false_eq_true, if_false] at hk ⊢
            obtain ⟨v, e1, e2⟩ := hk
            exact ⟨v, e1, ih _ _ _ e2⟩
          · rename_i hw
            rw [if_neg hw]
            exact ih _ _ _ hk
    exact key ord a _ _ h1
end
/-- a row of new memory -/
def Sp.row {α : Type} (lo : Nat) (Y : Lay α) (es : List α) : Sp := ⟨fun v w => ∃ A c, v = .slice A es.length c ∧ es.length ≤ c ∧ Rd Y lo w.heap.size A es w, fun _ _ _ hb ⟨A, c, h1, h2, h3⟩ => ⟨A, c, h1, h2, (h3.below hb).mono (Nat.le_refl _) hb.size⟩⟩
section
variable {P : Program} {n : Nat} {ρ : Env} {ops : Array Oper} {d : Nat} {t : TypeId} {p : String} {af : Array Edge} {g : Option (Nat × Bool)}
variable {C : Fct} {lo pu : List Nat} {spec : Nat → Value → Fct} {T : Env → Fct → Prop} {r : List Nat} {Fc : Fct} {i : Nat} {α : Type} {Y : Lay α}
theorem awRow {es : List α} {lo' : Nat} {f : FuncId} {xs : List Operand} {ats : Array TypeId} {vs : List Value} (hf : callB P f = true) (hi : ops[i]? = some (Og (some d) (.call { callee := .value (.func f), args := xs.toArray, argTypes := ats }) t p af g)) (hw : wantE ops ρ (Og (some d) (.call { callee := .value (.func f), args := xs.toArray, argTypes := ats }) t p af g) = true) (hl : lo.contains i = true) (hdn : Nat.blt d n = true)
    (hs : spec i = (Sp.row lo' Y es).V) (hC : ∀ w', C w' → lo' ≤ w'.heap.size) (hc : ∀ w', C w' → Ret P f vs w' fun v w2 => ∃ A c, v = .slice A es.length c ∧ es.length ≤ c ∧ Rd Y w'.heap.size w2.heap.size A es w2 ∧ Below w'.heap.size w' w2) (hv : xs.map (ev ρ) = vs)
    (h : ∀ A c, es.length ≤ c → AW P n ops C lo pu spec T r (upd ρ d (.slice A es.length c)) (fun w => Fc w ∧ (Sp.row lo' Y es).V (.slice A es.length c) w)) : AW P n ops C lo pu spec T (i :: r) ρ Fc :=
  awCal hf hi hw hl hdn (fun w' hw' => (hc w' hw').mono fun v w2 ⟨A, c, h1, h2, h3, h4⟩ => ⟨h4, by rw [hs]; exact ⟨A, c, h1, h2, h3.mono (hC w' hw') (Nat.le_refl _)⟩⟩) hv fun v ⟨w', _, hv'⟩ => by
    rw [hs] at hv' ⊢
    obtain ⟨A, c, rfl, h2, _⟩ := hv'
    exact h A c h2
end
theorem Hp.learnOwn {α : Type} {Y : Lay α} {w0 w w' : World} {L L' : List (Nat × Obj)} {F : List Fact} {A : Option Addr} {n c : Nat} {e : TypeId} {es : List α} (H : Hp w0 w L F) (hj : Hp w w' L' []) (ho : Own Y (.slice A n c) e es L') : Hp w0 w' L (FRd Y w.heap.size w'.heap.size A es :: F) :=
  H.learnRd hj.below (ho.rd (K := []) (M := []) (by simpa using hj))
theorem Hp.learnAlso {α : Type} {Y : Lay α} {w0 w w' : World} {L : List (Nat × Obj)} {F F0 : List Fact} {A : Option Addr} {es : List α} (H0 : Hp w0 w L F0) (H : Hp w0 w' L F) (hr : Rd Y w.heap.size w'.heap.size A es w') : Hp w0 w' L (FRd Y w.heap.size w'.heap.size A es :: F) := by
  refine ⟨H.below, H.ents, H.nodup, fun g hg => ?_⟩
  rcases List.mem_cons.1 hg with rfl | hg
  · exact ⟨hr, Nat.le_refl _, fun e he => .inl (H0.ltAll e he)⟩
  · exact H.facts g hg
section
variable {P : Program} {ρ : Env} {w : World}
theorem finCTn {fn : Func} {R : Value → World → Prop} {a0 T0 sz0 b0 : Nat} {cs0 : Array Value} {tt0 : TypeId} {fr0 : Nat × Nat} {u1 : Nat} {v1 : Value} (h : fn.results = #[.cell a0 T0, .tmp u1]) (hT0 : aggB P T0 sz0 = true) (ha0 : ρ a0 = .pointer (some ⟨b0, 0, none⟩)) (hb0 : w.heap[b0]? = some (.cells cs0 tt0 fr0)) (hs0 : cs0.size = sz0) (hv1 : ρ u1 = v1) (hR : R (.tuple #[.agg cs0, v1]) w) : Fin P fn R .ret ρ w :=
  ⟨_, fun ac hac => by
    have hl0 := run_loadAgg (P := P) (w := w) (a := ⟨b0, 0, none⟩) (xs := cs0.toList) hT0 (by simpa using hs0) (fun j v hj => by rw [Addr.add_lit, Nat.zero_add]; exact cellE hb0 (by simpa using hj))
    have h10 := hac.get a0
    rw [ha0, Array.getD_eq_getD_getElem?] at h10
    rw [← hv1, ← hac.get u1]
    simp [results, h, asAddr, h10, hl0], hR⟩
end
end Go.Eng
end
