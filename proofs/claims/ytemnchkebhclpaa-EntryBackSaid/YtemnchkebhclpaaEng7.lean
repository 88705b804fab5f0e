/- Eng7: a part of the proofs over this seat: what stands in its theorems holds for every input that they name. -/
import Derived.Test.YtemnchkebhclpaaOrd
namespace Go.Eng
open Go Go.RowKit

def wantE (ops : Array Oper) (ρ : Env) (o : Oper) : Bool :=
  match o.guard with
  | none => true
  | some (j, b) => match ops[j]? with
    | some o' => match o'.dst with
      | some d => match ρ d with
        | .bool b' => b' == b
        | _ => false
      | none => false
    | none => false
/-- an operation, guarded or not -/
abbrev Og (dst : Option Nat) (op : Op) (t : TypeId) (p : String) (af : Array Edge) (g : Option (Nat × Bool)) : Oper := { dst := dst, op := op, type := t, pos := p, after := af, guard := g }
/-- where a slice's piece lies -/
def cut (A : Option Addr) (cap l sz : Nat) : Option Addr := if cap = l then A else A.map (·.add (l * sz))
theorem cut_from {A : Option Addr} {cap l len sz : Nat} (h : len ≤ cap) : From A (cut A cap l sz) l len sz := fun hlt b o hA => by
  subst hA
  unfold cut
  rw [if_neg (by omega)]
  simp [Addr.add_lit]

section
variable {P : Program} {n : Nat} {Q : Post} {ρ : Env} {w : World} {ops : Array Oper} {rest : List Oper} {d : Nat} {t : TypeId} {p : String} {af : Array Edge} {g : Option (Nat × Bool)} {dst : Option Nat}
theorem St.wants {a : Act} (ha : St n ρ a) (o : Oper) : Region.wanted o (Go.yielded ops a.tmps) = wantE ops ρ o := by
  unfold Region.wanted wantE
  cases hg : o.guard with
  | none => rfl
  | some q =>
    obtain ⟨j, b⟩ := q
    simp only
    cases hj : ops[j]? with
    | none => simp [Go.yielded, hj]
    | some o' =>
      simp only
      cases hd : o'.dst with
      | none => simp [Go.yielded, hj, hd]
      | some dj =>
        simp only
        have hgt := ha.get dj
        simp only [Go.yielded, hj, Option.bind_some, hd]
        rw [Array.getD_eq_getD_getElem?] at hgt
        cases h : a.tmps[dj]? with
        | none =>
          rw [h] at hgt
          simp only [Option.getD_none] at hgt
          rw [← hgt]
          rfl
        | some v =>
          rw [h] at hgt
          simp only [Option.getD_some] at hgt
          subst hgt
          cases hv : ρ dj <;> simp [BEq.comm]
theorem lwG {o : Oper} (hw : wantE ops ρ o = true) (h : LW P n ops ({ o with guard := none } :: rest) Q ρ w) : LW P n ops (o :: rest) Q ρ w := fun a ha => by
  have := h a ha
  unfold wpList at this ⊢
  rw [ha.wants o, hw]
  have hw' : Region.wanted { o with guard := none } (Go.yielded ops a.tmps) = true := rfl
  rw [hw'] at this
  exact this
theorem lwN {o : Oper} (hw : wantE ops ρ o = false) (hd : o.dst = some d) (hdn : Nat.blt d n = true) (h : LW P n ops rest Q (upd ρ d undef) w) : LW P n ops (o :: rest) Q ρ w := fun a ha => by
  refine wpList_skip (by rw [ha.wants o, hw]) ?_
  rw [hd]
  exact h _ (ha.put hdn _)

/-! what the operations come to -/
theorem mv_r {x : Operand} {v : Value} (hx : ev ρ x = v) : (execOp (ev ρ) (Og dst (.move x) t p af g)).run P w = .ok (.value v) w := by simp [execOp, hx]
theorem as_r {x : Operand} {v : Value} (hx : ev ρ x = v) : (execOp (ev ρ) (Og dst (.assign x) t p af g)).run P w = .ok (.value v) w := by simp [execOp, hx]
theorem lss_r {x y : Operand} {ty ty' : TypeId} {k : IntKind} {a b : Int} (hx : ev ρ x = .int k a) (hy : ev ρ y = .int k b) : (execOp (ev ρ) (Og dst (.binOp .lss ty x y ty') t p af g)).run P w = .ok (.value (.bool (decide (a < b)))) w := by simp [execOp, hx, hy, eqGuard, binOp, Op.intCmp]
theorem leq_r {x y : Operand} {ty ty' : TypeId} {k : IntKind} {a b : Int} (hx : ev ρ x = .int k a) (hy : ev ρ y = .int k b) : (execOp (ev ρ) (Og dst (.binOp .leq ty x y ty') t p af g)).run P w = .ok (.value (.bool (decide (a ≤ b)))) w := by simp [execOp, hx, hy, eqGuard, binOp, Op.intCmp]
theorem gtr_r {x y : Operand} {ty ty' : TypeId} {k : IntKind} {a b : Int} (hx : ev ρ x = .int k a) (hy : ev ρ y = .int k b) : (execOp (ev ρ) (Og dst (.binOp .gtr ty x y ty') t p af g)).run P w = .ok (.value (.bool (decide (b < a)))) w := by simp [execOp, hx, hy, eqGuard, binOp, Op.intCmp]
theorem geq_r {x y : Operand} {ty ty' : TypeId} {k : IntKind} {a b : Int} (hx : ev ρ x = .int k a) (hy : ev ρ y = .int k b) : (execOp (ev ρ) (Og dst (.binOp .geq ty x y ty') t p af g)).run P w = .ok (.value (.bool (decide (b ≤ a)))) w := by simp [execOp, hx, hy, eqGuard, binOp, Op.intCmp]
theorem eql_r {x y : Operand} {ty ty' : TypeId} {k : IntKind} {a b : Int} (hx : ev ρ x = .int k a) (hy : ev ρ y = .int k b) : (execOp (ev ρ) (Og dst (.binOp .eql ty x y ty') t p af g)).run P w = .ok (.value (.bool (decide (a = b)))) w := by
  simp [execOp, hx, hy, eqGuard, binOp, Op.intCmp]; try rfl
theorem neq_r {x y : Operand} {ty ty' : TypeId} {k : IntKind} {a b : Int} (hx : ev ρ x = .int k a) (hy : ev ρ y = .int k b) : (execOp (ev ρ) (Og dst (.binOp .neq ty x y ty') t p af g)).run P w = .ok (.value (.bool (!decide (a = b)))) w := by
  simp [execOp, hx, hy, eqGuard, binOp, Op.intCmp]; try rfl
theorem add_r {x y : Operand} {ty ty' : TypeId} {a b : Int} (hx : ev ρ x = .int .i64 a) (hy : ev ρ y = .int .i64 b) (h1 : -9000000000000000000 ≤ a + b) (h2 : a + b ≤ 9000000000000000000) : (execOp (ev ρ) (Og dst (.binOp .add ty x y ty') t p af g)).run P w = .ok (.value (.int .i64 (a + b))) w := by simp [execOp, hx, hy, eqGuard, binOp, Op.intArith, wrapI h1 h2]
theorem sub_r {x y : Operand} {ty ty' : TypeId} {a b : Int} (hx : ev ρ x = .int .i64 a) (hy : ev ρ y = .int .i64 b) (h1 : -9000000000000000000 ≤ a - b) (h2 : a - b ≤ 9000000000000000000) : (execOp (ev ρ) (Og dst (.binOp .sub ty x y ty') t p af g)).run P w = .ok (.value (.int .i64 (a - b))) w := by simp [execOp, hx, hy, eqGuard, binOp, Op.intArith, wrapI h1 h2]
theorem not_r {x : Operand} {ty : TypeId} {b : Bool} (hx : ev ρ x = .bool b) : (execOp (ev ρ) (Og dst (.unOp .not ty x) t p af g)).run P w = .ok (.value (.bool (!b))) w := by simp [execOp, hx, Op.unary]
theorem pkT_r {c x y : Operand} {v : Value} (hc : ev ρ c = .bool true) (hx : ev ρ x = v) : (execOp (ev ρ) (Og dst (.pick c x y) t p af g)).run P w = .ok (.value v) w := by simp [execOp, hc, hx, asBool]
theorem pkF_r {c x y : Operand} {v : Value} (hc : ev ρ c = .bool false) (hy : ev ρ y = v) : (execOp (ev ρ) (Og dst (.pick c x y) t p af g)).run P w = .ok (.value v) w := by simp [execOp, hc, hy, asBool]
theorem ex_r {x : Operand} {i : Nat} {vs : List Value} {v : Value} (hx : ev ρ x = .tuple vs.toArray) (hi : vs[i]? = some v) : (execOp (ev ρ) (Og dst (.extract x i) t p af g)).run P w = .ok (.value v) w := by simp [execOp, hx, Instr.extract, hi]
theorem nck_r {x : Operand} {a : Addr} (hx : ev ρ x = .pointer (some a)) : (execOp (ev ρ) (Og dst (.nilCheck x) t p af g)).run P w = .ok (.value (.pointer (some a))) w := by simp [execOp, hx]
theorem fad_r {x : Operand} {T f off b o : Nat} (hf : fieldB P T f off = true) (hx : ev ρ x = .pointer (some ⟨b, o, none⟩)) : (execOp (ev ρ) (Og dst (.fieldAddr T x f) t p af g)).run P w = .ok (.value (.pointer (some ⟨b, o + off, none⟩))) w := by
  obtain ⟨fs, q, i, h1, h2, h3, h4, h5⟩ := field_of hf
  simp only [execOp, hx, Instr.fieldAt, Sem.run_bind, run_underlying h1, Result.andThen_ok, h2, Instr.sureAddr, Sem.run_pure, fieldPlace, run_size h4, h5, if_false, h3, Addr.add_lit]
theorem ixa_r {x y : Operand} {T E sz b o l c : Nat} {k : IntKind} {i : Int} (hT : sliceB P T E sz = true) (hx : ev ρ x = .slice (some ⟨b, o, none⟩) l c) (hy : ev ρ y = .int k i) (h0 : 0 ≤ i) (hl : i < l) : (execOp (ev ρ) (Og dst (.indexAddr T x y) t p af g)).run P w = .ok (.value (.pointer (some ⟨b, o + i.toNat * sz, none⟩))) w := by
  obtain ⟨h1, j, h2, h3⟩ := slice_of hT
  simp only [execOp, hx, hy, Instr.indexAt, asIntOf, Sem.run_bind, run_underlying h1, Result.andThen_ok, Sem.run_pure]
  simp [h0, hl, run_size h2, h3, Addr.add_lit]
theorem ld_r {x : Operand} {T : TypeId} {a : Addr} {v : Value} (hT : oneB P T = true) (hx : ev ρ x = .pointer (some a)) (hc : w.cell? a = some v) : (execOp (ev ρ) (Og dst (.load T x) t p af g)).run P w = .ok (.value v) w := by
  simp only [execOp, hx, Instr.loadAt, Instr.sureAddr, Sem.run_bind, Sem.run_pure, Result.andThen_ok, run_loadOne hT hc]
theorem ldA_r {x : Operand} {T sz b o : Nat} {xs : List Value} (hT : aggB P T sz = true) (hx : ev ρ x = .pointer (some ⟨b, o, none⟩)) (hl : xs.length = sz) (hc : ∀ j v, xs[j]? = some v → w.cell? ⟨b, o + j, none⟩ = some v) : (execOp (ev ρ) (Og dst (.load T x) t p af g)).run P w = .ok (.value (.agg xs.toArray)) w := by
  simp only [execOp, hx, Instr.loadAt, Instr.sureAddr, Sem.run_bind, Sem.run_pure, Result.andThen_ok, run_loadAgg hT hl (fun j v hj => by rw [Addr.add_lit]; exact hc j v hj)]
theorem lenS_r {x : Operand} {T : TypeId} {A : Option Addr} {l c : Nat} (hT : lenB P T = true) (hx : ev ρ x = .slice A l c) : (execOp (ev ρ) (Og dst (.call { callee := .builtin .len, args := #[x], argTypes := #[T] }) t p af g)).run P w = .ok (.value (.int .i64 l)) w := by
  unfold lenB at hT
  split at hT
  · rename_i e hu
    simp [execOp, resolve, invoke, builtin, Builtin.len_, hx, run_underlying hu, goInt]
  · cases hT
theorem sliLo_r {x lo : Operand} {T E sz : Nat} {A : Option Addr} {len cap : Nat} {k : IntKind} {i : Int} (hT : sliceB P T E sz = true) (hx : ev ρ x = .slice A len cap) (hl : ev ρ lo = .int k i) (h0 : 0 ≤ i) (h1 : i ≤ len) : (execOp (ev ρ) (Og dst (.slice T x (some lo) none none) t p af g)).run P w = .ok (.value (.slice (cut A cap i.toNat sz) (len - i.toNat) (cap - i.toNat))) w := by
  obtain ⟨hu, j, h2, h3⟩ := slice_of hT
  simp only [execOp, Instr.sliceAt, Option.map_some, Option.map_none, hx, hl, Sem.run_bind, run_underlying hu, Result.andThen_ok, Instr.slice, Instr.sliceBounds, Instr.sliceBound, asIntOf, Sem.run_pure]
  simp [h0, h1, run_size h2, h3, cut]
theorem sliHi_r {x hi : Operand} {T E sz : Nat} {A : Option Addr} {len cap : Nat} {k : IntKind} {i : Int} (hT : sliceB P T E sz = true) (hx : ev ρ x = .slice A len cap) (hl : ev ρ hi = .int k i) (h0 : 0 ≤ i) (h1 : i ≤ cap) : (execOp (ev ρ) (Og dst (.slice T x none (some hi) none) t p af g)).run P w = .ok (.value (.slice (cut A cap 0 sz) i.toNat cap)) w := by
  obtain ⟨hu, j, h2, h3⟩ := slice_of hT
  simp only [execOp, Instr.sliceAt, Option.map_some, Option.map_none, hx, hl, Sem.run_bind, run_underlying hu, Result.andThen_ok, Instr.slice, Instr.sliceBounds, Instr.sliceBound, asIntOf, Sem.run_pure]
  simp [h0, h1, run_size h2, h3, cut]
theorem cvI_r {x : Operand} {S T : TypeId} {k k' : IntKind} {a b : Int} (hS : intB P S k = true) (hT : intB P T k' = true) (hx : ev ρ x = .int k a) (hw : k'.wrap a = b) : (execOp (ev ρ) (Og dst (.convert S T x) t p af g)).run P w = .ok (.value (.int k' b)) w := by
  unfold intB at hS hT
  split at hS
  · rename_i k1 h1
    split at hT
    · rename_i k2 h2
      have := of_decide_eq_true hT
      subst this
      simp [execOp, convert, hx, run_underlying h1, run_underlying h2, Conv.intToInt, hw]
    · cases hT
  · cases hS

theorem lssT_r {x y : Operand} {ty ty' : TypeId} {k : IntKind} {a b : Int} (hx : ev ρ x = .int k a) (hy : ev ρ y = .int k b) (hp : a < b) : (execOp (ev ρ) (Og dst (.binOp .lss ty x y ty') t p af g)).run P w = .ok (.value (.bool true)) w := by rw [lss_r hx hy]; simp [hp]
theorem lssF_r {x y : Operand} {ty ty' : TypeId} {k : IntKind} {a b : Int} (hx : ev ρ x = .int k a) (hy : ev ρ y = .int k b) (hp : ¬ a < b) : (execOp (ev ρ) (Og dst (.binOp .lss ty x y ty') t p af g)).run P w = .ok (.value (.bool false)) w := by rw [lss_r hx hy]; simp [hp]
theorem leqT_r {x y : Operand} {ty ty' : TypeId} {k : IntKind} {a b : Int} (hx : ev ρ x = .int k a) (hy : ev ρ y = .int k b) (hp : a ≤ b) : (execOp (ev ρ) (Og dst (.binOp .leq ty x y ty') t p af g)).run P w = .ok (.value (.bool true)) w := by rw [leq_r hx hy]; simp [hp]
theorem leqF_r {x y : Operand} {ty ty' : TypeId} {k : IntKind} {a b : Int} (hx : ev ρ x = .int k a) (hy : ev ρ y = .int k b) (hp : ¬ a ≤ b) : (execOp (ev ρ) (Og dst (.binOp .leq ty x y ty') t p af g)).run P w = .ok (.value (.bool false)) w := by rw [leq_r hx hy]; simp [hp]
theorem gtrT_r {x y : Operand} {ty ty' : TypeId} {k : IntKind} {a b : Int} (hx : ev ρ x = .int k a) (hy : ev ρ y = .int k b) (hp : b < a) : (execOp (ev ρ) (Og dst (.binOp .gtr ty x y ty') t p af g)).run P w = .ok (.value (.bool true)) w := by rw [gtr_r hx hy]; simp [hp]
theorem gtrF_r {x y : Operand} {ty ty' : TypeId} {k : IntKind} {a b : Int} (hx : ev ρ x = .int k a) (hy : ev ρ y = .int k b) (hp : ¬ b < a) : (execOp (ev ρ) (Og dst (.binOp .gtr ty x y ty') t p af g)).run P w = .ok (.value (.bool false)) w := by rw [gtr_r hx hy]; simp [hp]
theorem geqT_r {x y : Operand} {ty ty' : TypeId} {k : IntKind} {a b : Int} (hx : ev ρ x = .int k a) (hy : ev ρ y = .int k b) (hp : b ≤ a) : (execOp (ev ρ) (Og dst (.binOp .geq ty x y ty') t p af g)).run P w = .ok (.value (.bool true)) w := by rw [geq_r hx hy]; simp [hp]
theorem geqF_r {x y : Operand} {ty ty' : TypeId} {k : IntKind} {a b : Int} (hx : ev ρ x = .int k a) (hy : ev ρ y = .int k b) (hp : ¬ b ≤ a) : (execOp (ev ρ) (Og dst (.binOp .geq ty x y ty') t p af g)).run P w = .ok (.value (.bool false)) w := by rw [geq_r hx hy]; simp [hp]
theorem eqlT_r {x y : Operand} {ty ty' : TypeId} {k : IntKind} {a b : Int} (hx : ev ρ x = .int k a) (hy : ev ρ y = .int k b) (hp : a = b) : (execOp (ev ρ) (Og dst (.binOp .eql ty x y ty') t p af g)).run P w = .ok (.value (.bool true)) w := by rw [eql_r hx hy]; simp [hp]
theorem eqlF_r {x y : Operand} {ty ty' : TypeId} {k : IntKind} {a b : Int} (hx : ev ρ x = .int k a) (hy : ev ρ y = .int k b) (hp : ¬ a = b) : (execOp (ev ρ) (Og dst (.binOp .eql ty x y ty') t p af g)).run P w = .ok (.value (.bool false)) w := by rw [eql_r hx hy]; simp [hp]
theorem neqT_r {x y : Operand} {ty ty' : TypeId} {k : IntKind} {a b : Int} (hx : ev ρ x = .int k a) (hy : ev ρ y = .int k b) (hp : ¬ a = b) : (execOp (ev ρ) (Og dst (.binOp .neq ty x y ty') t p af g)).run P w = .ok (.value (.bool true)) w := by rw [neq_r hx hy]; simp [hp]
theorem neqF_r {x y : Operand} {ty ty' : TypeId} {k : IntKind} {a b : Int} (hx : ev ρ x = .int k a) (hy : ev ρ y = .int k b) (hp : a = b) : (execOp (ev ρ) (Og dst (.binOp .neq ty x y ty') t p af g)).run P w = .ok (.value (.bool false)) w := by rw [neq_r hx hy]; simp [hp]
/-! the walk over a region that draws -/
variable {C : Fct} {lo pu : List Nat} {spec : Nat → Value → Fct} {T : Env → Fct → Prop} {r : List Nat} {Fc : Fct} {i : Nat} {o : Oper}
theorem aw_nil (h : T ρ Fc) : AW P n ops C lo pu spec T [] ρ Fc := fun _ ha => ⟨ρ, ha, h⟩
/-- an operation of one value -/
theorem aw {v : Value} (hi : ops[i]? = some o) (hw : wantE ops ρ o = true) (hl : lo.contains i = false) (hd : o.dst = some d) (hdn : Nat.blt d n = true) (hr : ∀ w', (bif pu.contains i then True else C w') → (execOp (ev ρ) o).run P w' = .ok (.value v) w')
    (h : AW P n ops C lo pu spec T r (upd ρ d v) Fc) : AW P n ops C lo pu spec T (i :: r) ρ Fc := fun a ha => by
  unfold wpR opA
  simp only [hi, ha.wants o, hw, if_true, hl, Bool.false_eq_true, if_false]
  refine ⟨v, fun w' hc => ?_, by rw [hd]; exact h _ (ha.put hdn v)⟩
  rw [ha.eval]
  refine hr w' ?_
  cases hp : pu.contains i
  · rw [hp] at hc; exact hc
  · trivial
theorem awN (hi : ops[i]? = some o) (hw : wantE ops ρ o = false) (hd : o.dst = some d) (hdn : Nat.blt d n = true) (h : AW P n ops C lo pu spec T r (upd ρ d undef) Fc) : AW P n ops C lo pu spec T (i :: r) ρ Fc := fun a ha => by
  unfold wpR opA
  simp only [hi, ha.wants o, hw, Bool.false_eq_true, if_false]
  rw [hd]
  exact h _ (ha.put hdn _)
theorem awL (hi : ops[i]? = some o) (hw : wantE ops ρ o = true) (hl : lo.contains i = true) (hd : o.dst = some d) (hdn : Nat.blt d n = true)
    (hr : ∀ a, St n ρ a → ∀ w', C w' → exA P o a (spec i) w') (h : ∀ v, (∃ w', C w' ∧ spec i v w') → AW P n ops C lo pu spec T r (upd ρ d v) (fun w => Fc w ∧ spec i v w)) : AW P n ops C lo pu spec T (i :: r) ρ Fc := fun a ha => by
  unfold wpR opA
  simp only [hi, ha.wants o, hw, if_true, hl]
  exact ⟨hr a ha, fun v hv => by rw [hd]; exact h v hv _ (ha.put hdn v)⟩
theorem awCal {f : FuncId} {xs : List Operand} {ats : Array TypeId} {vs : List Value} (hf : callB P f = true) (hi : ops[i]? = some (Og (some d) (.call { callee := .value (.func f), args := xs.toArray, argTypes := ats }) t p af g)) (hw : wantE ops ρ (Og (some d) (.call { callee := .value (.func f), args := xs.toArray, argTypes := ats }) t p af g) = true) (hl : lo.contains i = true) (hdn : Nat.blt d n = true)
    (hc : ∀ w', C w' → Ret P f vs w' fun v w2 => Below w'.heap.size w' w2 ∧ spec i v w2) (hv : xs.map (ev ρ) = vs)
    (h : ∀ v, (∃ w', C w' ∧ spec i v w') → AW P n ops C lo pu spec T r (upd ρ d v) (fun w => Fc w ∧ spec i v w)) : AW P n ops C lo pu spec T (i :: r) ρ Fc :=
  awL hi hw hl rfl hdn (fun a ha w' hcw => by
    unfold exA
    have hr : (execOp a.eval (Og (some d) (.call { callee := .value (.func f), args := xs.toArray, argTypes := ats }) t p af g)).run P w' = .ok (.enter f vs.toArray) w' := by
      rw [ha.eval]; subst hv
      simp [execOp, resolve, ev, Deferred.ofValue, invoke, run_callFunc hf]
    rw [hr]
    exact ⟨rfl, Calls.mono (hc w' hcw) fun e w2 ⟨v, he, hb, hs⟩ => ⟨v, he, hb, hs⟩⟩) h
theorem awAlo {T' : TypeId} {z : Value} (hz : (P.info? T').bind (·.zero) = some z) (hi : ops[i]? = some (Og (some d) (.alloc T') t p af g)) (hw : wantE ops ρ (Og (some d) (.alloc T') t p af g) = true) (hl : lo.contains i = true) (hdn : Nat.blt d n = true)
    (hs : ∀ w' w2 b, C w' → w'.heap.size ≤ b → w2.heap[b]? = some (.cells z.cells T' (0, 0)) → spec i (.pointer (some ⟨b, 0, none⟩)) w2)
    (h : ∀ v, (∃ w', C w' ∧ spec i v w') → AW P n ops C lo pu spec T r (upd ρ d v) (fun w => Fc w ∧ spec i v w)) : AW P n ops C lo pu spec T (i :: r) ρ Fc :=
  awL hi hw hl rfl hdn (fun a _ w' hcw => by
    unfold exA
    have hr : (execOp a.eval (Og (some d) (.alloc T') t p af g)).run P w' = .ok (.value (.pointer (some ⟨w'.heap.size, 0, none⟩))) (w'.alloc (.cells z.cells T')) := by
      cases hii : P.info? T' with
      | none => rw [hii] at hz; cases hz
      | some ii =>
        rw [hii] at hz
        simp only [Option.bind_some] at hz
        simp only [execOp, Instr.alloc, zeroValue, run_typeInfo hii, hz, newVar, newRow, newObj, Sem.run_bind, Sem.run_pure, Result.andThen_ok]
        rfl
    rw [hr]
    exact ⟨(Below.refl _ _).alloc (Nat.le_refl _) _, hs w' _ _ hcw (Nat.le_refl _) (heap_alloc_new w' _)⟩) h
end

/-- what loose operations yield -/
structure Sp where
  V : Value → Fct
  st : ∀ v w1 w2, Below w1.heap.size w1 w2 → V v w1 → V v w2
def sp (l : List (Nat × Sp)) (i : Nat) (v : Value) : Fct := match l.find? (fun q => Nat.beq q.1 i) with
  | some q => q.2.V v
  | none => fun _ => True
theorem sp_st {w : World} (l : List (Nat × Sp)) : ∀ i v w1 w2, Aft w w1 → Below w1.heap.size w1 w2 → sp l i v w1 → sp l i v w2 := fun i v w1 w2 _ hb h => by
  unfold sp at *
  cases hq : l.find? (fun q => Nat.beq q.1 i) with
  | none => trivial
  | some q => rw [hq] at h; exact q.2.st v w1 w2 hb h
/-- one known value -/
def Sp.one (u : Value) : Sp := ⟨fun v _ => v = u, fun _ _ _ _ h => h⟩
/-- a new block -/
def Sp.blk (lo : Nat) (z : Value) (T : TypeId) : Sp := ⟨fun v w => ∃ b, v = .pointer (some ⟨b, 0, none⟩) ∧ lo ≤ b ∧ w.heap[b]? = some (.cells z.cells T (0, 0)), fun _ _ _ hb ⟨b, h1, h2, h3⟩ => ⟨b, h1, h2, (hb.block b (lt_of_heap h3)).trans h3⟩⟩
end Go.Eng
