/- Eng4: a part of the proofs over this seat: what stands in its theorems holds for every input that they name. -/
import Derived.Test.YtemnchkebhclpaaEng3
namespace Go.Eng
open Go Go.RowKit

def callB (P : Program) (f : FuncId) : Bool :=
  match P.funcs[f]? with
  | some fn => !(fn.name == "runtime.NumGoroutine") && fn.body.isSome
  | none => false
def lenB (P : Program) (T : TypeId) : Bool :=
  match P.underlying T with
  | some (.slice _) => true
  | _ => false
def strB (P : Program) (T : TypeId) : Bool :=
  match P.underlying T with
  | some .string => true
  | _ => false
def intB (P : Program) (T : TypeId) (k : IntKind) : Bool :=
  match P.underlying T with
  | some (.int k') => decide (k' = k)
  | _ => false

section
variable {P : Program} {w : World}
theorem run_callFunc {f : FuncId} {vs : Array Value} (h : callB P f = true) : (callFunc f vs).run P w = .ok (.enter f vs) w := by
  unfold callB at h
  split at h
  · rename_i fn hf
    simp only [Bool.and_eq_true, Bool.not_eq_true'] at h
    obtain ⟨h1, h2⟩ := h
    have h1' : ¬ fn.name = "runtime.NumGoroutine" := by simpa using h1
    have h3 : ¬ fn.body = none := by intro hb; rw [hb] at h2; cases h2
    simp only [callFunc, Sem.run_bind]
    simp [program, Sem.run, hf, h1', h3]
  · cases h
end

section
variable {P : Program} {n : Nat} {Q : Post} {ρ : Env} {w : World} {ops : Array Oper} {rest : List Oper} {d : Nat} {t : TypeId} {p : String} {af : Array Edge}
variable {w0 : World} {L : List (Nat × Obj)} {F : List Fact}

theorem cal {f : FuncId} {xs : List Operand} {ats : Array TypeId} {vs : List Value} {R : Value → World → Prop} (hf : callB P f = true) (hc : Ret P f vs w R) (hv : xs.map (ev ρ) = vs) (hdn : Nat.blt d n = true)
    (h : ∀ v w2, R v w2 → LW P n ops rest Q (upd ρ d v) w2) : LW P n ops (O d (.call { callee := .value (.func f), args := xs.toArray, argTypes := ats }) t p af :: rest) Q ρ w := by
  refine lw_enter rfl rfl hdn ?_ hc h
  subst hv
  simp [execOp, resolve, ev, Deferred.ofValue, invoke, run_callFunc hf]
/-- a call of a function value that the call itself has made -/
theorem calF {f : FuncId} {x : Operand} {xs : List Operand} {ats : Array TypeId} {cap vs : List Value} {R : Value → World → Prop} (hf : callB P f = true) (hx : ev ρ x = .func (.func f) #[] cap.toArray) (hc : Ret P f vs w R) (hv : xs.map (ev ρ) ++ cap = vs) (hdn : Nat.blt d n = true)
    (h : ∀ v w2, R v w2 → LW P n ops rest Q (upd ρ d v) w2) : LW P n ops (O d (.call { callee := .value x, args := xs.toArray, argTypes := ats }) t p af :: rest) Q ρ w := by
  refine lw_enter rfl rfl hdn ?_ hc h
  subst hv
  simp [execOp, resolve, hx, Deferred.ofValue, invoke, run_callFunc hf]

theorem lenS {x : Operand} {T : TypeId} {A : Option Addr} {l c : Nat} (hT : lenB P T = true) (hx : ev ρ x = .slice A l c) (hdn : Nat.blt d n = true)
    (h : LW P n ops rest Q (upd ρ d (.int .i64 l)) w) : LW P n ops (O d (.call { callee := .builtin .len, args := #[x], argTypes := #[T] }) t p af :: rest) Q ρ w := by
  unfold lenB at hT
  split at hT
  · rename_i e hu
    refine lw_val rfl rfl hdn ?_ h
    simp [execOp, resolve, invoke, builtin, Builtin.len_, hx, run_underlying hu, goInt]
  · cases hT
theorem lenT {x : Operand} {T : TypeId} {s : ByteArray} (hT : strB P T = true) (hx : ev ρ x = .string s) (hdn : Nat.blt d n = true)
    (h : LW P n ops rest Q (upd ρ d (.int .i64 s.size)) w) : LW P n ops (O d (.call { callee := .builtin .len, args := #[x], argTypes := #[T] }) t p af :: rest) Q ρ w := by
  unfold strB at hT
  split at hT
  · rename_i hu
    refine lw_val rfl rfl hdn ?_ h
    simp [execOp, resolve, invoke, builtin, Builtin.len_, hx, run_underlying hu, goInt]
  · cases hT
theorem minI {x y : Operand} {T T' : TypeId} {k : IntKind} {a b : Int} (hx : ev ρ x = .int k a) (hy : ev ρ y = .int k b) (hdn : Nat.blt d n = true)
    (h : LW P n ops rest Q (upd ρ d (.int k (min a b))) w) : LW P n ops (O d (.call { callee := .builtin .min, args := #[x, y], argTypes := #[T, T'] }) t p af :: rest) Q ρ w := by
  refine lw_val rfl rfl hdn ?_ h
  simp [execOp, resolve, invoke, builtin, Builtin.min_, Builtin.min2, hx, hy, Int.min_def]
  split <;> split <;> omega
theorem maxI {x y : Operand} {T T' : TypeId} {k : IntKind} {a b : Int} (hx : ev ρ x = .int k a) (hy : ev ρ y = .int k b) (hdn : Nat.blt d n = true)
    (h : LW P n ops rest Q (upd ρ d (.int k (max a b))) w) : LW P n ops (O d (.call { callee := .builtin .max, args := #[x, y], argTypes := #[T, T'] }) t p af :: rest) Q ρ w := by
  refine lw_val rfl rfl hdn ?_ h
  simp [execOp, resolve, invoke, builtin, Builtin.max_, Builtin.max2, hx, hy, Int.max_def]
  split <;> split <;> omega
theorem cvI {x : Operand} {S T : TypeId} {k k' : IntKind} {a b : Int} (hS : intB P S k = true) (hT : intB P T k' = true) (hx : ev ρ x = .int k a) (hw : k'.wrap a = b) (hdn : Nat.blt d n = true)
    (h : LW P n ops rest Q (upd ρ d (.int k' b)) w) : LW P n ops (O d (.convert S T x) t p af :: rest) Q ρ w := by
  unfold intB at hS hT
  split at hS
  · rename_i k1 h1
    split at hT
    · rename_i k2 h2
      have := of_decide_eq_true hT
      subst this
      refine lw_val rfl rfl hdn ?_ h
      simp [execOp, convert, hx, run_underlying h1, run_underlying h2, Conv.intToInt, hw]
    · cases hT
  · cases hS

/-- where a slice's piece begins -/
def From (A A' : Option Addr) (l len sz : Nat) : Prop := l < len → ∀ b o, A = some ⟨b, o, none⟩ → A' = some ⟨b, o + l * sz, none⟩
theorem sliLo {x lo : Operand} {T E sz : Nat} {A : Option Addr} {len cap : Nat} {k : IntKind} {i : Int} (hT : sliceB P T E sz = true) (hx : ev ρ x = .slice A len cap) (hl : ev ρ lo = .int k i) (h0 : 0 ≤ i) (h1 : i ≤ len) (hc : len ≤ cap) (hdn : Nat.blt d n = true)
    (h : ∀ A', From A A' i.toNat len sz → LW P n ops rest Q (upd ρ d (.slice A' (len - i.toNat) (cap - i.toNat))) w) : LW P n ops (O d (.slice T x (some lo) none none) t p af :: rest) Q ρ w := by
  obtain ⟨hu, j, h2, h3⟩ := slice_of hT
  refine lw_val (v := .slice (if cap = i.toNat then A else A.map (·.add (i.toNat * sz))) (len - i.toNat) (cap - i.toNat)) rfl rfl hdn ?_ (h _ ?_)
  · simp only [execOp, Instr.sliceAt, Option.map_some, Option.map_none, hx, hl, Sem.run_bind, run_underlying hu, Result.andThen_ok, Instr.slice, Instr.sliceBounds, Instr.sliceBound, asIntOf, Sem.run_pure]
    simp [h0, h1, run_size h2, h3]
  · intro hlt b o hA
    subst hA
    rw [if_neg (by omega)]
    simp [Addr.add_lit]
theorem sliHi {x hi : Operand} {T E sz : Nat} {A : Option Addr} {len cap : Nat} {k : IntKind} {i : Int} (hT : sliceB P T E sz = true) (hx : ev ρ x = .slice A len cap) (hl : ev ρ hi = .int k i) (h0 : 0 ≤ i) (h1 : i ≤ cap) (hdn : Nat.blt d n = true)
    (h : ∀ A', (0 < cap → A' = A) → LW P n ops rest Q (upd ρ d (.slice A' i.toNat cap)) w) : LW P n ops (O d (.slice T x none (some hi) none) t p af :: rest) Q ρ w := by
  obtain ⟨hu, j, h2, h3⟩ := slice_of hT
  refine lw_val (v := .slice (if cap = 0 then A else A.map (·.add (0 * sz))) i.toNat cap) rfl rfl hdn ?_ (h _ ?_)
  · simp only [execOp, Instr.sliceAt, Option.map_some, Option.map_none, hx, hl, Sem.run_bind, run_underlying hu, Result.andThen_ok, Instr.slice, Instr.sliceBounds, Instr.sliceBound, asIntOf, Sem.run_pure]
    simp [h0, h1, run_size h2, h3]
  · intro hc
    rw [if_neg (by omega)]
    cases A <;> simp [Addr.add]
theorem sliLH {x lo hi : Operand} {T E sz : Nat} {A : Option Addr} {len cap : Nat} {k k' : IntKind} {i j : Int} (hT : sliceB P T E sz = true) (hx : ev ρ x = .slice A len cap) (hl : ev ρ lo = .int k i) (hh : ev ρ hi = .int k' j) (h0 : 0 ≤ i) (h1 : i ≤ j) (h2 : j ≤ cap) (hdn : Nat.blt d n = true)
    (h : ∀ A', From A A' i.toNat cap sz → LW P n ops rest Q (upd ρ d (.slice A' (j.toNat - i.toNat) (cap - i.toNat))) w) : LW P n ops (O d (.slice T x (some lo) (some hi) none) t p af :: rest) Q ρ w := by
  obtain ⟨hu, q, h3, h4⟩ := slice_of hT
  refine lw_val (v := .slice (if cap = i.toNat then A else A.map (·.add (i.toNat * sz))) (j.toNat - i.toNat) (cap - i.toNat)) rfl rfl hdn ?_ (h _ ?_)
  · have h5 : 0 ≤ j := by omega
    have h6 : i ≤ (j.toNat : Int) := by omega
    simp only [execOp, Instr.sliceAt, Option.map_some, Option.map_none, hx, hl, hh, Sem.run_bind, run_underlying hu, Result.andThen_ok, Instr.slice, Instr.sliceBounds, Instr.sliceBound, asIntOf, Sem.run_pure]
    simp [h0, h2, h5, run_size h3, h4]
    intro hlt
    omega
  · intro hlt b o hA
    subst hA
    rw [if_neg (by omega)]
    simp [Addr.add_lit]

/-- a slice that is written out -/
theorem bsl (H : Hp w0 w L F) {T E sz len : Nat} {parts : List (Nat × Operand)} {z : Value} {cs : Array Value} (hT : sliceB P T E sz = true) (hz : (P.info? E).bind (·.zero) = some z) (hn : Nat.blt 0 (len * sz) = true) (hm : Nat.ble (len * sz) 16777216 = true)
    (hf : Instr.fill (fun i => some (i * sz, sz)) ((Array.range (len * sz)).map (z.cells[· % z.cells.size]!)) (parts.map fun q => (q.1, ev ρ q.2)) = some cs) (hdn : Nat.blt d n = true)
    (h : ∀ w' b, Hp w0 w' ((b, .cells cs E) :: L) F → LW P n ops rest Q (upd ρ d (.slice (some ⟨b, 0, none⟩) len len)) w') : LW P n ops (O d (.buildSlice T len parts.toArray) t p af :: rest) Q ρ w := by
  obtain ⟨hu, q, h3, h4⟩ := slice_of hT
  refine lw_val rfl rfl hdn ?_ (h _ _ (H.alloc (.cells cs E)))
  rw [h3] at hz
  simp only [Option.bind_some] at hz
  have hn' : len * sz ≠ 0 := by have : 0 < len * sz := by simpa [Nat.blt_eq] using hn
                                omega
  have hm' : ¬ len * sz > 2 ^ 24 := by have := Nat.le_of_ble_eq_true hm; omega
  simp only [execOp, Instr.buildSlice, Sem.run_bind, run_underlying hu, Result.andThen_ok, run_size h3, h4, hn', hm', if_false, zeroValue, run_typeInfo h3, hz, Sem.run_pure]
  simp only [List.map_toArray, hf, newRow, newObj, Sem.run_bind, Sem.run_pure]
  rfl
end
end Go.Eng
