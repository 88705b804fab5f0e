/- EngF: a part of the proofs over this seat: what stands in its theorems holds for every input that they name. -/
import Derived.Test.YtemnchkebhclpaaEngE
namespace Go.Eng
open Go Go.RowKit
/-- the cells of two structs of one type, all of whose fields are one cell each, and are compared by what they hold -/
def cmpB (P : Program) : Nat → List Field → List Value → List Value → Bool
  | _, [], [], [] => true
  | k, f :: fs, a :: l, b :: l' => decide (f.name ≠ "_") && Nat.beq f.offset k && oneB P f.type && (match P.underlying f.type, a, b with
      | some (.int _), .int k _, .int k' _ => decide (k = k')
      | some .bool, .bool _, .bool _ => true
      | some .string, .string _, .string _ => true
      | _, _, _ => false) && cmpB P (k + 1) fs l l'
  | _, _, _, _ => false
section
variable {P : Program} {w : World}
theorem run_part_one {T : TypeId} {cs : Array Value} {o : Nat} {v : Value} (hT : oneB P T = true) (hv : cs[o]? = some v) : (part T cs o).run P w = .ok v w := by
  obtain ⟨h1, -⟩ := one_isAgg (w := w) hT
  simp only [part, Sem.run_bind, h1, Result.andThen_ok]
  simp [hv]
theorem run_cmp (d : Nat) : ∀ (fs : List Field) (k : Nat) (pre pre' l l' : List Value), pre.length = k → pre'.length = k → cmpB P k fs l l' = true →
    ∃ r : Bool, (Op.eqFields (d + 1) (pre ++ l).toArray (pre' ++ l').toArray fs).run P w = .ok r w ∧ (r = true ↔ l = l')
  | [], k, pre, pre', l, l', _, _, h => by
    cases l with
    | nil => cases l' with
      | nil => exact ⟨true, by simp [Op.eqFields], by simp⟩
      | cons b l' => simp [cmpB] at h
    | cons a l => cases l' <;> simp [cmpB] at h
  | f :: fs, k, pre, pre', l, l', hp, hp', h => by
    cases l with
    | nil => cases l' <;> simp [cmpB] at h
    | cons a l => cases l' with
      | nil => simp [cmpB] at h
      | cons b l' =>
        simp only [cmpB, Bool.and_eq_true] at h
        obtain ⟨⟨⟨⟨h1, h2⟩, h3⟩, h4⟩, h5⟩ := h
        have hn : f.name ≠ "_" := of_decide_eq_true h1
        have ho : f.offset = k := Nat.eq_of_beq_eq_true h2
        obtain ⟨r, hr, hrl⟩ := run_cmp d fs (k + 1) (pre ++ [a]) (pre' ++ [b]) l l' (by simp [hp]) (by simp [hp']) h5
        simp only [List.append_assoc, List.singleton_append] at hr
        have ga : (pre ++ a :: l).toArray[f.offset]? = some a := by rw [ho, ← hp]; simp
        have gb : (pre' ++ b :: l').toArray[f.offset]? = some b := by rw [ho, ← hp']; simp
        have key : ∃ s : Bool, (Op.equalIn (d + 1) f.type a b).run P w = .ok s w ∧ (s = true ↔ a = b) := by
          split at h4
          · rename_i u k k' m m' hu
            have hk := of_decide_eq_true h4
            subst hk
            exact ⟨_, run_equalIn_int w d f.type k _ _ _ hu, by simp⟩
          · rename_i u m m' hu
            exact ⟨_, run_equalIn_bool' w d f.type _ _ hu, by simp⟩
          · rename_i u m m' hu
            exact ⟨_, run_equalIn_string w d f.type _ _ hu, by simp [toList_inj]⟩
          · cases h4
        obtain ⟨s, hs, hsl⟩ := key
        unfold Op.eqFields
        rw [if_pos hn]
        simp only [Sem.run_bind, run_part_one h3 ga, run_part_one h3 gb, hs, Result.andThen_ok]
        cases s with
        | false => exact ⟨false, by simp, by simp at hsl; simp [hsl]⟩
        | true =>
          have := hsl.1 rfl
          subst this
          exact ⟨r, by simpa using hr, by simpa using hrl⟩
theorem run_agg_eq {T : TypeId} {xs ys : List Value} {r : Bool} (hT : P.underlying T = some (.struct (P.fieldsOf T))) (hp : P.stoodInHeld T = false) (hc : cmpB P 0 (P.fieldsOf T).toList xs ys = true) (hr : r = true ↔ xs = ys) :
    (Op.equalIn 10000 T (.agg xs.toArray) (.agg ys.toArray)).run P w = .ok r w := by
  obtain ⟨r', h1, h2⟩ := run_cmp (P := P) (w := w) 9998 (P.fieldsOf T).toList 0 [] [] xs ys rfl rfl hc
  have e : r = r' := by rw [Bool.eq_iff_iff, hr, h2]
  rw [run_equalIn_struct w 9999 T _ _ hT hp, e]
  exact h1
variable {n : Nat} {ρ : Env} {t : TypeId} {p : String} {af : Array Edge} {g : Option (Nat × Bool)} {dst : Option Nat}
theorem aeql_r {x y : Operand} {T ty' : TypeId} {xs ys : List Value} {r : Bool} (hT : P.underlying T = some (.struct (P.fieldsOf T))) (hp : P.stoodInHeld T = false) (hm : P.eqGuardType P.depth T = false) (hx : ev ρ x = .agg xs.toArray) (hy : ev ρ y = .agg ys.toArray) (hc : cmpB P 0 (P.fieldsOf T).toList xs ys = true) (hr : r = true ↔ xs = ys) :
    (execOp (ev ρ) (Og dst (.binOp .eql T x y ty') t p af g)).run P w = .ok (.value (.bool r)) w := by
  simp only [execOp, hx, hy, Sem.run_bind, run_eqGuard_agg w .eql T x y _ _ hm, Result.andThen_ok, run_eql_struct, run_agg_eq hT hp hc hr]
  rfl
theorem aneq_r {x y : Operand} {T ty' : TypeId} {xs ys : List Value} {r : Bool} (hT : P.underlying T = some (.struct (P.fieldsOf T))) (hp : P.stoodInHeld T = false) (hm : P.eqGuardType P.depth T = false) (hx : ev ρ x = .agg xs.toArray) (hy : ev ρ y = .agg ys.toArray) (hc : cmpB P 0 (P.fieldsOf T).toList xs ys = true) (hr : r = true ↔ xs = ys) :
    (execOp (ev ρ) (Og dst (.binOp .neq T x y ty') t p af g)).run P w = .ok (.value (.bool (!r))) w := by
  simp only [execOp, hx, hy, Sem.run_bind, run_eqGuard_agg w .neq T x y _ _ hm, Result.andThen_ok, run_neq_struct, run_agg_eq hT hp hc hr]
  rfl
theorem sadd_r {x y : Operand} {T ty' : TypeId} {a b : ByteArray} (hx : ev ρ x = .string a) (hy : ev ρ y = .string b) (hb : a.size + b.size ≤ 1000000) : (execOp (ev ρ) (Og dst (.binOp .add T x y ty') t p af g)).run P w = .ok (.value (.string (a ++ b))) w := by
  simp [execOp, hx, hy, eqGuard, binOp, Op.stringOp]
  omega
end
end Go.Eng
