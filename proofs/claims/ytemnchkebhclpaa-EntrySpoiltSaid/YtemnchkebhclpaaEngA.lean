/- EngA: a part of the proofs over this seat: what stands in its theorems holds for every input that they name. -/
import Derived.Test.YtemnchkebhclpaaEng9
namespace Go.Eng
open Go Go.RowKit
def enumV : List Value → Nat → List (Nat × Value)
  | [], _ => []
  | v :: r, k => (k, v) :: enumV r (k + 1)
def flatV (vs : List Value) : List Value := vs.flatMap fun v => v.cells.toList
theorem foldl_set (off : Nat) : ∀ (l : List Value) (k : Nat) (cs : Array Value), off + k + l.length ≤ cs.size →
    ((l.zipIdx k).foldl (fun cs (q : Value × Nat) => cs.setIfInBounds (off + q.2) q.1) cs) = (cs.toList.take (off + k) ++ l ++ cs.toList.drop (off + k + l.length)).toArray
  | [], k, cs, _ => by simp
  | v :: r, k, cs, h => by
    simp only [List.length_cons] at h
    simp only [List.zipIdx_cons, List.foldl_cons]
    rw [foldl_set off r (k + 1) _ (by simp; omega)]
    congr 1
    simp only [Array.toList_setIfInBounds, List.length_cons]
    have e := list_seg_step cs.toList (off + k) v r (by simp; omega)
    have e1 : off + (k + 1) = off + k + 1 := by omega
    rw [e1]
    simpa [Nat.add_assoc] using e
theorem fill_enum {sz : Nat} : ∀ (vs : List Value) (k : Nat) (cs : Array Value), (∀ v ∈ vs, v.cells.size = sz) → k * sz + vs.length * sz ≤ cs.size →
    Instr.fill (fun i => some (i * sz, sz)) cs (enumV vs k) = some (cs.toList.take (k * sz) ++ flatV vs ++ cs.toList.drop (k * sz + vs.length * sz)).toArray
  | [], k, cs, _, _ => by simp [enumV, Instr.fill, flatV]
  | v :: r, k, cs, hv, hs => by
    have hv0 := hv v (List.mem_cons_self ..)
    simp only [List.length_cons, Nat.add_mul, Nat.one_mul] at hs
    have hl : v.cells.toList.length = sz := by simpa using hv0
    simp only [enumV, Instr.fill]
    rw [if_neg (show ¬ ((decide (v.cells.size ≠ sz) || decide (k * sz + v.cells.size > cs.size)) = true) by simp [hv0]; omega)]
    have hz : v.cells.zipIdx.foldl (fun cs x => match x with | (c, j) => cs.setIfInBounds (k * sz + j) c) cs = (cs.toList.take (k * sz) ++ v.cells.toList ++ cs.toList.drop (k * sz + sz)).toArray := by
      rw [← Array.foldl_toList, Array.toList_zipIdx]
      have := foldl_set (k * sz) v.cells.toList 0 cs (by rw [hl]; omega)
      rw [hl] at this
      simpa using this
    rw [hz]
    have hlen : (cs.toList.take (k * sz) ++ v.cells.toList ++ cs.toList.drop (k * sz + sz)).length = cs.size := by
      simp only [List.length_append, List.length_take, List.length_drop, Array.length_toList, hv0]; omega
    rw [fill_enum r (k + 1) _ (fun u hu => hv u (List.mem_cons_of_mem _ hu)) (by simp only [List.size_toArray, hlen, Nat.add_mul, Nat.one_mul]; omega)]
    have hA : (cs.toList.take (k * sz) ++ v.cells.toList).length = (k + 1) * sz := by
      simp only [List.length_append, List.length_take, Array.length_toList, hv0, Nat.add_mul, Nat.one_mul]; omega
    have e1 : (cs.toList.take (k * sz) ++ v.cells.toList ++ cs.toList.drop (k * sz + sz)).take ((k + 1) * sz) = cs.toList.take (k * sz) ++ v.cells.toList := List.take_left' hA
    have e2 : (cs.toList.take (k * sz) ++ v.cells.toList ++ cs.toList.drop (k * sz + sz)).drop ((k + 1) * sz + r.length * sz) = cs.toList.drop (k * sz + (r.length + 1) * sz) := by
      rw [List.drop_append, List.drop_of_length_le (by rw [hA]; omega), List.nil_append, hA, List.drop_drop]
      congr 1
      simp only [Nat.add_mul, Nat.one_mul]; omega
    rw [List.length_cons, e1, e2]
    simp only [flatV, List.flatMap_cons, List.append_assoc]
theorem sl0 {ρ : Env} : ∀ p ∈ ([] : List (Nat × Value)), ρ p.1 = p.2 := by simp
theorem slc {ρ : Env} {a : Nat} {v : Value} {l : List (Nat × Value)} (h : ρ a = v) (h2 : ∀ p ∈ l, ρ p.1 = p.2) : ∀ p ∈ (a, v) :: l, ρ p.1 = p.2 := List.forall_mem_cons.2 ⟨h, h2⟩
theorem sl1 {ρ : Env} {a : Nat} {v : Value} (h : ρ a = v) : ∀ p ∈ [(a, v)], ρ p.1 = p.2 := slc h sl0
theorem sl2 {ρ : Env} {a a2 : Nat} {v v2 : Value} (h : ρ a = v) (h2 : ρ a2 = v2) : ∀ p ∈ [(a, v), (a2, v2)], ρ p.1 = p.2 := slc h (sl1 h2)
theorem sl3 {ρ : Env} {a a2 a3 : Nat} {v v2 v3 : Value} (h : ρ a = v) (h2 : ρ a2 = v2) (h3 : ρ a3 = v3) : ∀ p ∈ [(a, v), (a2, v2), (a3, v3)], ρ p.1 = p.2 := slc h (sl2 h2 h3)
theorem sl4 {ρ : Env} {a a2 a3 a4 : Nat} {v v2 v3 v4 : Value} (h : ρ a = v) (h2 : ρ a2 = v2) (h3 : ρ a3 = v3) (h4 : ρ a4 = v4) : ∀ p ∈ [(a, v), (a2, v2), (a3, v3), (a4, v4)], ρ p.1 = p.2 := slc h (sl3 h2 h3 h4)
section
variable {P : Program} {n : Nat} {Q : Post} {ρ : Env} {w : World} {ops : Array Oper} {rest : List Oper} {d : Nat} {t : TypeId} {p : String} {af : Array Edge}
variable {w0 : World} {L : List (Nat × Obj)} {F : List Fact}
theorem fill_all {sz len : Nat} {z : Array Value} {vs : List Value} (hl : vs.length = len) (hv : ∀ v ∈ vs, v.cells.size = sz) :
    Instr.fill (fun i => some (i * sz, sz)) ((Array.range (len * sz)).map (z[· % z.size]!)) (enumV vs 0) = some (flatV vs).toArray := by
  have := fill_enum vs 0 ((Array.range (len * sz)).map (z[· % z.size]!)) hv (by simp [hl])
  rw [this]
  congr 2
  simp [hl]
/-- a slice that is written out: vs are its elements -/
theorem bsv (H : Hp w0 w L F) {T E sz len : Nat} {parts : List (Nat × Operand)} {z : Value} {vs : List Value} (hT : sliceB P T E sz = true) (hz : (P.info? E).bind (·.zero) = some z) (hp : (parts.map fun q => (q.1, ev ρ q.2)) = enumV vs 0) (hl : Nat.beq vs.length len = true) (hv : (vs.all fun v => Nat.beq v.cells.size sz) = true) (hn : Nat.blt 0 (len * sz) = true) (hm : Nat.ble (len * sz) 16777216 = true) (hdn : Nat.blt d n = true)
    (h : ∀ w' b, Hp w0 w' ((b, .cells (flatV vs).toArray E) :: L) F → LW P n ops rest Q (upd ρ d (.slice (some ⟨b, 0, none⟩) len len)) w') : LW P n ops (O d (.buildSlice T len parts.toArray) t p af :: rest) Q ρ w :=
  bsl H hT hz hn hm (by rw [hp]; exact fill_all (Nat.eq_of_beq_eq_true hl) (fun v hv' => Nat.eq_of_beq_eq_true (List.all_eq_true.1 hv v hv'))) hdn h
end
end Go.Eng
