/- Eng3: a part of the proofs over this seat: what stands in its theorems holds for every input that they name. -/
import Derived.Test.YtemnchkebhclpaaEng2
namespace Go.Eng
open Go Go.RowKit

def oneB (P : Program) (T : TypeId) : Bool :=
  match P.underlying T with
  | some (.struct _) | some (.array ..) | none => false
  | some _ => match P.info? T with | some i => Nat.beq i.size 1 | none => false
def aggB (P : Program) (T sz : Nat) : Bool :=
  match P.underlying T with
  | some (.struct _) | some (.array ..) => match P.info? T with | some i => Nat.beq i.size sz | none => false
  | _ => false
def sliceB (P : Program) (T E sz : Nat) : Bool :=
  match P.underlying T with
  | some (.slice e) => Nat.beq e E && match P.info? E with | some i => Nat.beq i.size sz | none => false
  | _ => false
def fieldB (P : Program) (T f off : Nat) : Bool :=
  match P.underlying T with
  | some (.struct fs) => match fs[f]? with
    | some g => Nat.beq g.offset off && match P.info? g.type with | some i => Nat.blt 0 i.size | none => false
    | none => false
  | _ => false

section
variable {P : Program} {w : World}
theorem run_typeInfo {T : TypeId} {i : TypeInfo} (h : P.info? T = some i) : (typeInfo T).run P w = .ok i w := by simp [typeInfo, h]
theorem run_size {T : TypeId} {i : TypeInfo} (h : P.info? T = some i) : (sizeOf T).run P w = .ok i.size w := by simp [Go.sizeOf, run_typeInfo h]
theorem one_isAgg {T : TypeId} (h : oneB P T = true) : (isAgg T).run P w = .ok false w ∧ ∃ i, P.info? T = some i ∧ i.size = 1 := by
  unfold oneB at h
  split at h
  · cases h
  · cases h
  · cases h
  · rename_i d h1 h2 hd
    cases hi : P.info? T with
    | none => rw [hi] at h; cases h
    | some i =>
      rw [hi] at h
      refine ⟨?_, i, rfl, Nat.eq_of_beq_eq_true h⟩
      simp only [isAgg, Sem.run_bind, run_underlying hd, Result.andThen_ok]
      rfl
theorem agg_isAgg {T sz : Nat} (h : aggB P T sz = true) : (isAgg T).run P w = .ok true w ∧ ∃ i, P.info? T = some i ∧ i.size = sz := by
  unfold aggB at h
  split at h
  · rename_i fs hd
    cases hi : P.info? T with
    | none => rw [hi] at h; cases h
    | some i =>
      rw [hi] at h
      refine ⟨?_, i, rfl, Nat.eq_of_beq_eq_true h⟩
      simp only [isAgg, Sem.run_bind, run_underlying hd, Result.andThen_ok]
      rfl
  · rename_i hd
    cases hi : P.info? T with
    | none => rw [hi] at h; cases h
    | some i =>
      rw [hi] at h
      refine ⟨?_, i, rfl, Nat.eq_of_beq_eq_true h⟩
      simp only [isAgg, Sem.run_bind, run_underlying hd, Result.andThen_ok]
      rfl
  · cases h
theorem slice_of {T E sz : Nat} (h : sliceB P T E sz = true) : P.underlying T = some (.slice E) ∧ ∃ i, P.info? E = some i ∧ i.size = sz := by
  unfold sliceB at h
  split at h
  · rename_i e hd
    simp only [Bool.and_eq_true] at h
    obtain ⟨h1, h2⟩ := h
    have := Nat.eq_of_beq_eq_true h1
    subst this
    cases hi : P.info? e with
    | none => rw [hi] at h2; cases h2
    | some i => rw [hi] at h2; exact ⟨hd, i, rfl, Nat.eq_of_beq_eq_true h2⟩
  · cases h
theorem field_of {T f off : Nat} (h : fieldB P T f off = true) : ∃ fs g i, P.underlying T = some (.struct fs) ∧ fs[f]? = some g ∧ g.offset = off ∧ P.info? g.type = some i ∧ i.size ≠ 0 := by
  unfold fieldB at h
  split at h
  · rename_i fs hd
    split at h
    · rename_i g hg
      simp only [Bool.and_eq_true] at h
      obtain ⟨h1, h2⟩ := h
      cases hi : P.info? g.type with
      | none => rw [hi] at h2; cases h2
      | some i =>
        rw [hi] at h2
        have : 0 < i.size := by simpa [Nat.blt_eq] using h2
        exact ⟨fs, g, i, hd, hg, Nat.eq_of_beq_eq_true h1, hi, by omega⟩
    · cases h
  · cases h

theorem run_loadOne {T : TypeId} {a : Addr} {v : Value} (h : oneB P T = true) (hc : w.cell? a = some v) : (loadVar T a).run P w = .ok v w := by
  obtain ⟨h1, -⟩ := one_isAgg (w := w) h
  simp only [loadVar, Sem.run_bind, h1, Result.andThen_ok]
  simp [load, Sem.run, hc]
theorem run_loadAgg {T sz : Nat} {a : Addr} {xs : List Value} (h : aggB P T sz = true) (hl : xs.length = sz) (hc : ∀ j v, xs[j]? = some v → w.cell? (a.add j) = some v) : (loadVar T a).run P w = .ok (.agg xs.toArray) w := by
  obtain ⟨h1, i, hi, hs⟩ := agg_isAgg (w := w) h
  simp only [loadVar, Sem.run_bind, h1, Result.andThen_ok, run_size hi, if_true, hs, ← hl, run_loadCells_list w a xs hc]
  rfl
theorem run_storeE {T : TypeId} {b o : Nat} {t : TypeId} {cs : Array Value} {v : Value} {i : TypeInfo} (hi : P.info? T = some i) (hs : v.cells.size = i.size) (hb : w.heap[b]? = some (.cells cs t (0, 0)))
    (hf : o + v.cells.size ≤ cs.size) (h1 : ∀ u ∈ v.cells.toList, u.oneCell' = true) :
    (storeVar T ⟨b, o, none⟩ v).run P w = .ok () (w.setRow b (cs.toList.take o ++ v.cells.toList ++ cs.toList.drop (o + v.cells.size)).toArray) := by
  have h := run_storeCells_at P b o t v.cells.toList 0 cs w hb (by simpa using hf) h1
  simp only [Nat.add_zero, Array.length_toList] at h
  simp only [storeVar, Sem.run_bind, run_size hi, Result.andThen_ok, hs, ne_eq, not_true, if_false] at h ⊢
  simpa [hs] using h
end

section
variable {P : Program} {n : Nat} {Q : Post} {ρ : Env} {w : World} {ops : Array Oper} {rest : List Oper} {d : Nat} {t : TypeId} {p : String} {af : Array Edge}
variable {w0 : World} {L : List (Nat × Obj)} {F : List Fact}

theorem fad {x : Operand} {T f off b o : Nat} (hf : fieldB P T f off = true) (hx : ev ρ x = .pointer (some ⟨b, o, none⟩)) (hdn : Nat.blt d n = true)
    (h : LW P n ops rest Q (upd ρ d (.pointer (some ⟨b, o + off, none⟩))) w) : LW P n ops (O d (.fieldAddr T x f) t p af :: rest) Q ρ w := by
  obtain ⟨fs, g, i, h1, h2, h3, h4, h5⟩ := field_of hf
  refine lw_val rfl rfl hdn ?_ h
  simp only [execOp, hx, Instr.fieldAt, Sem.run_bind, run_underlying h1, Result.andThen_ok, h2, Instr.sureAddr, Sem.run_pure, fieldPlace, run_size h4, h5, if_false, h3, Addr.add_lit]
theorem ixa {x y : Operand} {T E sz b o l c : Nat} {k : IntKind} {i : Int} (hT : sliceB P T E sz = true) (hx : ev ρ x = .slice (some ⟨b, o, none⟩) l c) (hy : ev ρ y = .int k i) (h0 : 0 ≤ i) (hl : i < l) (hdn : Nat.blt d n = true)
    (h : LW P n ops rest Q (upd ρ d (.pointer (some ⟨b, o + i.toNat * sz, none⟩))) w) : LW P n ops (O d (.indexAddr T x y) t p af :: rest) Q ρ w := by
  obtain ⟨h1, j, h2, h3⟩ := slice_of hT
  refine lw_val rfl rfl hdn ?_ h
  simp only [execOp, hx, hy, Instr.indexAt, asIntOf, Sem.run_bind, run_underlying h1, Result.andThen_ok, Sem.run_pure]
  simp [h0, hl, run_size h2, h3, Addr.add_lit]
theorem ld {x : Operand} {T : TypeId} {a : Addr} {v : Value} (hT : oneB P T = true) (hx : ev ρ x = .pointer (some a)) (hc : w.cell? a = some v) (hdn : Nat.blt d n = true)
    (h : LW P n ops rest Q (upd ρ d v) w) : LW P n ops (O d (.load T x) t p af :: rest) Q ρ w :=
  lw_val rfl rfl hdn (by simp only [execOp, hx, Instr.loadAt, Instr.sureAddr, Sem.run_bind, Sem.run_pure, Result.andThen_ok, run_loadOne hT hc]) h
theorem ldA {x : Operand} {T sz b o : Nat} {xs : List Value} (hT : aggB P T sz = true) (hx : ev ρ x = .pointer (some ⟨b, o, none⟩)) (hl : xs.length = sz) (hc : ∀ j v, xs[j]? = some v → w.cell? ⟨b, o + j, none⟩ = some v) (hdn : Nat.blt d n = true)
    (h : LW P n ops rest Q (upd ρ d (.agg xs.toArray)) w) : LW P n ops (O d (.load T x) t p af :: rest) Q ρ w :=
  lw_val rfl rfl hdn (by simp only [execOp, hx, Instr.loadAt, Instr.sureAddr, Sem.run_bind, Sem.run_pure, Result.andThen_ok, run_loadAgg hT hl (fun j v hj => by rw [Addr.add_lit]; exact hc j v hj)]) h
/-- a cell of a block of the call's own -/
theorem ldE (H : Hp w0 w L F) (i : Nat) {x : Operand} {T : TypeId} {b j : Nat} {cs : Array Value} {tt : TypeId} {fr : Nat × Nat} {v : Value} (hT : oneB P T = true) (hx : ev ρ x = .pointer (some ⟨b, j, none⟩)) (hi : L[i]? = some (b, .cells cs tt fr)) (hj : cs[j]? = some v) (hdn : Nat.blt d n = true)
    (h : LW P n ops rest Q (upd ρ d v) w) : LW P n ops (O d (.load T x) t p af :: rest) Q ρ w := ld hT hx (cellE (H.ent hi) hj) hdn h
/-- a whole block of the call's own -/
theorem ldW (H : Hp w0 w L F) (i : Nat) {x : Operand} {T sz : Nat} {b : Nat} {cs : Array Value} {tt : TypeId} {fr : Nat × Nat} (hT : aggB P T sz = true) (hx : ev ρ x = .pointer (some ⟨b, 0, none⟩)) (hi : L[i]? = some (b, .cells cs tt fr)) (hs : cs.size = sz) (hdn : Nat.blt d n = true)
    (h : LW P n ops rest Q (upd ρ d (.agg cs)) w) : LW P n ops (O d (.load T x) t p af :: rest) Q ρ w :=
  ldA (xs := cs.toList) hT hx (by simpa using hs) (fun j v hj => by rw [Nat.zero_add]; exact cellE (H.ent hi) (by simpa using hj)) hdn h

theorem box (H : Hp w0 w L F) {x : Operand} {T : TypeId} {v : Value} (hx : ev ρ x = v) (hdn : Nat.blt d n = true)
    (h : ∀ w' b, Hp w0 w' ((b, .cells v.cells T) :: L) F → LW P n ops rest Q (upd ρ d (.pointer (some ⟨b, 0, none⟩))) w') : LW P n ops (O d (.box T x) t p af :: rest) Q ρ w := by
  refine lw_val rfl rfl hdn ?_ (h _ _ (H.alloc (.cells v.cells T)))
  simp only [execOp, hx, Instr.box, newVar, newRow, newObj, Sem.run_bind, Sem.run_pure]
  rfl
theorem alo (H : Hp w0 w L F) {T : TypeId} {z : Value} (hz : (P.info? T).bind (·.zero) = some z) (hdn : Nat.blt d n = true)
    (h : ∀ w' b, Hp w0 w' ((b, .cells z.cells T) :: L) F → LW P n ops rest Q (upd ρ d (.pointer (some ⟨b, 0, none⟩))) w') : LW P n ops (O d (.alloc T) t p af :: rest) Q ρ w := by
  refine lw_val rfl rfl hdn ?_ (h _ _ (H.alloc (.cells z.cells T)))
  cases hi : P.info? T with
  | none => rw [hi] at hz; cases hz
  | some i =>
    rw [hi] at hz
    simp only [Option.bind_some] at hz
    simp only [execOp, Instr.alloc, zeroValue, run_typeInfo hi, hz, newVar, newRow, newObj, Sem.run_bind, Sem.run_pure, Result.andThen_ok]
    rfl
/-- a store into a block of the call's own -/
theorem stE (H : Hp w0 w L F) (i : Nat) {x y : Operand} {T : TypeId} {b o sz : Nat} {cs : Array Value} {tt : TypeId} {v : Value} (hT : (P.info? T).map (·.size) = some sz) (hx : ev ρ x = .pointer (some ⟨b, o, none⟩)) (hy : ev ρ y = v) (hi : L[i]? = some (b, .cells cs tt (0, 0)))
    (hs : v.cells.size = sz) (hf : o + sz ≤ cs.size) (h1 : v.cells.toList.all (·.oneCell') = true)
    (h : ∀ w', Hp w0 w' (L.set i (b, .cells (cs.toList.take o ++ v.cells.toList ++ cs.toList.drop (o + sz)).toArray tt)) F → LW P n ops rest Q ρ w') : LW P n ops ({ dst := none, op := .store T x y, type := t, pos := p, after := af, guard := none } :: rest) Q ρ w := by
  cases hin : P.info? T with
  | none => rw [hin] at hT; cases hT
  | some ii =>
    rw [hin] at hT
    have hsz : ii.size = sz := by simpa using hT
    have hb := H.ent hi
    have hr := run_storeE (P := P) (w := w) (T := T) (o := o) hin (hs.trans hsz.symm) hb (by rw [hs]; exact hf) (List.all_eq_true.1 h1)
    refine lw_skip rfl rfl (w' := w.setRow b (cs.toList.take o ++ v.cells.toList ++ cs.toList.drop (o + sz)).toArray) ?_ (h _ (H.put hi (setRow_heap w b cs _ tt _ hb) ?_ rfl rfl rfl fun k hk => setRow_other w b k _ hk))
    · rw [hs] at hr
      simp only [execOp, hx, hy, Instr.storeAt, Instr.sureAddr, Sem.run_bind, Sem.run_pure, Result.andThen_ok, hr]
    · simp [World.setRow]
end
end Go.Eng
