/- Eng8: a part of the proofs over this seat: what stands in its theorems holds for every input that they name. -/
import Derived.Test.YtemnchkebhclpaaEng7
namespace Go.Eng
open Go Go.RowKit
section
variable {P : Program} {n : Nat} {Q : Post} {ρ : Env} {w : World} {ops : Array Oper} {rest : List Oper} {d : Nat} {t : TypeId} {p : String} {af : Array Edge}
variable {w0 : World} {L : List (Nat × Obj)} {F : List Fact}
/-- what a block holds when the cells new are laid at o -/
def lay (cs : Array Value) (o : Nat) (new : List Value) : Array Value := (cs.toList.take o ++ new ++ cs.toList.drop (o + new.length)).toArray
theorem lay_all (cs : Array Value) (new : List Value) (h : cs.size = new.length) : lay cs 0 new = new.toArray := by
  unfold lay
  rw [List.take_zero, List.nil_append, List.drop_of_length_le (by simp [h]), List.append_nil]
theorem stv (H : Hp w0 w L F) (i : Nat) {x y : Operand} {T : TypeId} {b o sz : Nat} {cs : Array Value} {tt : TypeId} {v : Value} (hT : (P.info? T).map (·.size) = some sz) (hx : ev ρ x = .pointer (some ⟨b, o, none⟩)) (hy : ev ρ y = v) (hi : L[i]? = some (b, .cells cs tt (0, 0)))
    (hs : v.cells.size = sz) (hf : o + sz ≤ cs.size) (h1 : v.cells.toList.all (·.oneCell') = true)
    (h : ∀ w', Hp w0 w' (L.set i (b, .cells (lay cs o v.cells.toList) tt)) F → LW P n ops rest Q ρ w') : LW P n ops ({ dst := none, op := .store T x y, type := t, pos := p, after := af, guard := none } :: rest) Q ρ w :=
  stE H i hT hx hy hi hs hf h1 fun w' h' => h w' (by unfold lay; rw [Array.length_toList, hs]; exact h')
theorem stA (H : Hp w0 w L F) (i : Nat) {x y : Operand} {T : TypeId} {b o sz : Nat} {cs : Array Value} {tt : TypeId} {c2 : Array Value} (hT : (P.info? T).map (·.size) = some sz) (hx : ev ρ x = .pointer (some ⟨b, o, none⟩)) (hy : ev ρ y = .agg c2) (hi : L[i]? = some (b, .cells cs tt (0, 0)))
    (hs : c2.size = sz) (hf : o + sz ≤ cs.size) (h1 : c2.toList.all (·.oneCell') = true)
    (h : ∀ w', Hp w0 w' (L.set i (b, .cells (lay cs o c2.toList) tt)) F → LW P n ops rest Q ρ w') : LW P n ops ({ dst := none, op := .store T x y, type := t, pos := p, after := af, guard := none } :: rest) Q ρ w := stv H i hT hx hy hi hs hf h1 h
/-- the whole of a block -/
theorem stW (H : Hp w0 w L F) (i : Nat) {x y : Operand} {T : TypeId} {b sz : Nat} {cs : Array Value} {tt : TypeId} {c2 : Array Value} (hT : (P.info? T).map (·.size) = some sz) (hx : ev ρ x = .pointer (some ⟨b, 0, none⟩)) (hy : ev ρ y = .agg c2) (hi : L[i]? = some (b, .cells cs tt (0, 0)))
    (hs : c2.size = sz) (hf : cs.size = sz) (h1 : c2.toList.all (·.oneCell') = true)
    (h : ∀ w', Hp w0 w' (L.set i (b, .cells c2 tt)) F → LW P n ops rest Q ρ w') : LW P n ops ({ dst := none, op := .store T x y, type := t, pos := p, after := af, guard := none } :: rest) Q ρ w :=
  stv H i hT hx hy hi hs (by omega) h1 fun w' h' => h w' (by
    have e : lay cs 0 (Value.agg c2).cells.toList = c2 := lay_all cs _ (by simp [Value.cells, hs, hf])
    rw [e] at h'; exact h')
theorem st1 (H : Hp w0 w L F) (i : Nat) {x y : Operand} {T : TypeId} {b o : Nat} {cs : Array Value} {tt : TypeId} {v : Value} (hT : (P.info? T).map (·.size) = some 1) (hx : ev ρ x = .pointer (some ⟨b, o, none⟩)) (hy : ev ρ y = v) (hi : L[i]? = some (b, .cells cs tt (0, 0)))
    (hs : v.cells = #[v]) (hf : o < cs.size) (h1 : v.oneCell' = true)
    (h : ∀ w', Hp w0 w' (L.set i (b, .cells (lay cs o [v]) tt)) F → LW P n ops rest Q ρ w') : LW P n ops ({ dst := none, op := .store T x y, type := t, pos := p, after := af, guard := none } :: rest) Q ρ w :=
  stv H i hT hx hy hi (by rw [hs]; rfl) (by omega) (by rw [hs]; simpa using h1) fun w' h' => h w' (by rw [hs] at h'; exact h')
theorem stI (H : Hp w0 w L F) (i : Nat) {x y : Operand} {T : TypeId} {b o : Nat} {cs : Array Value} {tt : TypeId} {k : IntKind} {m : Int} (hT : (P.info? T).map (·.size) = some 1) (hx : ev ρ x = .pointer (some ⟨b, o, none⟩)) (hy : ev ρ y = .int k m) (hi : L[i]? = some (b, .cells cs tt (0, 0))) (hf : o < cs.size)
    (h : ∀ w', Hp w0 w' (L.set i (b, .cells (lay cs o [.int k m]) tt)) F → LW P n ops rest Q ρ w') : LW P n ops ({ dst := none, op := .store T x y, type := t, pos := p, after := af, guard := none } :: rest) Q ρ w := st1 H i hT hx hy hi rfl hf rfl h
theorem stB (H : Hp w0 w L F) (i : Nat) {x y : Operand} {T : TypeId} {b o : Nat} {cs : Array Value} {tt : TypeId} {m : Bool} (hT : (P.info? T).map (·.size) = some 1) (hx : ev ρ x = .pointer (some ⟨b, o, none⟩)) (hy : ev ρ y = .bool m) (hi : L[i]? = some (b, .cells cs tt (0, 0))) (hf : o < cs.size)
    (h : ∀ w', Hp w0 w' (L.set i (b, .cells (lay cs o [.bool m]) tt)) F → LW P n ops rest Q ρ w') : LW P n ops ({ dst := none, op := .store T x y, type := t, pos := p, after := af, guard := none } :: rest) Q ρ w := st1 H i hT hx hy hi rfl hf rfl h
theorem stS (H : Hp w0 w L F) (i : Nat) {x y : Operand} {T : TypeId} {b o : Nat} {cs : Array Value} {tt : TypeId} {A : Option Addr} {l c : Nat} (hT : (P.info? T).map (·.size) = some 1) (hx : ev ρ x = .pointer (some ⟨b, o, none⟩)) (hy : ev ρ y = .slice A l c) (hi : L[i]? = some (b, .cells cs tt (0, 0))) (hf : o < cs.size)
    (h : ∀ w', Hp w0 w' (L.set i (b, .cells (lay cs o [.slice A l c]) tt)) F → LW P n ops rest Q ρ w') : LW P n ops ({ dst := none, op := .store T x y, type := t, pos := p, after := af, guard := none } :: rest) Q ρ w := st1 H i hT hx hy hi rfl hf rfl h
theorem stT (H : Hp w0 w L F) (i : Nat) {x y : Operand} {T : TypeId} {b o : Nat} {cs : Array Value} {tt : TypeId} {s : ByteArray} (hT : (P.info? T).map (·.size) = some 1) (hx : ev ρ x = .pointer (some ⟨b, o, none⟩)) (hy : ev ρ y = .string s) (hi : L[i]? = some (b, .cells cs tt (0, 0))) (hf : o < cs.size)
    (h : ∀ w', Hp w0 w' (L.set i (b, .cells (lay cs o [.string s]) tt)) F → LW P n ops rest Q ρ w') : LW P n ops ({ dst := none, op := .store T x y, type := t, pos := p, after := af, guard := none } :: rest) Q ρ w := st1 H i hT hx hy hi rfl hf rfl h
theorem stP (H : Hp w0 w L F) (i : Nat) {x y : Operand} {T : TypeId} {b o : Nat} {cs : Array Value} {tt : TypeId} {A : Option Addr} (hT : (P.info? T).map (·.size) = some 1) (hx : ev ρ x = .pointer (some ⟨b, o, none⟩)) (hy : ev ρ y = .pointer A) (hi : L[i]? = some (b, .cells cs tt (0, 0))) (hf : o < cs.size)
    (h : ∀ w', Hp w0 w' (L.set i (b, .cells (lay cs o [.pointer A]) tt)) F → LW P n ops rest Q ρ w') : LW P n ops ({ dst := none, op := .store T x y, type := t, pos := p, after := af, guard := none } :: rest) Q ρ w := st1 H i hT hx hy hi rfl hf rfl h
theorem bxA (H : Hp w0 w L F) {x : Operand} {T : TypeId} {c : Array Value} (hx : ev ρ x = .agg c) (hdn : Nat.blt d n = true)
    (h : ∀ w' b, Hp w0 w' ((b, .cells c T) :: L) F → LW P n ops rest Q (upd ρ d (.pointer (some ⟨b, 0, none⟩))) w') : LW P n ops (O d (.box T x) t p af :: rest) Q ρ w := box H hx hdn h
theorem bxI (H : Hp w0 w L F) {x : Operand} {T : TypeId} {k : IntKind} {m : Int} (hx : ev ρ x = .int k m) (hdn : Nat.blt d n = true)
    (h : ∀ w' b, Hp w0 w' ((b, .cells #[.int k m] T) :: L) F → LW P n ops rest Q (upd ρ d (.pointer (some ⟨b, 0, none⟩))) w') : LW P n ops (O d (.box T x) t p af :: rest) Q ρ w := box H hx hdn h
theorem bxT (H : Hp w0 w L F) {x : Operand} {T : TypeId} {s : ByteArray} (hx : ev ρ x = .string s) (hdn : Nat.blt d n = true)
    (h : ∀ w' b, Hp w0 w' ((b, .cells #[.string s] T) :: L) F → LW P n ops rest Q (upd ρ d (.pointer (some ⟨b, 0, none⟩))) w') : LW P n ops (O d (.box T x) t p af :: rest) Q ρ w := box H hx hdn h
theorem bxS (H : Hp w0 w L F) {x : Operand} {T : TypeId} {A : Option Addr} {l c : Nat} (hx : ev ρ x = .slice A l c) (hdn : Nat.blt d n = true)
    (h : ∀ w' b, Hp w0 w' ((b, .cells #[.slice A l c] T) :: L) F → LW P n ops rest Q (upd ρ d (.pointer (some ⟨b, 0, none⟩))) w') : LW P n ops (O d (.box T x) t p af :: rest) Q ρ w := box H hx hdn h
end
end Go.Eng
