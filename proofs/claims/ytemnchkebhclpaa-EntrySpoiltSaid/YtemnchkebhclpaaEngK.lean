/- EngK: a part of the proofs over this seat: what stands in its theorems holds for every input that they name. -/
import Derived.Test.YtemnchkebhclpaaEngJ
namespace Go.Eng
open Go Go.RowKit
/-- a block's cells, of which the first are those of es -/
structure Row {α : Type} (Y : Lay α) (es : List α) (cap : Nat) (cur : Array Value) : Prop where
  size : cur.size = cap * Y.sz
  all : cur.toList.take (es.length * Y.sz) = Y.all es
  le : es.length ≤ cap
  max : cap ≤ maxLen
section
variable {α : Type} {Y : Lay α} {es : List α} {cap : Nat} {cur : Array Value}
theorem Own.row {A : Option Addr} {n c : Nat} {e : TypeId} {L : List (Nat × Obj)} (h : Own Y (.slice A n c) e es L) (h0 : 0 < es.length) : ∃ g cur, A = some ⟨g, 0, none⟩ ∧ L = [(g, .cells cur e (0, 0))] ∧ Row Y es c cur := by
  rcases h.2 with ⟨_, hn, _⟩ | ⟨g, cap, cur, rfl, hv, h1, h2, h3, h4⟩
  · omega
  · simp only [Value.slice.injEq] at hv
    obtain ⟨rfl, _, rfl⟩ := hv
    exact ⟨g, cur, rfl, rfl, h3, h4, h1, h2⟩
theorem Row.own {g : Nat} {e : TypeId} (h : Row Y es cap cur) : Own Y (.slice (some ⟨g, 0, none⟩) es.length cap) e es [(g, .cells cur e (0, 0))] :=
  ⟨Lay.length es, .inr ⟨g, cap, cur, rfl, rfl, h.le, h.max, h.size, h.all⟩⟩
theorem Row.get (h : Row Y es cap cur) {k : Nat} {e : α} (hk : es[k]? = some e) {j : Nat} {v : Value} (hj : (Y.f e)[j]? = some v) : cur[k * Y.sz + j]? = some v := by
  obtain ⟨hlt, rfl⟩ := List.getElem?_eq_some_iff.1 hk
  have hjs : j < Y.sz := by
    have := (List.getElem?_eq_some_iff.1 hj).1
    rwa [Y.len] at this
  have h1 := Lay.get (Y := Y) hlt hjs
  rw [hj, ← h.all, List.getElem?_take] at h1
  split at h1
  · simpa using h1
  · cases h1
theorem mul_lt {k n sz j : Nat} (hk : k < n) (hj : j < sz) : k * sz + j < n * sz := by
  have : (k + 1) * sz ≤ n * sz := Nat.mul_le_mul_right _ hk
  rw [Nat.add_mul] at this
  omega
theorem Row.put (h : Row Y es cap cur) {k : Nat} {e : α} (hk : es[k]? = some e) {j : Nat} {new : List Value} (e' : α) (hj : j + new.length ≤ Y.sz) (he : Y.f e' = (Y.f e).take j ++ new ++ (Y.f e).drop (j + new.length)) :
    Row Y (es.set k e') cap (lay cur (k * Y.sz + j) new) := by
  obtain ⟨hlt, rfl⟩ := List.getElem?_eq_some_iff.1 hk
  have hsz : (k + 1) * Y.sz ≤ es.length * Y.sz := Nat.mul_le_mul_right _ hlt
  have hcap : es.length * Y.sz ≤ cap * Y.sz := Nat.mul_le_mul_right _ h.le
  rw [Nat.add_mul, Nat.one_mul] at hsz
  have hcl : cur.toList.length = cap * Y.sz := by rw [Array.length_toList, h.size]
  refine ⟨?_, ?_, by rw [List.length_set]; exact h.le, h.max⟩
  · simp only [lay, List.size_toArray, List.length_append, List.length_take, List.length_drop, hcl]
    omega
  · rw [List.length_set]
    apply List.ext_getElem?
    intro i
    have hYf := Y.len es[k]
    by_cases hi : i < es.length * Y.sz
    · rw [List.getElem?_take_of_lt hi]
      have hdm : i = i / Y.sz * Y.sz + i % Y.sz := (Nat.div_add_mod' i Y.sz).symm
      have hm : i % Y.sz < Y.sz := Nat.mod_lt _ Y.pos
      have hq : i / Y.sz < es.length := by
        rw [Nat.div_lt_iff_lt_mul Y.pos]; exact hi
      have hrhs := Lay.get (Y := Y) (es := es.set k e') (k := i / Y.sz) (j := i % Y.sz) (by rw [List.length_set]; exact hq) hm
      have hold := Lay.get (Y := Y) (es := es) (k := i / Y.sz) (j := i % Y.sz) hq hm
      rw [← hdm] at hrhs hold
      rw [← h.all, List.getElem?_take_of_lt hi] at hold
      rw [hrhs]
      unfold lay
      by_cases hkq : k = i / Y.sz
      · subst hkq
        simp only [List.getElem_set_self, he]
        by_cases h1 : i % Y.sz < j
        · rw [List.append_assoc, List.getElem?_append_left (by rw [List.length_take, hcl]; omega), List.getElem?_take_of_lt (by omega), List.append_assoc, List.getElem?_append_left (by rw [List.length_take, hYf]; omega), List.getElem?_take_of_lt h1]
          exact hold
        · by_cases h2 : i % Y.sz < j + new.length
          · rw [List.append_assoc, List.getElem?_append_right (by rw [List.length_take, hcl]; omega), List.getElem?_append_left (by rw [List.length_take, hcl]; omega), List.append_assoc, List.getElem?_append_right (by rw [List.length_take, hYf]; omega), List.getElem?_append_left (by rw [List.length_take, hYf]; omega)]
            congr 1
            rw [List.length_take, List.length_take, hcl, hYf]; omega
          · rw [List.getElem?_append_right (by rw [List.length_append, List.length_take, hcl]; omega), List.getElem?_append_right (by rw [List.length_append, List.length_take, hYf]; omega), List.getElem?_drop, List.getElem?_drop]
            have e1 : i / Y.sz * Y.sz + j + new.length + (i - (List.take (i / Y.sz * Y.sz + j) cur.toList ++ new).length) = i := by rw [List.length_append, List.length_take, hcl]; omega
            have e2 : j + new.length + (i % Y.sz - (List.take j (Y.f es[i / Y.sz]) ++ new).length) = i % Y.sz := by rw [List.length_append, List.length_take, hYf]; omega
            rw [e1, e2]
            exact hold
      · have hne : (es.set k e')[i / Y.sz]'(by rw [List.length_set]; exact hq) = es[i / Y.sz] := List.getElem_set_ne hkq _
        rw [hne, ← hold]
        rcases Nat.lt_or_gt_of_ne hkq with hl | hg
        · have : (k + 1) * Y.sz ≤ i / Y.sz * Y.sz := Nat.mul_le_mul_right _ hl
          rw [Nat.add_mul, Nat.one_mul] at this
          rw [List.getElem?_append_right (by rw [List.length_append, List.length_take, hcl]; omega), List.getElem?_drop]
          congr 1
          rw [List.length_append, List.length_take, hcl]; omega
        · have : (i / Y.sz + 1) * Y.sz ≤ k * Y.sz := Nat.mul_le_mul_right _ hg
          rw [Nat.add_mul, Nat.one_mul] at this
          rw [List.append_assoc, List.getElem?_append_left (by rw [List.length_take, hcl]; omega), List.getElem?_take_of_lt (by omega)]
    · rw [List.getElem?_take, if_neg hi, List.getElem?_eq_none]
      rw [Lay.length, List.length_set]; omega
end
section
variable {P : Program} {n : Nat} {Q : Post} {ρ : Env} {w : World} {ops : Array Oper} {rest : List Oper} {d : Nat} {t : TypeId} {p : String} {af : Array Edge} {g : Option (Nat × Bool)} {dst : Option Nat}
variable {w0 : World} {L : List (Nat × Obj)} {F : List Fact} {α : Type} {Y : Lay α} {es : List α} {cap : Nat} {cur : Array Value}
theorem ixR_r {x y : Operand} {T E sz b l c k : Nat} {kd : IntKind} (hT : sliceB P T E sz = true) (hx : ev ρ x = .slice (some ⟨b, 0, none⟩) l c) (hy : ev ρ y = .int kd (k : Nat)) (hl : k < l) : (execOp (ev ρ) (Og dst (.indexAddr T x y) t p af g)).run P w = .ok (.value (.pointer (some ⟨b, k * sz, none⟩))) w := by
  have := ixa_r (P := P) (w := w) (dst := dst) (t := t) (p := p) (af := af) (g := g) hT hx hy (by omega) (by omega)
  simpa using this
theorem ldR_r {x : Operand} {T : TypeId} {b k : Nat} {v : Value} {tt : TypeId} {fr : Nat × Nat} {e : α} (hT : oneB P T = true) (hR : Row Y es cap cur) (hk : es[k]? = some e) (j : Nat) (hx : ev ρ x = .pointer (some ⟨b, k * Y.sz + j, none⟩)) (hb : w.heap[b]? = some (.cells cur tt fr)) (hj : (Y.f e)[j]? = some v) : (execOp (ev ρ) (Og dst (.load T x) t p af g)).run P w = .ok (.value v) w :=
  ld_r hT hx (cellE hb (hR.get hk hj))
theorem ldRA_r {x : Operand} {T sz : TypeId} {b k : Nat} {tt : TypeId} {fr : Nat × Nat} {e : α} (hT : aggB P T sz = true) (hR : Row Y es cap cur) (hk : es[k]? = some e) (hx : ev ρ x = .pointer (some ⟨b, k * Y.sz, none⟩)) (hs : (Y.f e).length = sz) (hb : w.heap[b]? = some (.cells cur tt fr)) : (execOp (ev ρ) (Og dst (.load T x) t p af g)).run P w = .ok (.value (.agg (Y.f e).toArray)) w :=
  ldA_r hT hx hs fun _ _ hj => cellE hb (hR.get hk hj)
theorem stR (H : Hp w0 w L F) (i : Nat) (e' : α) {x y : Operand} {T : TypeId} {b k sz : Nat} {tt : TypeId} {v : Value} {e : α} (hT : (P.info? T).map (·.size) = some sz) (hR : Row Y es cap cur) (hk : es[k]? = some e) (j : Nat) (hx : ev ρ x = .pointer (some ⟨b, k * Y.sz + j, none⟩)) (hy : ev ρ y = v) (hi : L[i]? = some (b, .cells cur tt (0, 0)))
    (hs : v.cells.size = sz) (h1 : v.cells.toList.all (·.oneCell') = true) (hj : Nat.ble (j + sz) Y.sz = true) (he : Y.f e' = (Y.f e).take j ++ v.cells.toList ++ (Y.f e).drop (j + sz))
    (h : ∀ w' cur', Row Y (es.set k e') cap cur' → Hp w0 w' (L.set i (b, .cells cur' tt)) F → LW P n ops rest Q ρ w') : LW P n ops ({ dst := none, op := .store T x y, type := t, pos := p, after := af, guard := none } :: rest) Q ρ w := by
  obtain ⟨hlt, -⟩ := List.getElem?_eq_some_iff.1 hk
  have hj' := Nat.le_of_ble_eq_true hj
  have hl : v.cells.toList.length = sz := by simpa using hs
  refine stv H i hT hx hy hi hs ?_ h1 fun w' h' => h w' _ (hR.put hk e' (by rw [hl]; exact hj') (by rw [hl]; exact he)) h'
  rw [hR.size]
  have h2 : (k + 1) * Y.sz ≤ cap * Y.sz := Nat.mul_le_mul_right _ (Nat.lt_of_lt_of_le hlt hR.le)
  rw [Nat.add_mul, Nat.one_mul] at h2
  omega
theorem add8_r {x y : Operand} {ty ty' : TypeId} {a b : UInt8} (hx : ev ρ x = .int .u8 a.toNat) (hy : ev ρ y = .int .u8 b.toNat) : (execOp (ev ρ) (Og dst (.binOp .add ty x y ty') t p af g)).run P w = .ok (.value (.int .u8 ((a + b).toNat : Nat))) w := by
  have e : IntKind.u8.wrap ((a.toNat : Int) + b.toNat) = ((a + b).toNat : Nat) := by
    simp [IntKind.wrap, IntKind.signed, IntKind.bits]
  simp only [execOp, hx, hy, eqGuard, binOp, Op.intArith, Sem.run_bind, Sem.run_pure]
  simp [e]
theorem beql_r {x y : Operand} {ty ty' : TypeId} {a b : Bool} (hT : P.underlying ty = some .bool) (hx : ev ρ x = .bool a) (hy : ev ρ y = .bool b) : (execOp (ev ρ) (Og dst (.binOp .eql ty x y ty') t p af g)).run P w = .ok (.value (.bool (a == b))) w := by
  have key : (Op.equal ty (.bool a) (.bool b)).run P w = .ok (a == b) w := by
    have := run_equalIn_bool' (P := P) w 9999 ty a b hT
    exact this
  simp only [execOp, hx, hy, eqGuard, Sem.run_bind, Sem.run_pure]
  simp [binOp, key]
end
end Go.Eng
