/- GM: a part of the proofs over this seat: what stands in its theorems holds for every input that they name. -/
import Derived.Test.YtemnchkebhclpaaGE
import Derived.Lib.Overlaps
import Derived.Laws.Externs
import Derived.Test.YtemnchkebhclpaaGI
import Derived.Test.YtemnchkebhclpaaEngZ
open Go.Eng renaming lw_nil → Zn, cw_seq → Zs, cw_region → Zr, cw_skip → Zk, cw_ret → Zt, cw_block → Zb, cw_exit → Zx, mvI_r → Yi, mvB_r → Yb, mvS_r → Ys, mvP_r → Yp, mvT_r → Yt, mvU_r → Yu, mvA_r → Ya, asI_r → Wi, asB_r → Wb, asS_r → Ws, asP_r → Wp, asT_r → Wt, fad_r → Zf, exI_r → Xi, exA_r → Xa, exB_r → Xb, exS_r → Xs, pkTB_r → Kt, pkFB_r → Kf, cw_true → ZT, cw_false → ZF
section
namespace Go.Eng
open Go Go.RowKit
theorem Hp.putM {w0 w : World} {K M : List (Nat × Obj)} {F : List Fact} {g : Nat} {cur : Array Value} {e : TypeId} (H : Hp w0 w (K ++ [(g, .cells cur e (0, 0))] ++ M) F) (new : Array Value) : Hp w0 (w.setRow g new) (K ++ [(g, .cells new e (0, 0))] ++ M) F := by
  have hg : w.heap[g]? = some (.cells cur e (0, 0)) := H.ent (i := K.length) (by simp)
  have h := H.put (i := K.length) (b := g) (o := .cells cur e) (by simp) (o' := .cells new e) (w' := w.setRow g new) (setRow_heap w g cur _ e _ hg) (by simp [World.setRow]) rfl rfl rfl fun k hk => setRow_other w g k _ hk
  simpa using h
theorem lay_size {cs : Array Value} {o : Nat} {new : List Value} (h : o + new.length ≤ cs.size) : (lay cs o new).size = cs.size := by
  have : cs.toList.length = cs.size := Array.length_toList
  simp only [lay, List.size_toArray, List.length_append, List.length_take, List.length_drop]
  omega
section
variable {P : Program} {w0 w : World} {F : List Fact} {n : Nat} {Q : Post} {ρ : Env} {ops : Array Oper} {rest : List Oper} {d : Nat} {t : TypeId} {p : String} {af : Array Edge} {K M L : List (Nat × Obj)} {g : Nat} {cur : Array Value} {e T sz : Nat}
theorem lw_valN {o : Oper} {v : Value} {w' : World} (hg : o.guard = none) (hd : o.dst = none) (hr : (execOp (ev ρ) o).run P w = .ok (.value v) w')
    (h : LW P n ops rest Q ρ w') : LW P n ops (o :: rest) Q ρ w := fun a ha =>
  wpList_plain hg fun _ hK => by
    unfold Oper.wp
    rw [ha.eval, hr]
    simp only [Oper.upon, hd]
    exact hK _ _ (h _ (ha.put_none _))
theorem run_storeR (hg : w.heap[g]? = some (.cells cur e (0, 0))) {o : Nat} {news : List Value} (hf : o + news.length ≤ cur.size) (h1 : ∀ u ∈ news, u.oneCell' = true) : (storeCells ⟨g, o, none⟩ news).run P w = .ok () (w.setRow g (lay cur o news)) := by
  have hst := run_storeCells_at P g o e news 0 cur w hg (by simpa using hf) h1
  simp only [Nat.add_zero] at hst
  exact hst
theorem src_first {X : Option Addr} {m sl sc : Nat} {news : List Value} (hs : Src w X m sz news) : (Builtin.firstCells sz m (.slice X sl sc)).run P w = .ok news.toArray w := by
  obtain ⟨hl, hn⟩ := hs
  cases X with
  | some ad =>
    refine run_firstCells_some (P := P) w sz m ad sl sc news hl ?_
    by_cases h : 0 < m
    · obtain ⟨ad', he, hc⟩ := hn h
      cases he
      exact hc
    · have : news = [] := List.eq_nil_of_length_eq_zero (by rw [hl, Nat.eq_zero_of_not_pos h, Nat.zero_mul])
      subst this
      simp
  | none =>
    have : news = [] := List.eq_nil_of_length_eq_zero (by
      by_cases h : 0 < m
      · obtain ⟨ad', he, hc⟩ := hn h
        cases he
      · rw [hl, Nat.eq_zero_of_not_pos h, Nat.zero_mul])
    subst this
    simp [Builtin.firstCells]
/-- copy into a block of the call's own -/
theorem cpW (hT : sliceB P T e sz = true) (H : Hp w0 w (K ++ [(g, .cells cur e (0, 0))] ++ M) F) {x y : Operand} {D X : Option Addr} {dl dc sl sc o m : Nat} {news : List Value} {ty : TypeId} (hx : ev ρ x = .slice D dl dc) (hy : ev ρ y = .slice X sl sc) (hm : Nat.min sl dl = m)
    (hD : 0 < m → D = some ⟨g, o, none⟩) (hs : Src w X m sz news) (h1 : ∀ u ∈ news, u.oneCell' = true) (hf : o + news.length ≤ cur.size) (hdn : Nat.blt d n = true)
    (h : ∀ w', Hp w0 w' (K ++ [(g, .cells (lay cur o news) e (0, 0))] ++ M) F → LW P n ops rest Q (upd ρ d (.int .i64 (m : Nat))) w') :
    LW P n ops (O d (.call { callee := .builtin .copy, args := #[x, y], argTypes := #[T, ty] }) t p af :: rest) Q ρ w := by
  obtain ⟨hu, j, h2, h3⟩ := slice_of hT
  have hg : w.heap[g]? = some (.cells cur e (0, 0)) := H.ent (i := K.length) (by simp)
  have hfc : (Builtin.firstCells sz m (.slice X sl sc)).run P w = .ok news.toArray w := src_first hs
  have hst := run_storeR (P := P) hg hf h1
  by_cases h0 : 0 < m
  · obtain rfl := hD h0
    refine lw_val rfl rfl hdn ?_ (h _ (H.putM _))
    simp [execOp, resolve, invoke, builtin, Builtin.copy_, hx, hy, run_underlying hu, Builtin.lenOf, run_size h2, h3, hm, hfc, hst, goInt]
  · have hn : news = [] := List.eq_nil_of_length_eq_zero (by rw [hs.1, Nat.eq_zero_of_not_pos h0, Nat.zero_mul])
    subst hn
    have e1 : lay cur o [] = cur := by simp [lay]
    rw [e1] at h
    refine lw_val rfl rfl hdn ?_ (h _ H)
    cases D <;> simp [execOp, resolve, invoke, builtin, Builtin.copy_, hx, hy, run_underlying hu, Builtin.lenOf, run_size h2, h3, hm, hfc, storeCells, goInt]
/-- clear a piece of a block of the call's own -/
theorem clW (hT : sliceB P T e sz = true) {z : Value} (hz : (P.info? e).bind (·.zero) = some z) (hzs : z.cells.size = sz) (hz1 : z.cells.toList.all (·.oneCell') = true) (H : Hp w0 w (K ++ [(g, .cells cur e (0, 0))] ++ M) F) {x : Operand} {D : Option Addr} {m dc o : Nat} (hx : ev ρ x = .slice D m dc)
    (hD : 0 < m → D = some ⟨g, o, none⟩) (hf : o + m * sz ≤ cur.size)
    (h : ∀ w', Hp w0 w' (K ++ [(g, .cells (lay cur o (Builtin.zeroCells z.cells m).toList) e (0, 0))] ++ M) F → LW P n ops rest Q ρ w') :
    LW P n ops ({ dst := none, op := .call { callee := .builtin .clear, args := #[x], argTypes := #[T] }, type := t, pos := p, after := af, guard := none } :: rest) Q ρ w := by
  obtain ⟨hu, j, h2, h3⟩ := slice_of hT
  have hg : w.heap[g]? = some (.cells cur e (0, 0)) := H.ent (i := K.length) (by simp)
  have hlen : (Builtin.zeroCells z.cells m).toList.length = m * sz := by rw [Array.length_toList, size_zeroCells, hzs]
  have hj : j.zero = some z := by rw [h2] at hz; exact hz
  by_cases h0 : 0 < m
  · obtain rfl := hD h0
    have hst := run_storeR (P := P) (news := (Builtin.zeroCells z.cells m).toList) hg (by rw [hlen]; exact hf) (fun u hu => by
      simp only [Builtin.zeroCells, Array.mem_toList_iff, Array.mem_map] at hu
      obtain ⟨i, hi, rfl⟩ := hu
      have hi' : i < m * z.cells.size := by simpa using hi
      have hpos : 0 < z.cells.size := Nat.pos_of_ne_zero fun he => by rw [he, Nat.mul_zero] at hi'; omega
      have hlt : i % z.cells.size < z.cells.size := Nat.mod_lt _ hpos
      rw [getElem!_pos z.cells _ hlt]
      exact List.all_eq_true.1 hz1 _ (by simp))
    obtain ⟨m', rfl⟩ : ∃ m', m = m' + 1 := ⟨m - 1, by omega⟩
    refine lw_valN rfl rfl (v := .tuple #[]) (w' := w.setRow g _) ?_ (h _ (H.putM _))
    simp [execOp, resolve, invoke, builtin, Builtin.clear_, hx, run_underlying hu, zeroValue, typeInfo, h2, hj, hst]
  · obtain rfl : m = 0 := by omega
    have e1 : lay cur o (Builtin.zeroCells z.cells 0).toList = cur := by simp [lay, Builtin.zeroCells]
    rw [e1] at h
    refine lw_valN rfl rfl (v := .tuple #[]) (w' := w) ?_ (h _ H)
    cases D <;> simp [execOp, resolve, invoke, builtin, Builtin.clear_, hx, run_underlying hu]
/-- append where there is room, in a block of the call's own: the capacity stays -/
theorem apR (hT : sliceB P T e sz = true) (H : Hp w0 w (K ++ [(g, .cells cur e (0, 0))] ++ M) F) {x y : Operand} {X : Option Addr} {k c m cx : Nat} {news : List Value} (hx : ev ρ x = .slice (some ⟨g, 0, none⟩) k c) (hy : ev ρ y = .slice X m cx) (hs : Src w X m sz news) (h1 : ∀ u ∈ news, u.oneCell' = true)
    (hroom : k + m ≤ c) (hf : k * sz + news.length ≤ cur.size) (hdn : Nat.blt d n = true)
    (h : ∀ w', Hp w0 w' (K ++ [(g, .cells (lay cur (k * sz) news) e (0, 0))] ++ M) F → LW P n ops rest Q (upd ρ d (.slice (some ⟨g, 0, none⟩) (k + m) c)) w') :
    LW P n ops (O d (.call { callee := .builtin .append, args := #[x, y], argTypes := #[T, T] }) t p af :: rest) Q ρ w := by
  obtain ⟨hu, j, h2, h3⟩ := slice_of hT
  have hg : w.heap[g]? = some (.cells cur e (0, 0)) := H.ent (i := K.length) (by simp)
  have hfc : (Builtin.firstCells sz m (.slice X m cx)).run P w = .ok news.toArray w := src_first hs
  have hst := run_storeR (P := P) hg hf h1
  refine lw_val rfl rfl hdn ?_ (h _ (H.putM _))
  simp [execOp, resolve, invoke, builtin, Builtin.append_, hx, hy, run_underlying hu, Builtin.lenOf, sizeOf, typeInfo, h2, h3, hroom, hfc, Addr.add_lit, hst]
/-- append of zeros past the room: a new block -/
theorem apG {by_ tn : Nat} {kn : IntKind} (hT : apB P T e sz by_ = true) (htn : intB P tn kn = true) (H : Hp w0 w L F) {x y : Operand} {b : Addr} {k c m : Nat} {kd : IntKind} {olds : List Value} (hx : ev ρ x = .slice (some b) k c) (hy : ev ρ y = .int kd (m : Nat))
    (ho : olds.length = k * sz) (hold : ∀ j u, olds[j]? = some u → w.cell? (b.add j) = some u) (hg : c < k + m) (hm : 0 < m) (hb : (k + m) * by_ ≤ 140737488355328) (hdn : Nat.blt d n = true)
    (h : ∀ w' g2 cp cur2, cur2.size = cp * sz → k + m ≤ cp → cp ≤ maxLen → cur2.toList.take (k * sz) = olds → Hp w0 w' ((g2, .cells cur2 e (0, 0)) :: L) F → LW P n ops rest Q (upd ρ d (.slice (some ⟨g2, 0, none⟩) (k + m) cp)) w') :
    LW P n ops (O d (.call { callee := .builtin .append, args := #[x, y], argTypes := #[T, tn] }) t p af :: rest) Q ρ w := by
  obtain ⟨i, z, h1, h2, h3, h4, h5, h6, h7, h8⟩ := ap_of hT
  have hu : P.underlying tn = some (.int kn) := by
    unfold intB at htn
    split at htn
    · rename_i k' hk; rw [hk, of_decide_eq_true htn]
    · cases htn
  have hmx : k + m ≤ maxLen := by
    have := Nat.le_mul_of_pos_right (k + m) h8
    simp only [maxLen]; omega
  have hge := grownCap_ge w (k + m) c e
  have hsm : k + m ≤ 9223372036854775807 := by simp only [maxLen] at hmx; omega
  have hmby : m * by_ ≤ (k + m) * by_ := Nat.mul_le_mul_right _ (by omega)
  have hfit := growslice_fits hg hb
  have hn : ¬ (k + m ≤ c) := by omega
  have hw : IntKind.i64.wrap (m : Int) = m := by rw [IntKind.wrap_i64]; omega
  have h63' : ¬ (9223372036854775807 < ((k : Int) + (m : Int))) := by omega
  have h48' : ¬ (281474976710656 < Builtin.nextslicecap (k + m) c * i.bytes) := by rw [h5]; omega
  have h48i : ¬ (281474976710656 < (m : Int) * (i.bytes : Int)) := by
    rw [← Int.natCast_mul, h5]
    omega
  have hneg : ¬ ((m : Int) < 0) := by omega
  have hns : ¬ (m * i.size = 0) := Nat.mul_ne_zero (by omega) (by omega)
  have hfo := run_firstCells_some (P := P) w.drew i.size k b k c olds (by rw [ho, h4]) (by simpa using hold)
  refine lw_val rfl rfl hdn (v := .slice (some ⟨w.heap.size, 0, none⟩) (k + m) (grownCap w (k + m) c e)) (w' := w.drew.alloc (.cells (olds.toArray ++ Builtin.zeroCells z.cells m ++ Builtin.zeroCells z.cells (grownCap w (k + m) c e - (k + m))) e)) ?_ (h _ _ _ _ ?_ hge (grownCap_le_maxLen w _ c e hmx) ?_ (H.drew.alloc _))
  · simp [execOp, resolve, invoke, builtin, hx, hy, Builtin.append_, run_underlying h1, run_underlying hu, sizeOf, typeInfo, zeroValue, h2, h3, asInt, asIntOf, hw, hneg, hns, hn, h63', h48', h48i, Question.forced, hfo, newRow, grownCap]
  · simp only [Array.size_append, List.size_toArray, size_zeroCells, h6, ho, ← Nat.add_mul]
    congr 1
    omega
  · simp only [Array.toList_append, List.append_assoc]
    rw [← ho]
    exact List.take_left
/-- a call whose run is known -/
theorem calR {f : FuncId} {xs : List Operand} {ats : Array TypeId} {vs : List Value} {v : Value} (hr : (callFunc f vs.toArray).run P w = .ok (.value v) w) (hv : xs.map (ev ρ) = vs) (hdn : Nat.blt d n = true) (h : LW P n ops rest Q (upd ρ d v) w) :
    LW P n ops (O d (.call { callee := .value (.func f), args := xs.toArray, argTypes := ats }) t p af :: rest) Q ρ w := by
  subst hv
  refine lw_val rfl rfl hdn ?_ h
  simp [execOp, resolve, ev, Deferred.ofValue, invoke, hr]
/-- s[i:j:k] -/
theorem sli3 {x lo hi mx : Operand} {A : Option Addr} {len cap : Nat} {k k' k'' : IntKind} {i j m : Int} (hT : sliceB P T e sz = true) (hx : ev ρ x = .slice A len cap) (hl : ev ρ lo = .int k i) (hh : ev ρ hi = .int k' j) (hm : ev ρ mx = .int k'' m) (h0 : 0 ≤ i ∧ i ≤ j) (h2 : j ≤ m) (h3 : m ≤ cap) (hdn : Nat.blt d n = true)
    (h : ∀ A' l' c', LW P n ops rest Q (upd ρ d (.slice A' l' c')) w) : LW P n ops (O d (.slice T x (some lo) (some hi) (some mx)) t p af :: rest) Q ρ w := by
  obtain ⟨hu, q, h5, h4⟩ := slice_of hT
  obtain ⟨h0, h1⟩ := h0
  obtain ⟨i, rfl⟩ := Int.eq_ofNat_of_zero_le h0
  obtain ⟨j, rfl⟩ := Int.eq_ofNat_of_zero_le (show 0 ≤ j by omega)
  obtain ⟨m, rfl⟩ := Int.eq_ofNat_of_zero_le (show 0 ≤ m by omega)
  have a1 : i ≤ j := by omega
  have a2 : j ≤ m := by omega
  have a3 : m ≤ cap := by omega
  refine lw_val (v := .slice (if m = i then A else A.map (·.add (i * sz))) (j - i) (m - i)) rfl rfl hdn ?_ (h _ _ _)
  simp [execOp, Instr.sliceAt, hx, hl, hh, hm, Sem.run_bind, run_underlying hu, Instr.slice, Instr.sliceBounds, Instr.sliceBound, asIntOf, a1, a2, a3, run_size h5, h4]
end
end Go.Eng
end

section
namespace Go.Eng
open Go Go.RowKit
section
variable {cs : Array Value} {o : Nat} {new : List Value}
theorem lay_take {a : Nat} (ha : a ≤ o) (h : o ≤ cs.size) : (lay cs o new).toList.take a = cs.toList.take a := by
  have h1 : (cs.toList.take o).length = o := by rw [List.length_take, Array.length_toList]; omega
  simp only [lay, List.append_assoc]
  rw [List.take_append_of_le_length (by omega), List.take_take, Nat.min_eq_left ha]
theorem lay_upto (h : o ≤ cs.size) : (lay cs o new).toList.take (o + new.length) = cs.toList.take o ++ new := by
  have h1 : (cs.toList.take o).length = o := by rw [List.length_take, Array.length_toList]; omega
  have h2 : (cs.toList.take o ++ new).length = o + new.length := by rw [List.length_append, h1]
  show List.take (o + new.length) (cs.toList.take o ++ new ++ cs.toList.drop (o + new.length)) = _
  rw [← h2]
  exact List.take_left
theorem lay_from (h : o ≤ cs.size) : (lay cs o new).toList.drop o = new ++ cs.toList.drop (o + new.length) := by
  have h1 : (cs.toList.take o).length = o := by rw [List.length_take, Array.length_toList]; omega
  simp only [lay, List.append_assoc]
  rw [List.drop_append_of_le_length (by omega), List.drop_of_length_le (by omega), List.nil_append]
end
theorem min_l {a b m : Nat} (h : a = m) (h2 : m ≤ b) : Nat.min a b = m := by subst h; exact Nat.min_eq_left h2
theorem min_r {a b m : Nat} (h : b = m) (h2 : m ≤ a) : Nat.min a b = m := by subst h; exact Nat.min_eq_right h2
section
variable {α : Type} {Y : Lay α} {es : List α} {c : Nat} {cur : Array Value} {i j : Nat} {x : α}
theorem ins_len (hi : i ≤ es.length) : (es.take i ++ [x] ++ es.drop i).length = es.length + 1 := by simp; omega
theorem all_one (x : α) : Y.all [x] = Y.f x := by simp [Lay.all]
theorem ins_all (x : α) (es : List α) (i : Nat) : Y.all (es.take i ++ [x] ++ es.drop i) = Y.all (es.take i) ++ Y.f x ++ Y.all (es.drop i) := by rw [Lay.all_append, Lay.all_append, all_one]
theorem Row.fit (h : Row Y es c cur) (hi : i ≤ c) : i * Y.sz ≤ cur.size := by rw [h.size]; exact Nat.mul_le_mul_right _ hi
theorem Row.pre (h : Row Y es c cur) (hi : i ≤ es.length) : cur.toList.take (i * Y.sz) = Y.all (es.take i) := by
  have h1 : i * Y.sz ≤ es.length * Y.sz := Nat.mul_le_mul_right _ hi
  rw [Lay.all_take, ← h.all, List.take_take, Nat.min_eq_left h1]
theorem Row.insIn (h : Row Y es c cur) (hi : i ≤ es.length) (hc : es.length + 1 ≤ c) : Row Y (es.take i ++ [x] ++ es.drop i) c (lay (lay cur ((i + 1) * Y.sz) (Y.all (es.drop i))) (i * Y.sz) (Y.f x)) := by
  have hl1 : (Y.all (es.drop i)).length = (es.length - i) * Y.sz := by rw [Lay.length, List.length_drop]
  have hs : (i + 1) * Y.sz + (Y.all (es.drop i)).length = (es.length + 1) * Y.sz := by rw [hl1, ← Nat.add_mul]; congr 1; omega
  have hf1 := h.fit hc
  have hz1 : (lay cur ((i + 1) * Y.sz) (Y.all (es.drop i))).size = cur.size := lay_size (by omega)
  have hf : (Y.f x).length = Y.sz := Y.len x
  have hi1 : (i + 1) * Y.sz = i * Y.sz + Y.sz := by rw [Nat.add_mul, Nat.one_mul]
  have hle := h.fit (i := i + 1) (by omega)
  have hz2 : (lay (lay cur ((i + 1) * Y.sz) (Y.all (es.drop i))) (i * Y.sz) (Y.f x)).size = cur.size := by rw [lay_size (by omega), hz1]
  refine ⟨by rw [hz2, h.size], ?_, by rw [ins_len hi]; exact hc, h.max⟩
  rw [ins_len hi, ins_all, ← hs, hi1]
  have h3 : (lay (lay cur (i * Y.sz + Y.sz) (Y.all (es.drop i))) (i * Y.sz) (Y.f x)).toList = Y.all (es.take i) ++ Y.f x ++ (Y.all (es.drop i) ++ cur.toList.drop (i * Y.sz + Y.sz + (Y.all (es.drop i)).length)) := by
    show List.take _ _ ++ _ ++ List.drop _ _ = _
    rw [lay_take (by omega) (by omega), h.pre hi, hf, lay_from (by omega)]
  rw [h3, ← List.append_assoc]
  have h4 : i * Y.sz + Y.sz + (Y.all (es.drop i)).length = (Y.all (es.take i) ++ Y.f x ++ Y.all (es.drop i)).length := by
    rw [List.length_append, List.length_append, hf, Lay.length, Lay.length, List.length_take, Nat.min_eq_left hi]
  rw [h4]
  exact List.take_left
theorem Row.insNew {c2 : Nat} {cur2 : Array Value} (hs2 : cur2.size = c2 * Y.sz) (hm : c2 ≤ maxLen) (hp : cur2.toList.take (i * Y.sz) = Y.all (es.take i)) (hi : i ≤ es.length) (hc : es.length + 1 ≤ c2) :
    Row Y (es.take i ++ [x] ++ es.drop i) c2 (lay (lay cur2 (i * Y.sz) (Y.f x)) ((i + 1) * Y.sz) (Y.all (es.drop i))) := by
  have hl1 : (Y.all (es.drop i)).length = (es.length - i) * Y.sz := by rw [Lay.length, List.length_drop]
  have hs : (i + 1) * Y.sz + (Y.all (es.drop i)).length = (es.length + 1) * Y.sz := by rw [hl1, ← Nat.add_mul]; congr 1; omega
  have hfit : (es.length + 1) * Y.sz ≤ cur2.size := by rw [hs2]; exact Nat.mul_le_mul_right _ hc
  have hf : (Y.f x).length = Y.sz := Y.len x
  have hi1 : (i + 1) * Y.sz = i * Y.sz + Y.sz := by rw [Nat.add_mul, Nat.one_mul]
  have hle : (i + 1) * Y.sz ≤ (es.length + 1) * Y.sz := Nat.mul_le_mul_right _ (by omega)
  have hz1 : (lay cur2 (i * Y.sz) (Y.f x)).size = cur2.size := lay_size (by omega)
  have hz2 : (lay (lay cur2 (i * Y.sz) (Y.f x)) ((i + 1) * Y.sz) (Y.all (es.drop i))).size = cur2.size := by rw [lay_size (by omega), hz1]
  refine ⟨by rw [hz2, hs2], ?_, by rw [ins_len hi]; exact hc, hm⟩
  rw [ins_len hi, ins_all, ← hs, lay_upto (by omega), hi1, show i * Y.sz + Y.sz = i * Y.sz + (Y.f x).length by rw [hf], lay_upto (by omega), hp]
theorem del_len (hij : i ≤ j) (hj : j ≤ es.length) : (es.take i ++ es.drop j).length = i + (es.length - j) := by simp; omega
theorem Row.del (h : Row Y es c cur) (hij : i ≤ j) (hj : j ≤ es.length) {o : Nat} {zs : List Value} (ho : (i + (es.length - j)) * Y.sz ≤ o) (hz : o + zs.length ≤ cur.size) : Row Y (es.take i ++ es.drop j) c (lay (lay cur (i * Y.sz) (Y.all (es.drop j))) o zs) := by
  have hl1 : (Y.all (es.drop j)).length = (es.length - j) * Y.sz := by rw [Lay.length, List.length_drop]
  have hs : i * Y.sz + (Y.all (es.drop j)).length = (i + (es.length - j)) * Y.sz := by rw [hl1, ← Nat.add_mul]
  have hle := h.le
  have hf1 := h.fit (i := i) (by omega)
  have hz1 : (lay cur (i * Y.sz) (Y.all (es.drop j))).size = cur.size := lay_size (by omega)
  refine ⟨by rw [lay_size (by omega), hz1, h.size], ?_, by rw [del_len hij hj]; omega, h.max⟩
  rw [del_len hij hj, lay_take ho (by omega), ← hs, lay_upto hf1, h.pre (by omega), Lay.all_append]
theorem Row.from_ (h : Row Y es c cur) {g : Nat} {T : TypeId} {fr : Nat × Nat} {w : World} (hb : w.heap[g]? = some (.cells cur T fr)) (j : Nat) : ∀ m u, (Y.all (es.drop j))[m]? = some u → w.cell? ⟨g, j * Y.sz + m, none⟩ = some u := fun m u hu => by
  rw [Lay.all_drop, List.getElem?_drop, ← h.all, List.getElem?_take] at hu
  split at hu
  · exact cellE hb (by simpa using hu)
  · cases hu
theorem Row.srcFrom (h : Row Y es c cur) {g : Nat} {T : TypeId} {fr : Nat × Nat} {w : World} (hb : w.heap[g]? = some (.cells cur T fr)) {A : Option Addr} {l : Nat} (hj : j ≤ es.length) (hA : From (some ⟨g, 0, none⟩) A j l Y.sz) (hl : j < es.length → j < l) : Src w A (es.length - j) Y.sz (Y.all (es.drop j)) := by
  refine ⟨by rw [Lay.length, List.length_drop], fun h0 => ⟨⟨g, j * Y.sz, none⟩, ?_, fun m u hu => ?_⟩⟩
  · have := hA (hl (by omega)) g 0 rfl
    rw [Nat.zero_add] at this
    exact this
  · rw [Addr.add_lit]
    exact h.from_ hb j m u hu
end
theorem cut_at {g cap l sz : Nat} (h : l < cap) : cut (some ⟨g, 0, none⟩) cap l sz = some ⟨g, l * sz, none⟩ := by
  have := cut_from (A := some ⟨g, 0, none⟩) (l := l) (sz := sz) (Nat.le_refl cap) h g 0 rfl
  rw [Nat.zero_add] at this; exact this
theorem From.at0 {g cap l sz : Nat} {A : Option Addr} (h : From (some ⟨g, 0, none⟩) A l cap sz) (hl : l < cap) : A = some ⟨g, l * sz, none⟩ := by
  have := h hl g 0 rfl
  rw [Nat.zero_add] at this; exact this
/-- a new row in the place of an old one -/
theorem Hp.swapRow {w0 w : World} {F : List Fact} {K M : List (Nat × Obj)} {a b : Nat × Obj} (H : Hp w0 w ([] ++ [a] ++ (K ++ [b] ++ M)) F) : Hp w0 w (K ++ [a] ++ M) F := by
  have h1 : Hp w0 w (a :: (K ++ [b] ++ M)) F := H
  have hs : List.Sublist (K ++ M) (K ++ [b] ++ M) := List.Sublist.append (List.sublist_append_left K [b]) (List.Sublist.refl M)
  have h : Hp w0 w (a :: (K ++ M)) F := h1.forget (List.Sublist.cons_cons a hs) (fun _ h => h)
  exact h.perm (by rw [List.append_assoc]; exact List.perm_middle)
end Go.Eng
end

section
namespace Go.Proofs.Ytemnchkebhclpaa
open Go Go.Eng Go.RowKit
theorem fn_slices_overlaps_int : Try.prog.funcs[(155 : Nat)]? = some Try.f155 := Try.func155
set_option maxHeartbeats 4000000 in
/-- slices.Insert of one element, into a row of the caller's own -/
theorem ins_Lint_int {w0 w : World} {K M Lt : List (Nat × Obj)} {F : List Fact} {es : List Int} {x : Int} {i c vb : Nat} {A : Option Addr} (H : Hp w0 w (((vb, .cells (intL.f x).toArray 3 (0, 0)) :: K) ++ Lt ++ M) F) (ho : Own intL (.slice A es.length c) 3 es Lt) (hi : i ≤ es.length) (hb : (es.length + 1) * 8 ≤ 140737488355328) :
  Ret Try.prog i_slices_Insert_Lint_int [.slice A es.length c, .int .i64 (i : Nat), .slice (some ⟨vb, 0, none⟩) ((1 : Nat)) 1] w fun v w2 => ∃ A' c' L', v = .slice A' (es.take i ++ [x] ++ es.drop i).length c' ∧ Own intL (.slice A' (es.take i ++ [x] ++ es.drop i).length c') 3 (es.take i ++ [x] ++ es.drop i) L' ∧ Hp w0 w2 (((vb, .cells (intL.f x).toArray 3 (0, 0)) :: K) ++ L' ++ M) F := by
 refine ret_of fn_slices_Insert_Lint_int rfl rfl ?_
 show CW _ _ _ _ (args [.slice A es.length c, .int .i64 (i : Nat), .slice (some ⟨vb, 0, none⟩) ((1 : Nat)) 1]) w
 have hc0 : es.length ≤ c := by
  obtain ⟨_, c', he, hc, _⟩ := ho.form
  injection he with _ _ he
  omega
 have hxs : (intL.f x).length = intL.sz := intL.len x
 have hx1 : ∀ u ∈ intL.f x, u.oneCell' = true := fun u hu => intL.one x u hu
 have hsv : ∀ {w2 : World} {K2 : List (Nat × Obj)}, Hp w0 w2 ((vb, .cells (intL.f x).toArray 3 (0, 0)) :: K2) F → Src w2 (some ⟨vb, 0, none⟩) 1 intL.sz (intL.all [x]) := fun h => ⟨by rw [Lay.length]; rfl, fun _ => ⟨_, rfl, fun j u hj => by rw [all_one] at hj; rw [Addr.add_lit, Nat.zero_add]; exact cellE (h.ent (i := 0) rfl) (by simpa using hj)⟩⟩
 refine Zs<|Zr<|asS rfl rfl<|Zn<|Zs<|Zr<|mvS rfl rfl<|mvI rfl rfl<|sliLo sl_Lint rfl rfl (by omega) (by omega) (by omega) rfl fun A12 hA12 =>Zn<|Zs<|Zr<|mvS rfl rfl<|lenS len_Lint rfl rfl ?_
 refine asI rfl rfl<|Zn<|Zs<|Zs<|Zr<|mvI rfl rfl<|Zl (eqlF_r rfl rfl (by decide))<|Zn<|ZF rfl<|Zk<|Zs<|Zr<|mvS rfl rfl<|lenS len_Lint rfl rfl ?_
 refine asI rfl rfl<|Zn<|Zs<|Zs<|Zr<|mvI rfl rfl<|mvI rfl rfl ?_
 refine eqlS rfl rfl rfl (fun h22 => ?_) (fun h22 => ?_)
 ·
  refine lw_nil ?_
  refine ZT rfl<|Zs<|Zr<|mvS rfl rfl<|mvS rfl rfl<|apO (Y := intL) (es := es) (news := [x]) ap_Lint H ho rfl rfl rfl (hsv H) (by show (es.length + 1) * 8 ≤ _; omega) rfl fun A25 c25 w25 L25 h25 h25b ho25 H25 =>asS rfl rfl<|Zn<|Zt<|fin1 rfl rfl ?_
  have hi : i = es.length := by omega
  subst hi
  have he : es.take es.length ++ [x] ++ es.drop es.length = es ++ [x] := by rw [List.take_length, List.drop_length, List.append_nil]
  rw [he]
  exact ⟨A25, c25, L25, rfl, ho25, H25⟩
 refine Zn<|ZF rfl<|Zk ?_
 have hlt : i < es.length := by omega
 obtain ⟨g, cur, rfl, rfl, row⟩ := ho.row (by omega)
 have hgE : w.heap[g]? = some (.cells cur 3 (0, 0)) := H.ent (i := ((vb, .cells (intL.f x).toArray 3 (0, 0)) :: K : List (Nat × Obj)).length) (by simp)
 have hle := row.le
 have hmx := row.max
 have hlen := ins_len (x := x) (Nat.le_of_lt hlt)
 have hfit := row.fit hle
 have hif := row.fit (i := i) (by omega)
 have hdr : (intL.all (es.drop i)).length = (es.length - i) * intL.sz := by rw [Lay.length, List.length_drop]
 have hsm : (i + 1) * intL.sz + (es.length - i) * intL.sz = (es.length + 1) * intL.sz := by rw [← Nat.add_mul]; congr 1; omega
 have hi3 : (i + 1) * intL.sz = i * intL.sz + intL.sz := by rw [Nat.add_mul, Nat.one_mul]
 refine Zs<|Zs<|Zr<|mvI rfl rfl<|mvI rfl rfl<|add rfl rfl (by omega) (by omega) rfl<|mvS rfl rfl<|Zl (capS_r len_Lint rfl) ?_
 refine gtrS rfl rfl rfl (fun h31 => ?_) (fun h31 => ?_)
 ·
  refine lw_nil ?_
  refine ZT rfl<|Zs<|Zr<|mvS rfl rfl<|mvI rfl rfl<|sliHi sl_Lint rfl rfl (by omega) (by omega) rfl fun A34 hA34 => ?_
  obtain rfl := hA34 (by omega)
  refine mvI rfl rfl<|mvI rfl rfl<|add rfl rfl (by omega) (by omega) rfl<|mvI rfl rfl<|sub rfl rfl (by omega) (by omega) rfl ?_
  refine apG (m := es.length + 1 - i) ap_Lint int_int H rfl (kd := .i64) (show _ = Value.int _ _ from congrArg (Value.int _) (show ((es.length : Int) + ((1 : Nat) : Int)) - (i : Nat) = ((es.length + 1 - i : Nat) : Int) by omega)) (olds := intL.all (es.take i)) (by rw [Lay.length, List.length_take, Nat.min_eq_left (by omega)]; rfl) (fun j u hj => by rw [Addr.add_lit, Nat.zero_add]; rw [← row.pre (by omega), List.getElem?_take] at hj; split at hj; exact cellE hgE (by simpa using hj); cases hj) (by omega) (by omega) (by show (((i : Nat) : Int).toNat + (es.length + 1 - i)) * 8 ≤ _; omega) rfl ?_
  intro w1 g2 c2 cur2 hs2 hge2 hmx2 hp2 H
  have hs2' : cur2.size = c2 * intL.sz := hs2
  have hc2 : (es.length + 1) * intL.sz ≤ cur2.size := by rw [hs2']; exact Nat.mul_le_mul_right _ (by omega)
  have hg2 : (lay cur2 (i * intL.sz) (intL.f x)).size = cur2.size := lay_size (by rw [hxs]; omega)
  refine asS rfl rfl<|Zn<|Zs<|Zr<|mvS rfl rfl<|mvI rfl rfl<|sliLo sl_Lint rfl rfl (by omega) (by omega) (by omega) rfl fun A43 hA43 =>mvS rfl rfl ?_
  have hsrc := hsv (H.perm (List.Perm.swap _ _ _))
  refine cpW (K := []) (m := 1) (o := i * intL.sz) sl_Lint H rfl rfl (min_l rfl (by omega)) (fun _ => From.at0 hA43 (by omega)) hsrc (by rw [all_one]; exact hx1) (by rw [all_one, hxs]; omega) rfl ?_
  rw [all_one]
  intro w2 H
  refine Zn<|Zs ?_
  refine cw_draw mixed [0, 1, 2, 3, 4, 5, 6, 7] [8] [] [0, 1, 2, 3, 4, 5, 6, 7] (sp []) (by kernel_rfl) (by kernel_rfl) (by kernel_rfl) (by kernel_rfl) (fun _ _ _ h => h) (sp_st _) ?_
  refine aw rfl rfl rfl rfl rfl (fun _ _ => mv_r rfl)<|aw rfl rfl rfl rfl rfl (fun _ _ => mv_r rfl)<|aw rfl rfl rfl rfl rfl (fun _ _ => mv_r rfl)<|aw rfl rfl rfl rfl rfl (fun _ _ => add_r rfl rfl (by omega) (by omega))<|aw rfl rfl rfl rfl rfl (fun _ _ => sliLo_r sl_Lint rfl rfl (by omega) (by omega))<|aw rfl rfl rfl rfl rfl (fun _ _ => mv_r rfl)<|aw rfl rfl rfl rfl rfl (fun _ _ => mv_r rfl)<|aw rfl rfl rfl rfl rfl (fun _ _ => sliLo_r sl_Lint rfl rfl (by omega) (by omega))<|aw_nil ?_
  intro w' hw' _; replace H := H.later hw'; clear hw'
  have hgE2 : w'.heap[g]? = some (.cells cur 3 (0, 0)) := (H.ents (g, .cells cur 3 (0, 0)) (by simp)).1
  refine cpW (K := []) (m := es.length - i) (o := (i + 1) * intL.sz) sl_Lint H rfl rfl (min_l (by omega) (by omega)) (fun _ => cut_at (by omega)) (row.srcFrom hgE2 (by omega) (cut_from (Nat.le_refl _)) (by omega)) (Lay.all_one _) (by rw [hdr, hg2]; omega) rfl ?_
  intro w3 H
  refine Zn<|Zs<|Zr<|mvS rfl rfl<|asS rfl rfl<|Zn<|Zt<|fin1 rfl rfl ?_
  exact ⟨some ⟨g2, 0, none⟩, c2, _, by rw [hlen]; show Value.slice _ (((i : Nat) : Int).toNat + (es.length + 1 - i)) _ = _; congr 1; omega, Row.own (Row.insNew hs2' hmx2 hp2 (Nat.le_of_lt hlt) (by omega)), H.swapRow⟩
 refine Zn<|ZF rfl<|Zk ?_
 have hroom : es.length + 1 ≤ c := by omega
 have hfr := row.fit hroom
 refine Zs<|Zr<|mvS rfl rfl<|mvI rfl rfl<|mvI rfl rfl<|add rfl rfl (by omega) (by omega) rfl<|sliHi sl_Lint rfl rfl (by omega) (by omega) rfl fun A60 hA60 => ?_
 obtain rfl := hA60 (by omega)
 refine asS rfl rfl<|Zn<|Zs<|Zs<|Zr<|mvS rfl rfl<|mvS rfl rfl<|mvI rfl rfl<|mvI rfl rfl<|add rfl rfl (by omega) (by omega) rfl<|sliLo sl_Lint rfl rfl (by omega) (by omega) (by omega) rfl fun A66 hA66 => ?_
 have hA := From.at0 hA66 (by omega)
 have hvE : w.heap[vb]? = some (.cells (intL.f x).toArray 3 (0, 0)) := H.ent (i := 0) rfl
 have hne : vb ≠ g := fun he => by
  have := H.nodup
  simp only [List.map_append, List.map_cons, List.cons_append, List.nodup_cons, List.mem_append] at this
  exact this.1 (.inl (.inr (by rw [he]; exact List.mem_cons_self)))
 have hov : ∀ lb cb, (callFunc i_slices_overlaps_int #[.slice (some ⟨vb, 0, none⟩) 1 1, .slice A66 lb cb]).run Try.prog w = .ok (.value (.bool false)) w := fun lb cb => by
  rw [hA, run_callFunc_extern fn_slices_overlaps_int (by kernel_rfl) (by kernel_rfl) (by kernel_rfl) (e := Extern.SlicesOverlaps.overlaps #[89, 89] #[4]) (by kernel_rfl),
   Lib.run_overlaps_apart w 89 4 3 (slice_of sl_Lint).1 intL.sz (by obtain ⟨_, j, h1, h2⟩ := slice_of sl_Lint; exact fun w => by rw [run_size h1, h2]; rfl) ⟨vb, 0, none⟩ _ 1 1 lb cb hne 3 3 (intL.f x).length cur.size (by simp [World.shape?, hvE]) (by simp [World.shape?, hgE]) (by have := intL.pos; have := row.fit (i := 1) (by omega); omega) (by simp [World.frozen?, hvE]) (by simp [World.frozen?, hvE])]
  rfl
 refine calR (hov _ _) rfl rfl<|not rfl rfl<|Zn<|ZT rfl<|Zs ?_
 refine cw_draw mixed [0, 1, 2, 3, 4, 5, 6, 7] [8] [] [0, 1, 2, 3, 4, 5, 6, 7] (sp []) (by kernel_rfl) (by kernel_rfl) (by kernel_rfl) (by kernel_rfl) (fun _ _ _ h => h) (sp_st _) ?_
 refine aw rfl rfl rfl rfl rfl (fun _ _ => mv_r rfl)<|aw rfl rfl rfl rfl rfl (fun _ _ => mv_r rfl)<|aw rfl rfl rfl rfl rfl (fun _ _ => mv_r rfl)<|aw rfl rfl rfl rfl rfl (fun _ _ => add_r rfl rfl (by omega) (by omega))<|aw rfl rfl rfl rfl rfl (fun _ _ => sliLo_r sl_Lint rfl rfl (by omega) (by omega))<|aw rfl rfl rfl rfl rfl (fun _ _ => mv_r rfl)<|aw rfl rfl rfl rfl rfl (fun _ _ => mv_r rfl)<|aw rfl rfl rfl rfl rfl (fun _ _ => sliLo_r sl_Lint rfl rfl (by omega) (by omega))<|aw_nil ?_
 intro w' hw' _; replace H := H.later hw'; clear hw'
 have hgE2 : w'.heap[g]? = some (.cells cur 3 (0, 0)) := (H.ents (g, .cells cur 3 (0, 0)) (by simp)).1
 have hz1 : (lay cur ((i + 1) * intL.sz) (intL.all (es.drop i))).size = cur.size := lay_size (by rw [hdr]; omega)
 refine cpW (m := es.length - i) (o := (i + 1) * intL.sz) sl_Lint H rfl rfl (min_r (by omega) (by omega)) (fun _ => cut_at (by omega)) (row.srcFrom hgE2 (by omega) (cut_from (Nat.le_refl _)) (by omega)) (Lay.all_one _) (by rw [hdr]; omega) rfl ?_
 intro w2 H
 refine Zn<|Zs<|Zr<|mvS rfl rfl<|mvI rfl rfl<|sliLo sl_Lint rfl rfl (by omega) (by omega) (by omega) rfl fun A80 hA80 =>mvS rfl rfl ?_
 have hsrc := hsv H
 refine cpW (m := 1) (o := i * intL.sz) sl_Lint H rfl rfl (min_l rfl (by omega)) (fun _ => From.at0 hA80 (by omega)) hsrc (by rw [all_one]; exact hx1) (by rw [all_one, hxs, hz1]; omega) rfl ?_
 rw [all_one]
 intro w3 H
 refine Zn<|Zs<|Zr<|mvS rfl rfl<|asS rfl rfl<|Zn<|Zt<|fin1 rfl rfl ?_
 exact ⟨some ⟨g, 0, none⟩, c, _, by rw [hlen]; show Value.slice _ ((es.length : Int) + ((1 : Nat) : Int)).toNat _ = _; congr 1, Row.own (row.insIn (Nat.le_of_lt hlt) hroom), H⟩

set_option maxHeartbeats 4000000 in
/-- slices.Delete, from a row of the caller's own -/
theorem del_Lint_int {w0 w : World} {K M Lt : List (Nat × Obj)} {F : List Fact} {es : List Int} {i j c : Nat} {A : Option Addr} (H : Hp w0 w (K ++ Lt ++ M) F) (ho : Own intL (.slice A es.length c) 3 es Lt) (hij : i ≤ j) (hj : j ≤ es.length) (hb : es.length * 8 ≤ 140737488355328) :
  Ret Try.prog i_slices_Delete_Lint_int [.slice A es.length c, .int .i64 (i : Nat), .int .i64 (j : Nat)] w fun v w2 => ∃ A' c' L', v = .slice A' (es.take i ++ es.drop j).length c' ∧ Own intL (.slice A' (es.take i ++ es.drop j).length c') 3 (es.take i ++ es.drop j) L' ∧ Hp w0 w2 (K ++ L' ++ M) F := by
 refine ret_of fn_slices_Delete_Lint_int rfl rfl ?_
 show CW _ _ _ _ (args [.slice A es.length c, .int .i64 (i : Nat), .int .i64 (j : Nat)]) w
 have hc0 : es.length ≤ c := by
  obtain ⟨_, c', he, hc, _⟩ := ho.form
  injection he with _ _ he
  omega
 refine Zs<|Zr<|asS rfl rfl<|Zn<|Zs<|Zr<|mvS rfl rfl<|mvI rfl rfl<|mvI rfl rfl<|mvS rfl rfl<|lenS len_Lint rfl rfl<|sli3 sl_Lint rfl rfl rfl rfl ⟨by omega, by omega⟩ (by omega) (by omega) rfl fun A13 l13 c13 =>Zn<|Zs ?_
 refine Zs<|Zr<|mvI rfl rfl<|mvI rfl rfl ?_
 refine eqlS rfl rfl rfl (fun h16 => ?_) (fun h16 => ?_)
 ·
  refine lw_nil ?_
  refine ZT rfl<|Zs<|Zr<|mvS rfl rfl<|asS rfl rfl<|Zn<|Zt<|fin1 rfl rfl ?_
  have hij : i = j := by omega
  subst hij
  rw [List.take_append_drop]
  exact ⟨A, c, Lt, rfl, ho, H⟩
 refine Zn<|ZF rfl<|Zk ?_
 have hlt : i < j := by omega
 obtain ⟨g, cur, rfl, rfl, row⟩ := ho.row (by omega)
 have hle := row.le
 have hmx := row.max
 have hlen := del_len hij hj
 have hfit := row.fit hle
 have hif := row.fit (i := i) (by omega)
 have hdr : (intL.all (es.drop j)).length = (es.length - j) * intL.sz := by rw [Lay.length, List.length_drop]
 refine Zs<|Zr<|mvS rfl rfl<|lenS len_Lint rfl rfl<|asI rfl rfl<|Zn<|Zs ?_
 refine cw_draw mixed [0, 1, 2, 3, 4, 5] [6, 7] [] [0, 1, 2, 3, 4, 5] (sp []) (by kernel_rfl) (by kernel_rfl) (by kernel_rfl) (by kernel_rfl) (fun _ _ _ h => h) (sp_st _) ?_
 refine aw rfl rfl rfl rfl rfl (fun _ _ => mv_r rfl)<|aw rfl rfl rfl rfl rfl (fun _ _ => mv_r rfl)<|aw rfl rfl rfl rfl rfl (fun _ _ => sliHi_r sl_Lint rfl rfl (by omega) (by omega))<|aw rfl rfl rfl rfl rfl (fun _ _ => mv_r rfl)<|aw rfl rfl rfl rfl rfl (fun _ _ => mv_r rfl)<|aw rfl rfl rfl rfl rfl (fun _ _ => sliLo_r sl_Lint rfl rfl (by omega) (by omega))<|aw_nil ?_
 intro w' hw' _; replace H := H.later hw'; clear hw'
 have hgE2 : w'.heap[g]? = some (.cells cur 3 (0, 0)) := (H.ents (g, .cells cur 3 (0, 0)) (by simp)).1
 have hs1 : i * intL.sz + (intL.all (es.drop j)).length = (i + (es.length - j)) * intL.sz := by rw [hdr, ← Nat.add_mul]
 have hs2 := row.fit (i := i + (es.length - j)) (by omega)
 have hz1 : (lay cur (i * intL.sz) (intL.all (es.drop j))).size = cur.size := lay_size (by omega)
 refine apR (k := i) (c := c) (m := es.length - j) sl_Lint H (show _ = Value.slice _ _ _ by show Value.slice (cut _ c 0 _) _ _ = _; rw [cut_at (by omega), Nat.zero_mul]; rfl) rfl (row.srcFrom hgE2 hj (cut_from hc0) (by omega)) (Lay.all_one _) (by omega) (by show i * intL.sz + _ ≤ _; omega) rfl ?_
 intro w1 H
 replace H : Hp w0 w1 (K ++ [(g, .cells (lay cur (i * intL.sz) (intL.all (es.drop j))) 3 (0, 0))] ++ M) F := H
 refine asS rfl rfl<|Zn<|Zs<|Zr<|mvS rfl rfl<|mvS rfl rfl<|lenS len_Lint rfl rfl<|mvI rfl rfl<|sliLH sl_Lint rfl rfl rfl (by omega) (by omega) (by omega) rfl fun A31 hA31 => ?_
 have hzc : (((es.length : Nat) : Int).toNat - ((i + (es.length - j) : Nat) : Int).toNat) * intL.sz + (i + (es.length - j)) * intL.sz = es.length * intL.sz := by rw [← Nat.add_mul]; congr 1; omega
 refine clW (o := (i + (es.length - j)) * intL.sz) (z := .int .i64 0) sl_Lint (by kernel_rfl) rfl rfl H rfl (fun _ => From.at0 hA31 (by omega)) (by rw [hz1]; show _ + (((es.length : Nat) : Int).toNat - ((i + (es.length - j) : Nat) : Int).toNat) * intL.sz ≤ _; omega) ?_
 intro w2 H
 refine Zn<|Zs<|Zr<|mvS rfl rfl<|asS rfl rfl<|Zn<|Zt<|fin1 rfl rfl ?_
 have hzl : ∀ m, (Builtin.zeroCells (Value.cells (.int .i64 0)) m).toList.length = m * intL.sz := fun m => by rw [Array.length_toList, size_zeroCells]; rfl
 have hr := row.del hij hj (Nat.le_refl ((i + (es.length - j)) * intL.sz)) (zs := (Builtin.zeroCells (Value.cells (.int .i64 0)) (((es.length : Nat) : Int).toNat - ((i + (es.length - j) : Nat) : Int).toNat)).toList) (by
  rw [hzl]
  show _ + (((es.length : Nat) : Int).toNat - ((i + (es.length - j) : Nat) : Int).toNat) * intL.sz ≤ _
  omega)
 exact ⟨some ⟨g, 0, none⟩, c, _, by rw [hlen]; rfl, Row.own hr, H⟩

end Go.Proofs.Ytemnchkebhclpaa
end

section
namespace Go.Proofs.Ytemnchkebhclpaa
open Go Go.Eng Go.RowKit
set_option linter.unusedSimpArgs false
theorem shrU_r {P : Program} {ρ : Env} {w : World} {t : TypeId} {p : String} {af : Array Edge} {g : Option (Nat × Bool)} {dst : Option Nat} {x y : Operand} {ty ty' : TypeId} {a b : Nat} {k : IntKind} (hx : ev ρ x = .int .u64 a) (hy : ev ρ y = .int k b) (hb : b ≤ 64) : (execOp (ev ρ) (Og dst (.binOp .shr ty x y ty') t p af g)).run P w = .ok (.value (.int .u64 (a / 2 ^ b : Nat))) w := by
 have e : (a : Int).fdiv (2 ^ b) = ((a / 2 ^ b : Nat) : Int) := by
  rw [Int.fdiv_eq_ediv_of_nonneg _ (Int.le_of_lt (Int.pow_pos (by decide)))]
  simp
 simp only [execOp, hx, hy, eqGuard, binOp, Op.shift, Sem.run_bind, Sem.run_pure]
 simp [e, Nat.min_eq_left (show b ≤ IntKind.u64.bits from hb)]
 intro h; omega
theorem wrapU {n : Nat} (h : n ≤ 9000000000000000000) : IntKind.u64.wrap (n : Int) = n := by
 simp only [IntKind.wrap, IntKind.bits, IntKind.signed]
 simp
 omega
theorem rises {es : List Int} (h : es.Pairwise (· < ·)) {i j : Nat} {a b : Int} (hi : es[i]? = some a) (hj : es[j]? = some b) (hij : i ≤ j) : a ≤ b := by
 obtain ⟨h1, rfl⟩ := List.getElem?_eq_some_iff.1 hi
 obtain ⟨h2, rfl⟩ := List.getElem?_eq_some_iff.1 hj
 rcases Nat.lt_or_ge i j with h3 | h3
 ·
  exact Int.le_of_lt (List.pairwise_iff_getElem.1 h i j h1 h2 h3)
 ·
  have : i = j := by omega
  subst this
  exact Int.le_refl _
set_option maxHeartbeats 4000000 in
set_option maxRecDepth 10000 in
theorem sisNaN_int_ok (n : Int) (w : World) : Ret Try.prog i_slices_isNaN_int [.int .i64 n] w fun v w2 => v = .bool false ∧ Below w.heap.size w w2 := by
 refine ret_of fn_slices_isNaN_int rfl rfl ?_
 have H := Hp.start w
 refine Zs<|Zr<|Zl (Wb rfl)<|Zn<|Zs<|Zr<|Zl (Yi rfl)<|Zl (Yi rfl)<|Zl (neqF_r rfl rfl rfl)<|Zl (Wb rfl)<|Zn<|Zt ?_
 exact fin1 (v := .bool false) rfl rfl ⟨rfl, H.below⟩
set_option maxHeartbeats 4000000 in
set_option maxRecDepth 10000 in
theorem bsearch_ok (es : List Int) (t : Int) (A : Option Addr) (c : Nat) (w : World) (hr : Rd intL 0 w.heap.size A es w) (hb : es.length ≤ 1000000) (hp : es.Pairwise (· < ·)) :
  Ret Try.prog i_slices_BinarySearch_Lint_int [.slice A es.length c, .int .i64 t] w fun v w2 => ∃ i : Nat, v = .tuple #[.int .i64 (i : Nat), .bool (decide (es[i]? = some t))] ∧ i ≤ es.length ∧ (∀ k y, es[k]? = some y → k < i → y < t) ∧ (∀ k y, es[k]? = some y → i ≤ k → t ≤ y) ∧ Below w.heap.size w w2 := by
 refine ret_of fn_slices_BinarySearch_Lint_int rfl rfl ?_
 have H := Hp.startRd hr
 show CW _ _ _ _ (args [.slice A es.length c, .int .i64 t]) w
 refine Zs<|Zr<|Zl (Wi rfl)<|Zl (Wb rfl)<|Zn<|Zs<|Zr<|Zl (Ys rfl)<|Zl (lenS_r len_Lint rfl)<|Zl (Wi rfl)<|Zn<|Zs<|Zr<|Zl (Yi rfl) ?_
 refine Zl (Wi rfl)<|Zl (Wi rfl)<|Zn<|Zs<|Zb ?_
 refine cw_loop (τ := Nat × Nat) [7, 8, 9, 13, 14, 15, 16, 17, 18, 19, 20, 21, 22, 23, 24, 25, 26, 27, 28, 29, 30] (fun (l, r) => [(7, .int .i64 (l : Nat)), (8, .int .i64 (r : Nat))]) (fun (l, r) w' => l ≤ r ∧ r ≤ es.length ∧ (∀ k y, es[k]? = some y → k < l → y < t) ∧ (∀ k y, es[k]? = some y → r ≤ k → t ≤ y) ∧ Hp w w' [] [FRd intL 0 w.heap.size A es]) (fun (l, r) => r - l) (0, es.length) ⟨by omega, by omega, by intro k y _ h; omega, by intro k y h1 h2; have := (getE h1).1; omega, H⟩ (sl2 rfl rfl) ?_
 rintro ⟨l, r⟩ ρ1 w1 ⟨hlr, hrn, hlo, hhi, H⟩
 show CW _ _ _ _ (updL (ovr _ _ ρ1) [(7, .int .i64 (l : Nat)), (8, .int .i64 (r : Nat))]) w1
 refine Zs<|Zs<|Zr<|Zl (Yi rfl)<|Zl (Yi rfl) ?_
 refine lwD (lss_r rfl rfl) rfl rfl rfl (fun h15 => ?_) (fun h15 => ?_)
 ·
  refine Zn<|ZT rfl<|Zk<|Zb<|Zs<|Zr<|Zl (Yi rfl)<|Zl (Yi rfl)<|Zl (add_r rfl rfl (by omega) (by omega)) ?_
  rw [show ((l : Nat) : Int) + ((r : Nat) : Int) = ((l + r : Nat) : Int) by omega]
  refine Zl (cvI_r int_int int_uint rfl (wrapU (by omega)))<|Zl (shrU_r rfl (b := 1) rfl (by omega)) ?_
  obtain ⟨m, hm, hm1, hm2⟩ : ∃ m : Nat, (l + r) / 2 ^ 1 = m ∧ l ≤ m ∧ m < r := ⟨(l + r) / 2, rfl, by omega, by omega⟩
  rw [hm]
  refine Zl (cvI_r int_uint int_int rfl (wrapN (by omega)))<|Zl (Wi rfl)<|Zn<|Zs<|Zr<|Zl (Ys rfl)<|Zl (Yi rfl)<|ixF H 0 rfl sl_Lint rfl rfl (by omega) (by omega) rfl fun b2 o2 x2 e2 =>Zl (ld_r one_int rfl (e2.cl 0 _ rfl))<|Zl (Yi rfl)<|cal cb_cmp_Less_int (less_int_ok x2 t _) rfl rfl ?_
  rintro _ w3 ⟨rfl, hb⟩; replace H := H.later hb; clear hb
  refine Zn ?_
  refine cw_if rfl (fun hc27 => ?_) (fun hc27 => ?_)
  ·
   refine Zr<|Zl (Yi rfl)<|Zl (add_r rfl rfl (by omega) (by omega))<|Zl (Wi rfl)<|Zn ?_
   refine ⟨(m + 1, r), ⟨by omega, hrn, fun k y h1 h2 => Int.lt_of_le_of_lt (rises hp h1 e2.at_ (by omega)) (of_decide_eq_true hc27), hhi, H⟩, sl2 rfl rfl, by repeat (first | exact Agr.refl _ _ | exact agr_ovr | refine agr_upd rfl ?_ | refine agr_updL _ rfl ?_ | refine agr_ovr2 rfl ?_), by show r - (m + 1) < r - l; omega⟩
  ·
   refine Zr<|Zl (Yi rfl)<|Zl (Wi rfl)<|Zn ?_
   refine ⟨(l, m), ⟨hm1, by omega, hlo, fun k y h1 h2 => by have h3 := rises hp e2.at_ h1 h2; have h4 := of_decide_eq_false hc27; omega, H⟩, sl2 rfl rfl, by repeat (first | exact Agr.refl _ _ | exact agr_ovr | refine agr_upd rfl ?_ | refine agr_updL _ rfl ?_ | refine agr_ovr2 rfl ?_), by show m - l < r - l; omega⟩
 ·
  refine Zn<|ZF rfl<|Zx<|Zs<|Zr<|Zl (Yi rfl)<|Zl (Yi rfl)<|Zl (Yi rfl) ?_
  refine lwD (lss_r rfl rfl) rfl rfl rfl (fun h34 => ?_) (fun h34 => ?_)
  ·
   refine Zl (Yb rfl)<|ZG<|Zl (Ys rfl)<|ZG<|Zl (Yi rfl)<|ZG<|ixF H 0 rfl sl_Lint rfl rfl (by omega) (by omega) rfl fun b4 o4 x4 e4 =>ZG<|Zl (ld_r one_int rfl (e4.cl 0 _ rfl))<|ZG<|Zl (Yi rfl)<|ZG ?_
   refine lwD (eql_r rfl rfl) rfl rfl rfl (fun h41 => ?_) (fun h41 => ?_)
   ·
    refine ZG<|Zl (Yb rfl)<|ZN<|ZN<|ZN<|ZN<|ZN<|ZN<|ZN<|ZN<|ZN<|ZG<|Zl (Kt rfl rfl)<|Zl (Kt rfl rfl) ?_
    refine Zl (Wi rfl)<|Zl (Wb rfl)<|Zn<|Zt ?_
    have hd : decide (es[l]? = some t) = true := by rw [e4.at_, h41]; exact decide_eq_true rfl
    exact fin2 rfl rfl rfl ⟨l, by rw [hd]; rfl, by omega, hlo, by intro k y h1 h2; exact hhi k y h1 (by omega), H.below⟩
   ·
    refine ZG<|Zl (Yb rfl)<|ZG<|Zl (Ys rfl)<|ZG<|Zl (Yi rfl)<|ZG<|ixF H 0 rfl sl_Lint rfl rfl (by omega) (by omega) rfl fun b5 o5 x5 e5 =>ZG<|Zl (ld_r one_int rfl (e5.cl 0 _ rfl))<|ZG<|cal cb_slices_isNaN_int (sisNaN_int_ok _ _) rfl rfl ?_
    rintro _ w6 ⟨rfl, hb⟩; replace H := H.later hb; clear hb
    refine ZG<|Zl (Yb rfl)<|ZN<|ZN<|ZG<|Zl (Kf rfl rfl)<|ZG<|Zl (Kf rfl rfl)<|Zl (Kt rfl rfl)<|Zl (Wi rfl)<|Zl (Wb rfl)<|Zn<|Zt ?_
    have hd : decide (es[l]? = some t) = false := by rw [e4.at_]; exact decide_eq_false (fun h => h41 (Option.some.inj h))
    exact fin2 rfl rfl rfl ⟨l, by rw [hd]; rfl, by omega, hlo, by intro k y h1 h2; exact hhi k y h1 (by omega), H.below⟩
  ·
   refine Zl (Yb rfl)<|ZN<|ZN<|ZN<|ZN<|ZN<|ZN<|ZN<|ZN<|ZN<|ZN<|ZN<|ZN<|ZN ?_
   refine ZN<|ZN<|ZN<|ZN<|Zl (Kf rfl rfl)<|Zl (Wi rfl)<|Zl (Wb rfl)<|Zn<|Zt ?_
   have hd : decide (es[l]? = some t) = false := by rw [List.getElem?_eq_none (by omega)]; rfl
   exact fin2 rfl rfl rfl ⟨l, by rw [hd]; rfl, by omega, hlo, by intro k y h1 h2; exact hhi k y h1 (by omega), H.below⟩
end Go.Proofs.Ytemnchkebhclpaa
end

section
namespace Go.Proofs.Ytemnchkebhclpaa
open Go Go.Eng Go.RowKit
set_option linter.unusedSimpArgs false
/-- a part more, in its place -/
def addParts (l : List Int) (p : Int) : List Int := if p ∈ l then l else l.filter (fun q => decide (q < p)) ++ [p] ++ l.filter (fun q => decide (p ≤ q))
/-- P5.4 -/
def addTx (ck : Int) (p : Int) (t : Tx) : Tx := if t.state = 1 then { t with state := 2, since := ck, parts := addParts t.parts p } else { t with parts := addParts t.parts p }
theorem cut_of {l : List Int} {p : Int} {i : Nat} (h1 : ∀ k y, l[k]? = some y → k < i → y < p) (h2 : ∀ k y, l[k]? = some y → i ≤ k → p ≤ y) : l.take i = l.filter (fun q => decide (q < p)) ∧ l.drop i = l.filter (fun q => decide (p ≤ q)) := by
 have ha : ∀ y ∈ l.take i, y < p := fun y hy => by
  obtain ⟨k, hk⟩ := List.mem_iff_getElem?.1 hy
  rw [List.getElem?_take] at hk
  split at hk
  ·
   exact h1 k y hk ‹_›
  ·
   cases hk
 have hb : ∀ y ∈ l.drop i, p ≤ y := fun y hy => by
  obtain ⟨k, hk⟩ := List.mem_iff_getElem?.1 hy
  rw [List.getElem?_drop] at hk
  exact h2 _ y hk (by omega)
 have e1 : l.filter (fun q => decide (q < p)) = (l.take i).filter (fun q => decide (q < p)) ++ (l.drop i).filter (fun q => decide (q < p)) := by rw [← List.filter_append, List.take_append_drop]
 have e2 : l.filter (fun q => decide (p ≤ q)) = (l.take i).filter (fun q => decide (p ≤ q)) ++ (l.drop i).filter (fun q => decide (p ≤ q)) := by rw [← List.filter_append, List.take_append_drop]
 rw [e1, e2, List.filter_eq_self.2 (fun y hy => decide_eq_true (ha y hy)), List.filter_eq_nil_iff.2 (fun y hy => by have := hb y hy; simpa using this),
  List.filter_eq_nil_iff.2 (fun y hy => by have := ha y hy; simpa using this), List.filter_eq_self.2 (fun y hy => decide_eq_true (hb y hy))]
 simp
theorem add_new {l : List Int} {p : Int} {i : Nat} (h1 : ∀ k y, l[k]? = some y → k < i → y < p) (h2 : ∀ k y, l[k]? = some y → i ≤ k → p ≤ y) (hp : l.Pairwise (· < ·)) (hn : ¬ l[i]? = some p) : l.take i ++ [p] ++ l.drop i = addParts l p := by
 obtain ⟨e1, e2⟩ := cut_of h1 h2
 have hm : p ∉ l := fun hm => by
  obtain ⟨k, hk⟩ := List.mem_iff_getElem?.1 hm
  by_cases hki : k < i
  ·
   have := h1 k p hk hki; omega
  ·
   have hki : i ≤ k := by omega
   have hl := (getE hk).1
   obtain ⟨x, hx⟩ : ∃ x, l[i]? = some x := ⟨_, List.getElem?_eq_getElem (by omega)⟩
   have h3 := rises hp hx hk hki
   have h4 := h2 i x hx (Nat.le_refl _)
   exact hn (by rw [hx]; congr 1; omega)
 unfold addParts
 rw [if_neg hm, e1, e2]
theorem add_there {l : List Int} {p : Int} {i : Nat} (h : l[i]? = some p) : addParts l p = l := if_pos (List.mem_of_getElem? h)
theorem partsOk_rise : ∀ {l : List Int} {a : Int}, partsOk a l = true → l.Pairwise (· < ·) ∧ (∀ p ∈ l, a < p ∧ p < 4)
 | [], _, _ => ⟨List.Pairwise.nil, by intro p hp; cases hp⟩
 | x :: l, a, h => by
  unfold partsOk at h
  simp only [Bool.and_eq_true, decide_eq_true_eq] at h
  obtain ⟨h1, h2⟩ := partsOk_rise h.2
  refine ⟨List.pairwise_cons.2 ⟨fun y hy => (h2 y hy).1, h1⟩, fun p hp => ?_⟩
  rcases List.mem_cons.1 hp with rfl | hp
  ·
   exact h.1
  ·
   have := h2 p hp; omega
theorem rise_few : ∀ {l : List Int} {a : Int}, partsOk a l = true → (l.length : Int) ≤ max 0 (3 - a)
 | [], _, _ => by simp; omega
 | x :: l, a, h => by
  unfold partsOk at h
  simp only [Bool.and_eq_true, decide_eq_true_eq] at h
  have := rise_few h.2
  simp only [List.length_cons]
  omega
theorem hp_in {w0 w : World} {F : List Fact} (X A B C : List (Nat × Obj)) (H : Hp w0 w (X ++ ((A ++ B ++ C) ++ [])) F) : Hp w0 w ((X ++ A) ++ B ++ C) F := by simpa using H
theorem hp_out {w0 w : World} {F : List Fact} (X A B C : List (Nat × Obj)) (H : Hp w0 w ((X ++ A) ++ B ++ C) F) : Hp w0 w (X ++ ((A ++ B ++ C) ++ [])) F := by simpa using H
theorem add_a {ck p : Int} {t t' : Tx} (h : t'.a = t.a) : (addTx ck p t').a = (addTx ck p t).a := by
 have e : ∀ t : Tx, (addTx ck p t).a = addTx ck p t.a := fun t => by
  unfold addTx
  by_cases h : t.state = 1
  ·
   rw [if_pos h, if_pos (show t.a.state = 1 from h)]; rfl
  ·
   rw [if_neg h, if_neg (show ¬ t.a.state = 1 from h)]; rfl
 rw [e, e, h]
theorem caps_set2 {ts : List Tx} (h : ∀ t ∈ ts, t.parts.length ≤ t.cap) (i : Nat) {t' : Tx} (h2 : t'.parts.length ≤ t'.cap) : ∀ x ∈ ts.set i t', x.parts.length ≤ x.cap := fun x hx => by
 rcases List.mem_or_eq_of_mem_set hx with hx | rfl
 ·
  exact h x hx
 ·
  exact h2
set_option maxHeartbeats 4000000 in
set_option maxRecDepth 10000 in
theorem add_none (c : Co) (s : ByteArray) (ver p : Int) (w : World) (h : c.rd 0 w.heap.size w) (hok : coOk c = true) (hn : nameOk s = true) (hi : nameIdx c s = -1) : Ret Try.prog i_coord_Add [c.v, .string s, .int .i64 ver, .int .i64 p] w fun v w2 => v = .tuple #[.agg #[.int .i64 0, .int .i64 0, .int .i64 0, .slice none 0 0], .int .i64 5] ∧ Below w.heap.size w w2 := by
 refine ret_of fn_coord_Add rfl rfl ?_
 have hcap := h.cap
 have hfew := h.few
 have hfp := h.fewP
 have H := Hp.startCo h
 obtain ⟨ck, nx, wt, txs, cA, cc⟩ := c
 dsimp only at hcap hfew hfp H
 show CW _ _ _ _ (args [.agg #[.int .i64 ck, .int .i64 nx, .int .i64 wt, .slice cA txs.length cc], .string s, .int .i64 ver, .int .i64 p]) w
 refine Zs<|Zr<|bxA H rfl rfl fun w1 b4 H =>alo H z_Coord rfl fun w2 b8 H =>Zl (Wi rfl)<|Zn<|Zs<|Zr<|Zl (Zw agg_Coord H 1 rfl rfl rfl)<|Zl (Yt rfl)<|Zl (Yi rfl)<|cal cb_coord_known (known_none ⟨ck, nx, wt, txs, cA, cc⟩ s ver _ ⟨H.rd0 0 rfl, fun t ht => parts0 H 1 rfl ht, hcap, hfew, hfp⟩ hok hn hi) rfl rfl ?_
 rintro _ w3 ⟨rfl, hb⟩; replace H := H.later hb; clear hb
 refine Zl (Yu rfl)<|Zl (Xa rfl rfl)<|Zl (Xi rfl rfl)<|Zl (Xi rfl rfl)<|stN H 1 (#[.int .i64 (0), .int .i64 (0), .int .i64 (0), .slice none 0 0]) siz_Coord rfl rfl rfl rfl rfl (by kernel_rfl) (by kernel_rfl) fun w4 H =>Zl (Wi rfl)<|Zl (Wi rfl)<|Zn<|Zs<|Zs<|Zr<|Zl (Yi rfl)<|Zl (neqT_r rfl rfl (by decide))<|Zn ?_
 refine ZT rfl<|Zs<|Zr<|Zl (bld_r (cs := #[.int .i64 (0), .int .i64 (0), .int .i64 (0), .slice none 0 0]) st_Coord z_Coord (by kernel_rfl))<|Zl (Yi rfl)<|stN H 0 (#[.int .i64 (0), .int .i64 (0), .int .i64 (0), .slice none 0 0]) siz_Coord rfl rfl rfl rfl rfl (by kernel_rfl) (by kernel_rfl) fun w5 H =>Zl (Wi rfl)<|Zn<|Zt ?_
 exact finCTn (cs0 := #[.int .i64 0, .int .i64 0, .int .i64 0, .slice none 0 0]) (v1 := .int .i64 5) rfl agg_Coord rfl (H.ent (i := 0) rfl) rfl rfl ⟨rfl, H.below⟩
set_option maxHeartbeats 4000000 in
set_option maxRecDepth 10000 in
theorem add_fence (c : Co) (s : ByteArray) (ver p : Int) (i : Nat) (t : Tx) (w : World) (h : c.rd 0 w.heap.size w) (hok : coOk c = true) (hn : nameOk s = true) (hi : nameIdx c s = i) (ht : c.txs[i]? = some t) (hv : t.ver ≠ ver) : Ret Try.prog i_coord_Add [c.v, .string s, .int .i64 ver, .int .i64 p] w fun v w2 => v = .tuple #[.agg #[.int .i64 0, .int .i64 0, .int .i64 0, .slice none 0 0], .int .i64 10] ∧ Below w.heap.size w w2 := by
 refine ret_of fn_coord_Add rfl rfl ?_
 have hcap := h.cap
 have hfew := h.few
 have hfp := h.fewP
 have H := Hp.startCo h
 obtain ⟨ck, nx, wt, txs, cA, cc⟩ := c
 dsimp only at hcap hfew hfp H
 show CW _ _ _ _ (args [.agg #[.int .i64 ck, .int .i64 nx, .int .i64 wt, .slice cA txs.length cc], .string s, .int .i64 ver, .int .i64 p]) w
 dsimp only at ht
 refine Zs<|Zr<|bxA H rfl rfl fun w1 b4 H =>alo H z_Coord rfl fun w2 b8 H =>Zl (Wi rfl)<|Zn<|Zs<|Zr<|Zl (Zw agg_Coord H 1 rfl rfl rfl)<|Zl (Yt rfl)<|Zl (Yi rfl)<|cal cb_coord_known (known_fence ⟨ck, nx, wt, txs, cA, cc⟩ s ver i t _ ⟨H.rd0 0 rfl, fun t ht => parts0 H 1 rfl ht, hcap, hfew, hfp⟩ hok hn hi ht hv) rfl rfl ?_
 rintro _ w3 ⟨rfl, hb⟩; replace H := H.later hb; clear hb
 refine Zl (Yu rfl)<|Zl (Xa rfl rfl)<|Zl (Xi rfl rfl)<|Zl (Xi rfl rfl)<|stN H 1 (#[.int .i64 (0), .int .i64 (0), .int .i64 (0), .slice none 0 0]) siz_Coord rfl rfl rfl rfl rfl (by kernel_rfl) (by kernel_rfl) fun w4 H =>Zl (Wi rfl)<|Zl (Wi rfl)<|Zn<|Zs<|Zs<|Zr<|Zl (Yi rfl)<|Zl (neqT_r rfl rfl (by decide))<|Zn ?_
 refine ZT rfl<|Zs<|Zr<|Zl (bld_r (cs := #[.int .i64 (0), .int .i64 (0), .int .i64 (0), .slice none 0 0]) st_Coord z_Coord (by kernel_rfl))<|Zl (Yi rfl)<|stN H 0 (#[.int .i64 (0), .int .i64 (0), .int .i64 (0), .slice none 0 0]) siz_Coord rfl rfl rfl rfl rfl (by kernel_rfl) (by kernel_rfl) fun w5 H =>Zl (Wi rfl)<|Zn<|Zt ?_
 exact finCTn (cs0 := #[.int .i64 0, .int .i64 0, .int .i64 0, .slice none 0 0]) (v1 := .int .i64 10) rfl agg_Coord rfl (H.ent (i := 0) rfl) rfl rfl ⟨rfl, H.below⟩
set_option maxHeartbeats 4000000 in
set_option maxRecDepth 10000 in
theorem add_state (c : Co) (s : ByteArray) (ver p : Int) (i : Nat) (t : Tx) (w : World) (h : c.rd 0 w.heap.size w) (hok : coOk c = true) (hn : nameOk s = true) (hi : nameIdx c s = i) (ht : c.txs[i]? = some t) (hv : t.ver = ver) (hp0 : 0 ≤ p) (hp3 : p < 4) (h1 : t.state ≠ 1) (h2 : t.state ≠ 2) : Ret Try.prog i_coord_Add [c.v, .string s, .int .i64 ver, .int .i64 p] w fun v w2 => v = .tuple #[.agg #[.int .i64 0, .int .i64 0, .int .i64 0, .slice none 0 0], .int .i64 12] ∧ Below w.heap.size w w2 := by
 refine ret_of fn_coord_Add rfl rfl ?_
 have hcap := h.cap
 have hfew := h.few
 have hfp := h.fewP
 have H := Hp.startCo h
 obtain ⟨ck, nx, wt, txs, cA, cc⟩ := c
 dsimp only at hcap hfew hfp H
 show CW _ _ _ _ (args [.agg #[.int .i64 ck, .int .i64 nx, .int .i64 wt, .slice cA txs.length cc], .string s, .int .i64 ver, .int .i64 p]) w
 dsimp only at ht
 refine Zs<|Zr<|bxA H rfl rfl fun w1 b4 H =>alo H z_Coord rfl fun w2 b8 H =>Zl (Wi rfl)<|Zn<|Zs<|Zr<|Zl (Zw agg_Coord H 1 rfl rfl rfl)<|Zl (Yt rfl)<|Zl (Yi rfl)<|cal cb_coord_known (known_ok ⟨ck, nx, wt, txs, cA, cc⟩ s ver i t _ ⟨H.rd0 0 rfl, fun t ht => parts0 H 1 rfl ht, hcap, hfew, hfp⟩ hok hn hi ht hv) rfl rfl ?_
 rintro _ w3 ⟨⟨ck2, nx2, wt2, tx2, A2, c2⟩, Lr, Lp, rfl, ha2, ho2, hp2, hoc2, hpc2, hj2⟩
 replace H := H.joinR hj2; clear hj2
 simp only [Co.a, Co.mk.injEq] at ha2
 obtain ⟨e1, e2, e3, hma, -, -⟩ := ha2
 obtain rfl : ck = ck2 := e1.symm
 obtain rfl : nx = nx2 := e2.symm
 obtain rfl : wt = wt2 := e3.symm
 dsimp only at ho2 hp2 hoc2 hpc2 H
 obtain ⟨t2, ht2, hta⟩ := map_at hma ht
 have hl2 := (getE ht2).1
 obtain ⟨g, cur, rfl, rfl, row⟩ := ho2.row (by omega)
 have hst : t2.state = t.state := by show t2.a.state = t.a.state; rw [hta]
 have hdn : t2.done = t.done := by show t2.a.done = t.a.done; rw [hta]
 have hpt : t2.parts = t.parts := by show t2.a.parts = t.a.parts; rw [hta]
 refine Zl (Yu rfl)<|Zl (Xa rfl rfl)<|Zl (Xi rfl rfl)<|Zl (Xi rfl rfl)<|stN H 1 (#[.int .i64 (ck), .int .i64 (nx), .int .i64 (wt), .slice (some ⟨g, 0, none⟩) tx2.length c2]) siz_Coord rfl rfl rfl rfl rfl (by kernel_rfl) (by kernel_rfl) fun w4 H =>Zl (Wi rfl)<|Zl (Wi rfl)<|Zn<|Zs<|Zs<|Zr<|Zl (Yi rfl)<|Zl (neqF_r rfl rfl rfl)<|Zn ?_
 refine ZF rfl<|Zk<|Zs<|Zs<|Zr<|Zl (Yi rfl)<|Zl (lssF_r rfl rfl (by omega))<|Zl (Yb rfl)<|ZG<|Zl (Yi rfl)<|ZG<|Zl (geqF_r rfl rfl (by omega))<|Zl (Kf rfl rfl)<|Zn ?_
 refine ZF rfl<|Zk<|Zs<|Zr<|Zl (Zf fd_Coord_3 rfl)<|Zl (Zd one_LTxn H 1 rfl rfl rfl)<|Zl (Yi rfl)<|Zl (ixR_r sl_LTxn rfl rfl (by first | omega | (simp only [List.length_set]; omega)))<|Zl (Wp rfl)<|Zn<|Zs<|Zs<|Zr<|Zl (Yp rfl) ?_
 refine Zl (nck_r rfl)<|Zl (Zf fd_Txn_3 rfl)<|Zl (ldR_r one_int row ht2 3 rfl (H.ent (i := 2) rfl) rfl)<|Zn<|Zb<|Zs<|Zr<|Zl (eqlF_r rfl rfl (by omega))<|Zl (Wb rfl)<|Zn<|ZF rfl<|Zs<|Zr<|Zl (eqlF_r rfl rfl (by omega)) ?_
 refine Zl (Wb rfl)<|Zn<|ZF rfl<|Zs<|Zr<|Zl (bld_r (cs := #[.int .i64 (0), .int .i64 (0), .int .i64 (0), .slice none 0 0]) st_Coord z_Coord (by kernel_rfl))<|stN H 0 (#[.int .i64 (0), .int .i64 (0), .int .i64 (0), .slice none 0 0]) siz_Coord rfl rfl rfl rfl rfl (by kernel_rfl) (by kernel_rfl) fun w5 H =>Zl (Wi rfl)<|Zn<|Zt ?_
 exact finCTn (cs0 := #[.int .i64 0, .int .i64 0, .int .i64 0, .slice none 0 0]) (v1 := .int .i64 12) rfl agg_Coord rfl (H.ent (i := 0) rfl) rfl rfl ⟨rfl, H.below⟩
set_option maxHeartbeats 4000000 in
set_option maxRecDepth 10000 in
theorem add_ok (c : Co) (s : ByteArray) (ver p : Int) (i : Nat) (t : Tx) (w : World) (h : c.rd 0 w.heap.size w) (hok : coOk c = true) (hn : nameOk s = true) (hi : nameIdx c s = i) (ht : c.txs[i]? = some t) (hv : t.ver = ver) (hp0 : 0 ≤ p) (hp3 : p < 4) (h12 : t.state = 1 ∨ t.state = 2) (hpo : partsOk (-1) t.parts = true) : Ret Try.prog i_coord_Add [c.v, .string s, .int .i64 ver, .int .i64 p] w fun v w2 => ∃ (c' : Co) (Lr Lp : List (Nat × Obj)), v = .tuple #[c'.v, .int .i64 0] ∧ OwnCo w w2 (Co.a { c with txs := c.txs.set i (addTx c.clock p t) }) c' Lr Lp := by
 refine ret_of fn_coord_Add rfl rfl ?_
 have hcap := h.cap
 have hfew := h.few
 have hfp := h.fewP
 have H := Hp.startCo h
 obtain ⟨ck, nx, wt, txs, cA, cc⟩ := c
 dsimp only at hcap hfew hfp H
 show CW _ _ _ _ (args [.agg #[.int .i64 ck, .int .i64 nx, .int .i64 wt, .slice cA txs.length cc], .string s, .int .i64 ver, .int .i64 p]) w
 dsimp only at ht ⊢
 refine Zs<|Zr<|bxA H rfl rfl fun w1 b4 H =>alo H z_Coord rfl fun w2 b8 H =>Zl (Wi rfl)<|Zn<|Zs<|Zr<|Zl (Zw agg_Coord H 1 rfl rfl rfl)<|Zl (Yt rfl)<|Zl (Yi rfl)<|cal cb_coord_known (known_ok ⟨ck, nx, wt, txs, cA, cc⟩ s ver i t _ ⟨H.rd0 0 rfl, fun t ht => parts0 H 1 rfl ht, hcap, hfew, hfp⟩ hok hn hi ht hv) rfl rfl ?_
 rintro _ w3 ⟨⟨ck2, nx2, wt2, tx2, A2, c2⟩, Lr, Lp, rfl, ha2, ho2, hp2, hoc2, hpc2, hj2⟩
 replace H := H.joinR hj2; clear hj2
 simp only [Co.a, Co.mk.injEq] at ha2
 obtain ⟨e1, e2, e3, hma, -, -⟩ := ha2
 obtain rfl : ck = ck2 := e1.symm
 obtain rfl : nx = nx2 := e2.symm
 obtain rfl : wt = wt2 := e3.symm
 dsimp only at ho2 hp2 hoc2 hpc2 H
 obtain ⟨t2, ht2, hta⟩ := map_at hma ht
 have hl2 := (getE ht2).1
 obtain ⟨g, cur, rfl, rfl, row⟩ := ho2.row (by omega)
 have hst : t2.state = t.state := by show t2.a.state = t.a.state; rw [hta]
 have hdn : t2.done = t.done := by show t2.a.done = t.a.done; rw [hta]
 have hpt : t2.parts = t.parts := by show t2.a.parts = t.a.parts; rw [hta]
 refine Zl (Yu rfl)<|Zl (Xa rfl rfl)<|Zl (Xi rfl rfl)<|Zl (Xi rfl rfl)<|stN H 1 (#[.int .i64 (ck), .int .i64 (nx), .int .i64 (wt), .slice (some ⟨g, 0, none⟩) tx2.length c2]) siz_Coord rfl rfl rfl rfl rfl (by kernel_rfl) (by kernel_rfl) fun w4 H =>Zl (Wi rfl)<|Zl (Wi rfl)<|Zn<|Zs<|Zs<|Zr<|Zl (Yi rfl)<|Zl (neqF_r rfl rfl rfl)<|Zn ?_
 refine ZF rfl<|Zk<|Zs<|Zs<|Zr<|Zl (Yi rfl)<|Zl (lssF_r rfl rfl (by omega))<|Zl (Yb rfl)<|ZG<|Zl (Yi rfl)<|ZG<|Zl (geqF_r rfl rfl (by omega))<|Zl (Kf rfl rfl)<|Zn ?_
 refine ZF rfl<|Zk<|Zs<|Zr<|Zl (Zf fd_Coord_3 rfl)<|Zl (Zd one_LTxn H 1 rfl rfl rfl)<|Zl (Yi rfl)<|Zl (ixR_r sl_LTxn rfl rfl (by first | omega | (simp only [List.length_set]; omega)))<|Zl (Wp rfl)<|Zn<|Zs<|Zs<|Zr<|Zl (Yp rfl) ?_
 refine Zl (nck_r rfl)<|Zl (Zf fd_Txn_3 rfl)<|Zl (ldR_r one_int row ht2 3 rfl (H.ent (i := 2) rfl) rfl)<|Zn<|Zb<|Zs<|Zr ?_
 refine lwD (eql_r rfl rfl) rfl rfl rfl (fun h44 => ?_) (fun h44 => ?_)
 ·
  refine Zl (Wb rfl)<|Zn<|ZT rfl ?_
   
  refine cw_tree mixed [0, 1, 2, 4, 5] [3, 6, 7, 8, 9] [0, 1, 2, 4, 5] 5 (by kernel_rfl) (by kernel_rfl) (by kernel_rfl) (fun _ _ _ h => h) ?_
  refine aw rfl rfl rfl rfl rfl (fun w' hw' => Yp rfl)<|aw rfl rfl rfl rfl rfl (fun w' hw' => Yp rfl)<|aw rfl rfl rfl rfl rfl (fun w' hw' => Zf fd_Coord_0 rfl)<|aw rfl rfl rfl rfl rfl (fun w' hw' => nck_r rfl)<|aw rfl rfl rfl rfl rfl (fun w' hw' => Zf fd_Txn_3 rfl)<|aw_nil ?_
  intro w5 hw'; replace H := H.later hw'; clear hw'
  refine xw2 3 6 (by kernel_rfl) rfl rfl ?_ ?_ 
  ·
   refine Zl (Zd one_int H 1 rfl rfl rfl)<|Zn<|xw1 6 (by kernel_rfl) rfl<|stR H 2 ({ t2 with state := 2 }) siz_int row ht2 3 rfl rfl rfl rfl rfl rfl (by kernel_rfl) fun w7 cur6 row6 H => ?_
   have hs8 : (tx2.set i ({ t2 with state := 2 }))[i]? = some ({ t2 with state := 2 }) := List.getElem?_set_self (getE ht2).1
   refine Zn<|xw1 7 (by kernel_rfl) rfl<|Zl (nck_r rfl)<|Zn<|xw1 8 (by kernel_rfl) rfl<|Zl (Zf fd_Txn_5 rfl)<|Zn<|xw1 9 (by kernel_rfl) rfl<|stR H 2 ({ ({ t2 with state := 2 }) with since := ck }) siz_int row6 hs8 5 rfl rfl rfl rfl rfl rfl (by kernel_rfl) fun w10 cur9 row9 H => ?_
   have hs11 : ((tx2.set i ({ t2 with state := 2 })).set i ({ ({ t2 with state := 2 }) with since := ck }))[i]? = some ({ ({ t2 with state := 2 }) with since := ck }) := List.getElem?_set_self (getE hs8).1
   refine Zn<|xw_end (by kernel_rfl)<|Zs<|Zs ?_
   have hrise := (partsOk_rise hpo).1
   have hfw := rise_few hpo
   rw [← hpt] at hrise hfw
   obtain ⟨La, Lt, Lb, rfl, hot, hset⟩ := hp2.at_ ht2
   refine Zr<|Zl (Yp rfl)<|Zl (nck_r rfl)<|Zl (Zf fd_Txn_4 rfl)<|Zl (ldR_r one_Lint row9 hs11 4 rfl (H.ent (i := 2) rfl) rfl)<|Zl (Yi rfl)<|cal cb_slices_BinarySearch_Lint_int (bsearch_ok t2.parts p t2.A t2.cap _ ((hot.rd (K := [(b8, .cells #[.int .i64 (0), .int .i64 (0), .int .i64 (0), .slice none 0 0] T_Coord (0, 0)), (b4, .cells #[.int .i64 (ck), .int .i64 (nx), .int .i64 (wt), .slice (some ⟨g, 0, none⟩) tx2.length c2] T_Coord (0, 0)), (g, .cells cur9 T_Txn (0, 0))] ++ La) (M := Lb) (hp_in [(b8, .cells #[.int .i64 (0), .int .i64 (0), .int .i64 (0), .slice none 0 0] T_Coord (0, 0)), (b4, .cells #[.int .i64 (ck), .int .i64 (nx), .int .i64 (wt), .slice (some ⟨g, 0, none⟩) tx2.length c2] T_Coord (0, 0)), (g, .cells cur9 T_Txn (0, 0))] La Lt Lb H)).mono (Nat.zero_le _) (Nat.le_refl _)) (by omega) hrise) rfl rfl ?_
   rintro _ w12 ⟨j, rfl, hjl, hj1, hj2, hb⟩; replace H := H.later hb; clear hb
   refine Zl (Yu rfl)<|Zl (Xi rfl rfl)<|Zl (Xb rfl rfl) ?_
   refine lwCase 63 rfl (fun h63 => ?_) (fun h63 => ?_)
   ·
    refine Zl (Wi rfl)<|Zl (Wb rfl)<|Zn<|Zs<|Zr<|Zl (Yb rfl)<|Zl (not_r rfl)<|Zn<|ZF rfl<|Zk<|Zs<|Zr<|Zl (Zw agg_Coord H 1 rfl rfl rfl)<|stN H 0 (#[.int .i64 (ck), .int .i64 (nx), .int .i64 (wt), .slice (some ⟨g, 0, none⟩) tx2.length c2]) siz_Coord rfl rfl rfl rfl rfl (by kernel_rfl) (by kernel_rfl) fun w13 H => ?_
    refine Zl (Wi rfl)<|Zn<|Zt ?_
    have hpp : addParts t2.parts p = t2.parts := add_there (of_decide_eq_true h63)
    have hX : Tx.a ({ t2 with state := 2, since := ck }) = (addTx ck p t).a := by rw [← add_a hta]; unfold addTx; rw [if_pos (by omega)]; rw [hpp]
    have hrow : Row txL (tx2.set i ({ t2 with state := 2, since := ck })) c2 cur9 := by have hr := row9; simp only [List.set_set] at hr; exact hr
    exact finCTn (cs0 := #[.int .i64 ck, .int .i64 nx, .int .i64 wt, .slice (some ⟨g, 0, none⟩) tx2.length c2]) (v1 := .int .i64 0) rfl agg_Coord rfl (H.ent (i := 0) rfl) rfl rfl ⟨⟨ck, nx, wt, tx2.set i ({ t2 with state := 2, since := ck }), some ⟨g, 0, none⟩, c2⟩, [(g, .cells cur9 T_Txn (0, 0))], (La ++ Lt ++ Lb), by unfold Co.v Co.c; dsimp only; rw [List.length_set], by unfold Co.a; dsimp only; rw [set_a hma i hX], Row.own hrow, hset { t2 with state := 2, since := ck } Lt hot, by dsimp only; rw [List.length_set]; exact hoc2, caps_set2 hpc2 i (by exact hpc2 t2 (List.mem_of_getElem? ht2)), H.forget (.cons _ (.cons _ (List.sublist_append_left _ _))) (by simp)⟩
   ·
    refine Zl (Wi rfl)<|Zl (Wb rfl)<|Zn<|Zs<|Zr<|Zl (Yb rfl)<|Zl (not_r rfl)<|Zn<|ZT rfl<|Zr<|Zl (Yp rfl)<|Zl (Yp rfl)<|Zl (nck_r rfl)<|Zl (Zf fd_Txn_4 rfl) ?_
    refine Zl (ldR_r one_Lint row9 hs11 4 rfl (H.ent (i := 2) rfl) rfl)<|Zl (Yi rfl)<|Zl (Yi rfl)<|bsv (vs := [.int .i64 (p)]) H sl_Lint z_int rfl rfl rfl rfl rfl rfl fun w14 b73 H =>cal cb_slices_Insert_Lint_int (ins_Lint_int (K := [(b8, .cells #[.int .i64 (0), .int .i64 (0), .int .i64 (0), .slice none 0 0] T_Coord (0, 0)), (b4, .cells #[.int .i64 (ck), .int .i64 (nx), .int .i64 (wt), .slice (some ⟨g, 0, none⟩) tx2.length c2] T_Coord (0, 0)), (g, .cells cur9 T_Txn (0, 0))] ++ La) (Lt := Lt) (M := Lb) (hp_in [(b73, .cells #[.int .i64 (p)] T_int (0, 0)), (b8, .cells #[.int .i64 (0), .int .i64 (0), .int .i64 (0), .slice none 0 0] T_Coord (0, 0)), (b4, .cells #[.int .i64 (ck), .int .i64 (nx), .int .i64 (wt), .slice (some ⟨g, 0, none⟩) tx2.length c2] T_Coord (0, 0)), (g, .cells cur9 T_Txn (0, 0))] La Lt Lb H) hot hjl (by omega)) rfl rfl ?_
    rintro _ w15 ⟨A9, c9, L9, rfl, ho9, HI⟩; replace H : Hp w w15 ([(b73, .cells #[.int .i64 (p)] T_int (0, 0)), (b8, .cells #[.int .i64 (0), .int .i64 (0), .int .i64 (0), .slice none 0 0] T_Coord (0, 0)), (b4, .cells #[.int .i64 (ck), .int .i64 (nx), .int .i64 (wt), .slice (some ⟨g, 0, none⟩) tx2.length c2] T_Coord (0, 0)), (g, .cells cur9 T_Txn (0, 0))] ++ ((La ++ L9 ++ Lb) ++ [])) [FRd txL 0 w.heap.size cA txs, FParts 0 w.heap.size txs] := hp_out [(b73, .cells #[.int .i64 (p)] T_int (0, 0)), (b8, .cells #[.int .i64 (0), .int .i64 (0), .int .i64 (0), .slice none 0 0] T_Coord (0, 0)), (b4, .cells #[.int .i64 (ck), .int .i64 (nx), .int .i64 (wt), .slice (some ⟨g, 0, none⟩) tx2.length c2] T_Coord (0, 0)), (g, .cells cur9 T_Txn (0, 0))] La L9 Lb HI
    have hc9 : (t2.parts.take j ++ [p] ++ t2.parts.drop j).length ≤ c9 := by obtain ⟨_, _, e, h, _⟩ := ho9.form; injection e with _ _ e; rw [e]; exact h
    refine Zl (nck_r rfl)<|Zl (Zf fd_Txn_4 rfl)<|stR H 3 ({ { t2 with state := 2, since := ck } with parts := t2.parts.take j ++ [p] ++ t2.parts.drop j, A := A9, cap := c9 }) siz_Lint row9 hs11 4 rfl rfl rfl rfl rfl rfl (by kernel_rfl) fun w17 cur16 row16 H => ?_
    have hs18 : (((tx2.set i ({ t2 with state := 2 })).set i ({ ({ t2 with state := 2 }) with since := ck })).set i ({ { t2 with state := 2, since := ck } with parts := t2.parts.take j ++ [p] ++ t2.parts.drop j, A := A9, cap := c9 }))[i]? = some ({ { t2 with state := 2, since := ck } with parts := t2.parts.take j ++ [p] ++ t2.parts.drop j, A := A9, cap := c9 }) := List.getElem?_set_self (getE hs11).1
    refine Zn<|Zs<|Zr<|Zl (Zw agg_Coord H 2 rfl rfl rfl)<|stN H 1 (#[.int .i64 (ck), .int .i64 (nx), .int .i64 (wt), .slice (some ⟨g, 0, none⟩) tx2.length c2]) siz_Coord rfl rfl rfl rfl rfl (by kernel_rfl) (by kernel_rfl) fun w19 H =>Zl (Wi rfl)<|Zn<|Zt ?_
    have hpp := add_new hj1 hj2 hrise (of_decide_eq_false h63)
    have hX : Tx.a ({ t2 with state := 2, since := ck, parts := t2.parts.take j ++ [p] ++ t2.parts.drop j, A := A9, cap := c9 }) = (addTx ck p t).a := by rw [← add_a hta]; unfold addTx; rw [if_pos (by omega)]; rw [← hpp]; rfl
    have hrow : Row txL (tx2.set i ({ t2 with state := 2, since := ck, parts := t2.parts.take j ++ [p] ++ t2.parts.drop j, A := A9, cap := c9 })) c2 cur16 := by have hr := row16; simp only [List.set_set] at hr; exact hr
    exact finCTn (cs0 := #[.int .i64 ck, .int .i64 nx, .int .i64 wt, .slice (some ⟨g, 0, none⟩) tx2.length c2]) (v1 := .int .i64 0) rfl agg_Coord rfl (H.ent (i := 1) rfl) rfl rfl ⟨⟨ck, nx, wt, tx2.set i ({ t2 with state := 2, since := ck, parts := t2.parts.take j ++ [p] ++ t2.parts.drop j, A := A9, cap := c9 }), some ⟨g, 0, none⟩, c2⟩, [(g, .cells cur16 T_Txn (0, 0))], (La ++ L9 ++ Lb), by unfold Co.v Co.c; dsimp only; rw [List.length_set], by unfold Co.a; dsimp only; rw [set_a hma i hX], Row.own hrow, hset { t2 with state := 2, since := ck, parts := t2.parts.take j ++ [p] ++ t2.parts.drop j, A := A9, cap := c9 } L9 ho9, by dsimp only; rw [List.length_set]; exact hoc2, caps_set2 hpc2 i (by exact hc9), H.forget (.cons _ (.cons _ (.cons _ (List.sublist_append_left _ _)))) (by simp)⟩
  ·
   refine stR H 2 ({ t2 with state := 2 }) siz_int row ht2 3 rfl rfl rfl rfl rfl rfl (by kernel_rfl) fun w21 cur20 row20 H => ?_
   have hs22 : (tx2.set i ({ t2 with state := 2 }))[i]? = some ({ t2 with state := 2 }) := List.getElem?_set_self (getE ht2).1
   refine Zn<|xw1 3 (by kernel_rfl) rfl<|Zl (Zd one_int H 1 rfl rfl rfl)<|Zn<|xw1 7 (by kernel_rfl) rfl<|Zl (nck_r rfl)<|Zn<|xw1 8 (by kernel_rfl) rfl<|Zl (Zf fd_Txn_5 rfl)<|Zn<|xw1 9 (by kernel_rfl) rfl<|stR H 2 ({ ({ t2 with state := 2 }) with since := ck }) siz_int row20 hs22 5 rfl rfl rfl rfl rfl rfl (by kernel_rfl) fun w24 cur23 row23 H => ?_
   have hs25 : ((tx2.set i ({ t2 with state := 2 })).set i ({ ({ t2 with state := 2 }) with since := ck }))[i]? = some ({ ({ t2 with state := 2 }) with since := ck }) := List.getElem?_set_self (getE hs22).1
   refine Zn<|xw_end (by kernel_rfl)<|Zs<|Zs ?_
   have hrise := (partsOk_rise hpo).1
   have hfw := rise_few hpo
   rw [← hpt] at hrise hfw
   obtain ⟨La, Lt, Lb, rfl, hot, hset⟩ := hp2.at_ ht2
   refine Zr<|Zl (Yp rfl)<|Zl (nck_r rfl)<|Zl (Zf fd_Txn_4 rfl)<|Zl (ldR_r one_Lint row23 hs25 4 rfl (H.ent (i := 2) rfl) rfl)<|Zl (Yi rfl)<|cal cb_slices_BinarySearch_Lint_int (bsearch_ok t2.parts p t2.A t2.cap _ ((hot.rd (K := [(b8, .cells #[.int .i64 (0), .int .i64 (0), .int .i64 (0), .slice none 0 0] T_Coord (0, 0)), (b4, .cells #[.int .i64 (ck), .int .i64 (nx), .int .i64 (wt), .slice (some ⟨g, 0, none⟩) tx2.length c2] T_Coord (0, 0)), (g, .cells cur23 T_Txn (0, 0))] ++ La) (M := Lb) (hp_in [(b8, .cells #[.int .i64 (0), .int .i64 (0), .int .i64 (0), .slice none 0 0] T_Coord (0, 0)), (b4, .cells #[.int .i64 (ck), .int .i64 (nx), .int .i64 (wt), .slice (some ⟨g, 0, none⟩) tx2.length c2] T_Coord (0, 0)), (g, .cells cur23 T_Txn (0, 0))] La Lt Lb H)).mono (Nat.zero_le _) (Nat.le_refl _)) (by omega) hrise) rfl rfl ?_
   rintro _ w26 ⟨j, rfl, hjl, hj1, hj2, hb⟩; replace H := H.later hb; clear hb
   refine Zl (Yu rfl)<|Zl (Xi rfl rfl)<|Zl (Xb rfl rfl) ?_
   refine lwCase 63 rfl (fun h63 => ?_) (fun h63 => ?_)
   ·
    refine Zl (Wi rfl)<|Zl (Wb rfl)<|Zn<|Zs<|Zr<|Zl (Yb rfl)<|Zl (not_r rfl)<|Zn<|ZF rfl<|Zk<|Zs<|Zr<|Zl (Zw agg_Coord H 1 rfl rfl rfl)<|stN H 0 (#[.int .i64 (ck), .int .i64 (nx), .int .i64 (wt), .slice (some ⟨g, 0, none⟩) tx2.length c2]) siz_Coord rfl rfl rfl rfl rfl (by kernel_rfl) (by kernel_rfl) fun w27 H => ?_
    refine Zl (Wi rfl)<|Zn<|Zt ?_
    have hpp : addParts t2.parts p = t2.parts := add_there (of_decide_eq_true h63)
    have hX : Tx.a ({ t2 with state := 2, since := ck }) = (addTx ck p t).a := by rw [← add_a hta]; unfold addTx; rw [if_pos (by omega)]; rw [hpp]
    have hrow : Row txL (tx2.set i ({ t2 with state := 2, since := ck })) c2 cur23 := by have hr := row23; simp only [List.set_set] at hr; exact hr
    exact finCTn (cs0 := #[.int .i64 ck, .int .i64 nx, .int .i64 wt, .slice (some ⟨g, 0, none⟩) tx2.length c2]) (v1 := .int .i64 0) rfl agg_Coord rfl (H.ent (i := 0) rfl) rfl rfl ⟨⟨ck, nx, wt, tx2.set i ({ t2 with state := 2, since := ck }), some ⟨g, 0, none⟩, c2⟩, [(g, .cells cur23 T_Txn (0, 0))], (La ++ Lt ++ Lb), by unfold Co.v Co.c; dsimp only; rw [List.length_set], by unfold Co.a; dsimp only; rw [set_a hma i hX], Row.own hrow, hset { t2 with state := 2, since := ck } Lt hot, by dsimp only; rw [List.length_set]; exact hoc2, caps_set2 hpc2 i (by exact hpc2 t2 (List.mem_of_getElem? ht2)), H.forget (.cons _ (.cons _ (List.sublist_append_left _ _))) (by simp)⟩
   ·
    refine Zl (Wi rfl)<|Zl (Wb rfl)<|Zn<|Zs<|Zr<|Zl (Yb rfl)<|Zl (not_r rfl)<|Zn<|ZT rfl<|Zr<|Zl (Yp rfl)<|Zl (Yp rfl)<|Zl (nck_r rfl)<|Zl (Zf fd_Txn_4 rfl) ?_
    refine Zl (ldR_r one_Lint row23 hs25 4 rfl (H.ent (i := 2) rfl) rfl)<|Zl (Yi rfl)<|Zl (Yi rfl)<|bsv (vs := [.int .i64 (p)]) H sl_Lint z_int rfl rfl rfl rfl rfl rfl fun w28 b73 H =>cal cb_slices_Insert_Lint_int (ins_Lint_int (K := [(b8, .cells #[.int .i64 (0), .int .i64 (0), .int .i64 (0), .slice none 0 0] T_Coord (0, 0)), (b4, .cells #[.int .i64 (ck), .int .i64 (nx), .int .i64 (wt), .slice (some ⟨g, 0, none⟩) tx2.length c2] T_Coord (0, 0)), (g, .cells cur23 T_Txn (0, 0))] ++ La) (Lt := Lt) (M := Lb) (hp_in [(b73, .cells #[.int .i64 (p)] T_int (0, 0)), (b8, .cells #[.int .i64 (0), .int .i64 (0), .int .i64 (0), .slice none 0 0] T_Coord (0, 0)), (b4, .cells #[.int .i64 (ck), .int .i64 (nx), .int .i64 (wt), .slice (some ⟨g, 0, none⟩) tx2.length c2] T_Coord (0, 0)), (g, .cells cur23 T_Txn (0, 0))] La Lt Lb H) hot hjl (by omega)) rfl rfl ?_
    rintro _ w29 ⟨A9, c9, L9, rfl, ho9, HI⟩; replace H : Hp w w29 ([(b73, .cells #[.int .i64 (p)] T_int (0, 0)), (b8, .cells #[.int .i64 (0), .int .i64 (0), .int .i64 (0), .slice none 0 0] T_Coord (0, 0)), (b4, .cells #[.int .i64 (ck), .int .i64 (nx), .int .i64 (wt), .slice (some ⟨g, 0, none⟩) tx2.length c2] T_Coord (0, 0)), (g, .cells cur23 T_Txn (0, 0))] ++ ((La ++ L9 ++ Lb) ++ [])) [FRd txL 0 w.heap.size cA txs, FParts 0 w.heap.size txs] := hp_out [(b73, .cells #[.int .i64 (p)] T_int (0, 0)), (b8, .cells #[.int .i64 (0), .int .i64 (0), .int .i64 (0), .slice none 0 0] T_Coord (0, 0)), (b4, .cells #[.int .i64 (ck), .int .i64 (nx), .int .i64 (wt), .slice (some ⟨g, 0, none⟩) tx2.length c2] T_Coord (0, 0)), (g, .cells cur23 T_Txn (0, 0))] La L9 Lb HI
    have hc9 : (t2.parts.take j ++ [p] ++ t2.parts.drop j).length ≤ c9 := by obtain ⟨_, _, e, h, _⟩ := ho9.form; injection e with _ _ e; rw [e]; exact h
    refine Zl (nck_r rfl)<|Zl (Zf fd_Txn_4 rfl)<|stR H 3 ({ { t2 with state := 2, since := ck } with parts := t2.parts.take j ++ [p] ++ t2.parts.drop j, A := A9, cap := c9 }) siz_Lint row23 hs25 4 rfl rfl rfl rfl rfl rfl (by kernel_rfl) fun w31 cur30 row30 H => ?_
    have hs32 : (((tx2.set i ({ t2 with state := 2 })).set i ({ ({ t2 with state := 2 }) with since := ck })).set i ({ { t2 with state := 2, since := ck } with parts := t2.parts.take j ++ [p] ++ t2.parts.drop j, A := A9, cap := c9 }))[i]? = some ({ { t2 with state := 2, since := ck } with parts := t2.parts.take j ++ [p] ++ t2.parts.drop j, A := A9, cap := c9 }) := List.getElem?_set_self (getE hs25).1
    refine Zn<|Zs<|Zr<|Zl (Zw agg_Coord H 2 rfl rfl rfl)<|stN H 1 (#[.int .i64 (ck), .int .i64 (nx), .int .i64 (wt), .slice (some ⟨g, 0, none⟩) tx2.length c2]) siz_Coord rfl rfl rfl rfl rfl (by kernel_rfl) (by kernel_rfl) fun w33 H =>Zl (Wi rfl)<|Zn<|Zt ?_
    have hpp := add_new hj1 hj2 hrise (of_decide_eq_false h63)
    have hX : Tx.a ({ t2 with state := 2, since := ck, parts := t2.parts.take j ++ [p] ++ t2.parts.drop j, A := A9, cap := c9 }) = (addTx ck p t).a := by rw [← add_a hta]; unfold addTx; rw [if_pos (by omega)]; rw [← hpp]; rfl
    have hrow : Row txL (tx2.set i ({ t2 with state := 2, since := ck, parts := t2.parts.take j ++ [p] ++ t2.parts.drop j, A := A9, cap := c9 })) c2 cur30 := by have hr := row30; simp only [List.set_set] at hr; exact hr
    exact finCTn (cs0 := #[.int .i64 ck, .int .i64 nx, .int .i64 wt, .slice (some ⟨g, 0, none⟩) tx2.length c2]) (v1 := .int .i64 0) rfl agg_Coord rfl (H.ent (i := 1) rfl) rfl rfl ⟨⟨ck, nx, wt, tx2.set i ({ t2 with state := 2, since := ck, parts := t2.parts.take j ++ [p] ++ t2.parts.drop j, A := A9, cap := c9 }), some ⟨g, 0, none⟩, c2⟩, [(g, .cells cur30 T_Txn (0, 0))], (La ++ L9 ++ Lb), by unfold Co.v Co.c; dsimp only; rw [List.length_set], by unfold Co.a; dsimp only; rw [set_a hma i hX], Row.own hrow, hset { t2 with state := 2, since := ck, parts := t2.parts.take j ++ [p] ++ t2.parts.drop j, A := A9, cap := c9 } L9 ho9, by dsimp only; rw [List.length_set]; exact hoc2, caps_set2 hpc2 i (by exact hc9), H.forget (.cons _ (.cons _ (.cons _ (List.sublist_append_left _ _)))) (by simp)⟩
 ·
  refine Zl (Wb rfl)<|Zn<|ZF rfl<|Zs<|Zr<|Zl (eqlT_r rfl rfl (by omega))<|Zl (Wb rfl)<|Zn<|ZT rfl<|Zk<|Zs<|Zs ?_
  have hrise := (partsOk_rise hpo).1
  have hfw := rise_few hpo
  rw [← hpt] at hrise hfw
  obtain ⟨La, Lt, Lb, rfl, hot, hset⟩ := hp2.at_ ht2
  refine Zr<|Zl (Yp rfl)<|Zl (nck_r rfl)<|Zl (Zf fd_Txn_4 rfl)<|Zl (ldR_r one_Lint row ht2 4 rfl (H.ent (i := 2) rfl) rfl)<|Zl (Yi rfl)<|cal cb_slices_BinarySearch_Lint_int (bsearch_ok t2.parts p t2.A t2.cap _ ((hot.rd (K := [(b8, .cells #[.int .i64 (0), .int .i64 (0), .int .i64 (0), .slice none 0 0] T_Coord (0, 0)), (b4, .cells #[.int .i64 (ck), .int .i64 (nx), .int .i64 (wt), .slice (some ⟨g, 0, none⟩) tx2.length c2] T_Coord (0, 0)), (g, .cells cur T_Txn (0, 0))] ++ La) (M := Lb) (hp_in [(b8, .cells #[.int .i64 (0), .int .i64 (0), .int .i64 (0), .slice none 0 0] T_Coord (0, 0)), (b4, .cells #[.int .i64 (ck), .int .i64 (nx), .int .i64 (wt), .slice (some ⟨g, 0, none⟩) tx2.length c2] T_Coord (0, 0)), (g, .cells cur T_Txn (0, 0))] La Lt Lb H)).mono (Nat.zero_le _) (Nat.le_refl _)) (by omega) hrise) rfl rfl ?_
  rintro _ w34 ⟨j, rfl, hjl, hj1, hj2, hb⟩; replace H := H.later hb; clear hb
  refine Zl (Yu rfl)<|Zl (Xi rfl rfl)<|Zl (Xb rfl rfl) ?_
  refine lwCase 63 rfl (fun h63 => ?_) (fun h63 => ?_)
  ·
   refine Zl (Wi rfl)<|Zl (Wb rfl)<|Zn<|Zs<|Zr<|Zl (Yb rfl)<|Zl (not_r rfl)<|Zn<|ZF rfl<|Zk<|Zs<|Zr<|Zl (Zw agg_Coord H 1 rfl rfl rfl)<|stN H 0 (#[.int .i64 (ck), .int .i64 (nx), .int .i64 (wt), .slice (some ⟨g, 0, none⟩) tx2.length c2]) siz_Coord rfl rfl rfl rfl rfl (by kernel_rfl) (by kernel_rfl) fun w35 H => ?_
   refine Zl (Wi rfl)<|Zn<|Zt ?_
   have hpp : addParts t2.parts p = t2.parts := add_there (of_decide_eq_true h63)
   have hX : Tx.a (t2) = (addTx ck p t).a := by rw [← add_a hta]; unfold addTx; rw [if_neg (by omega)]; rw [hpp]
   have hrow : Row txL (tx2.set i (t2)) c2 cur := by rw [set_same ht2]; exact row
   exact finCTn (cs0 := #[.int .i64 ck, .int .i64 nx, .int .i64 wt, .slice (some ⟨g, 0, none⟩) tx2.length c2]) (v1 := .int .i64 0) rfl agg_Coord rfl (H.ent (i := 0) rfl) rfl rfl ⟨⟨ck, nx, wt, tx2.set i (t2), some ⟨g, 0, none⟩, c2⟩, [(g, .cells cur T_Txn (0, 0))], (La ++ Lt ++ Lb), by unfold Co.v Co.c; dsimp only; rw [List.length_set], by unfold Co.a; dsimp only; rw [set_a hma i hX], Row.own hrow, hset t2 Lt hot, by dsimp only; rw [List.length_set]; exact hoc2, caps_set2 hpc2 i (by exact hpc2 t2 (List.mem_of_getElem? ht2)), H.forget (.cons _ (.cons _ (List.sublist_append_left _ _))) (by simp)⟩
  ·
   refine Zl (Wi rfl)<|Zl (Wb rfl)<|Zn<|Zs<|Zr<|Zl (Yb rfl)<|Zl (not_r rfl)<|Zn<|ZT rfl<|Zr<|Zl (Yp rfl)<|Zl (Yp rfl)<|Zl (nck_r rfl)<|Zl (Zf fd_Txn_4 rfl) ?_
   refine Zl (ldR_r one_Lint row ht2 4 rfl (H.ent (i := 2) rfl) rfl)<|Zl (Yi rfl)<|Zl (Yi rfl)<|bsv (vs := [.int .i64 (p)]) H sl_Lint z_int rfl rfl rfl rfl rfl rfl fun w36 b73 H =>cal cb_slices_Insert_Lint_int (ins_Lint_int (K := [(b8, .cells #[.int .i64 (0), .int .i64 (0), .int .i64 (0), .slice none 0 0] T_Coord (0, 0)), (b4, .cells #[.int .i64 (ck), .int .i64 (nx), .int .i64 (wt), .slice (some ⟨g, 0, none⟩) tx2.length c2] T_Coord (0, 0)), (g, .cells cur T_Txn (0, 0))] ++ La) (Lt := Lt) (M := Lb) (hp_in [(b73, .cells #[.int .i64 (p)] T_int (0, 0)), (b8, .cells #[.int .i64 (0), .int .i64 (0), .int .i64 (0), .slice none 0 0] T_Coord (0, 0)), (b4, .cells #[.int .i64 (ck), .int .i64 (nx), .int .i64 (wt), .slice (some ⟨g, 0, none⟩) tx2.length c2] T_Coord (0, 0)), (g, .cells cur T_Txn (0, 0))] La Lt Lb H) hot hjl (by omega)) rfl rfl ?_
   rintro _ w37 ⟨A9, c9, L9, rfl, ho9, HI⟩; replace H : Hp w w37 ([(b73, .cells #[.int .i64 (p)] T_int (0, 0)), (b8, .cells #[.int .i64 (0), .int .i64 (0), .int .i64 (0), .slice none 0 0] T_Coord (0, 0)), (b4, .cells #[.int .i64 (ck), .int .i64 (nx), .int .i64 (wt), .slice (some ⟨g, 0, none⟩) tx2.length c2] T_Coord (0, 0)), (g, .cells cur T_Txn (0, 0))] ++ ((La ++ L9 ++ Lb) ++ [])) [FRd txL 0 w.heap.size cA txs, FParts 0 w.heap.size txs] := hp_out [(b73, .cells #[.int .i64 (p)] T_int (0, 0)), (b8, .cells #[.int .i64 (0), .int .i64 (0), .int .i64 (0), .slice none 0 0] T_Coord (0, 0)), (b4, .cells #[.int .i64 (ck), .int .i64 (nx), .int .i64 (wt), .slice (some ⟨g, 0, none⟩) tx2.length c2] T_Coord (0, 0)), (g, .cells cur T_Txn (0, 0))] La L9 Lb HI
   have hc9 : (t2.parts.take j ++ [p] ++ t2.parts.drop j).length ≤ c9 := by obtain ⟨_, _, e, h, _⟩ := ho9.form; injection e with _ _ e; rw [e]; exact h
   refine Zl (nck_r rfl)<|Zl (Zf fd_Txn_4 rfl)<|stR H 3 ({ t2 with parts := t2.parts.take j ++ [p] ++ t2.parts.drop j, A := A9, cap := c9 }) siz_Lint row ht2 4 rfl rfl rfl rfl rfl rfl (by kernel_rfl) fun w39 cur38 row38 H => ?_
   have hs40 : (tx2.set i ({ t2 with parts := t2.parts.take j ++ [p] ++ t2.parts.drop j, A := A9, cap := c9 }))[i]? = some ({ t2 with parts := t2.parts.take j ++ [p] ++ t2.parts.drop j, A := A9, cap := c9 }) := List.getElem?_set_self (getE ht2).1
   refine Zn<|Zs<|Zr<|Zl (Zw agg_Coord H 2 rfl rfl rfl)<|stN H 1 (#[.int .i64 (ck), .int .i64 (nx), .int .i64 (wt), .slice (some ⟨g, 0, none⟩) tx2.length c2]) siz_Coord rfl rfl rfl rfl rfl (by kernel_rfl) (by kernel_rfl) fun w41 H =>Zl (Wi rfl)<|Zn<|Zt ?_
   have hpp := add_new hj1 hj2 hrise (of_decide_eq_false h63)
   have hX : Tx.a ({ t2 with parts := t2.parts.take j ++ [p] ++ t2.parts.drop j, A := A9, cap := c9 }) = (addTx ck p t).a := by rw [← add_a hta]; unfold addTx; rw [if_neg (by omega)]; rw [← hpp]; rfl
   have hrow : Row txL (tx2.set i ({ t2 with parts := t2.parts.take j ++ [p] ++ t2.parts.drop j, A := A9, cap := c9 })) c2 cur38 := by exact row38
   exact finCTn (cs0 := #[.int .i64 ck, .int .i64 nx, .int .i64 wt, .slice (some ⟨g, 0, none⟩) tx2.length c2]) (v1 := .int .i64 0) rfl agg_Coord rfl (H.ent (i := 1) rfl) rfl rfl ⟨⟨ck, nx, wt, tx2.set i ({ t2 with parts := t2.parts.take j ++ [p] ++ t2.parts.drop j, A := A9, cap := c9 }), some ⟨g, 0, none⟩, c2⟩, [(g, .cells cur38 T_Txn (0, 0))], (La ++ L9 ++ Lb), by unfold Co.v Co.c; dsimp only; rw [List.length_set], by unfold Co.a; dsimp only; rw [set_a hma i hX], Row.own hrow, hset { t2 with parts := t2.parts.take j ++ [p] ++ t2.parts.drop j, A := A9, cap := c9 } L9 ho9, by dsimp only; rw [List.length_set]; exact hoc2, caps_set2 hpc2 i (by exact hc9), H.forget (.cons _ (.cons _ (.cons _ (List.sublist_append_left _ _)))) (by simp)⟩
end Go.Proofs.Ytemnchkebhclpaa
end

section
namespace Go.Proofs.Ytemnchkebhclpaa
open Go Go.Eng Go.RowKit
set_option linter.unusedSimpArgs false
def ending (t : Tx) : Bool := decide (t.state = 3) || decide (t.state = 4)
/-- P5.6: the n-th producer whose markers are on their way -/
def nthEnd (txs : List Tx) (n : Nat) : Option Tx := (txs.filter ending)[n]?
def markOf (t : Tx) : Value := .agg #[.int .i64 0, .int .i64 t.pid, .int .i64 t.ver, .int .i64 0, .int .i64 (if t.state = 4 then 3 else 2), .bool true, .string ⟨#[]⟩]
def nextV (o : Option Tx) : Value := match o with
 | none => .tuple #[.string ⟨#[]⟩, .int .i64 0, .agg #[.int .i64 0, .int .i64 0, .int .i64 0, .int .i64 0, .int .i64 0, .bool false, .string ⟨#[]⟩], .int .i64 15]
 | some t => .tuple #[.string t.name, .int .i64 (t.parts.headD 0), markOf t, .int .i64 0]
theorem Hp.partRow {w0 w : World} {L : List (Nat × Obj)} {F : List Fact} {lo hi : Nat} {txs : List Tx} (H : Hp w0 w L F) (i : Nat) (hF : F[i]? = some (FParts lo hi txs)) {t : Tx} (ht : t ∈ txs) : Hp w0 w L (FRd intL lo hi t.A t.parts :: F) := by
 refine ⟨H.below, H.ents, H.nodup, fun f hf => ?_⟩
 rcases List.mem_cons.1 hf with rfl | hf
 ·
  obtain ⟨h1, h2, h3⟩ := H.facts _ (List.mem_of_getElem? hF)
  exact ⟨h1 t ht, h2, h3⟩
 ·
  exact H.facts f hf
theorem nth_skip {txs : List Tx} {k m : Nat} {x : Tx} (hx : txs[k]? = some x) (he : ending x = false) : ((txs.drop k).filter ending)[m]? = ((txs.drop (k + 1)).filter ending)[m]? := by
 rw [take_drop_step hx, List.filter_cons_of_neg (by rw [he]; decide)]
theorem nth_hit {txs : List Tx} {k : Nat} {x : Tx} (hx : txs[k]? = some x) (he : ending x = true) : ((txs.drop k).filter ending)[0]? = some x := by
 rw [take_drop_step hx, List.filter_cons_of_pos he]; rfl
theorem nth_pass {txs : List Tx} {k m : Nat} {x : Tx} (hx : txs[k]? = some x) (he : ending x = true) (hm : 1 ≤ m) : ((txs.drop k).filter ending)[m]? = ((txs.drop (k + 1)).filter ending)[m - 1]? := by
 obtain ⟨m, rfl⟩ : ∃ j, m = j + 1 := ⟨m - 1, by omega⟩
 rw [take_drop_step hx, List.filter_cons_of_pos he]; rfl
theorem nth_end {txs : List Tx} {k m : Nat} (h : txs.length ≤ k) : ((txs.drop k).filter ending)[m]? = none := by
 rw [List.drop_of_length_le h]; rfl
set_option maxHeartbeats 4000000 in
set_option maxRecDepth 10000 in
theorem next_ok (c : Co) (n : Nat) (w : World) (h : c.rd 0 w.heap.size w) (hok : coOk c = true) (hn : n ≤ 1000) : Ret Try.prog i_coord_Next [c.v, .int .i64 (n : Nat)] w fun v w2 => v = nextV (nthEnd c.txs n) ∧ Below w.heap.size w w2 := by
 refine ret_of fn_coord_Next rfl rfl ?_
 have hcap := h.cap
 have hfew := h.few
 have hfp := h.fewP
 have H := Hp.startCo h
 obtain ⟨ck, nx, wt, txs, cA, cc⟩ := c
 dsimp only at hcap hfew hfp H
 show CW _ _ _ _ (args [.agg #[.int .i64 ck, .int .i64 nx, .int .i64 wt, .slice cA txs.length cc], .int .i64 (n : Nat)]) w
 obtain ⟨q1, q2, q3, q4, q5, q6, q7⟩ := coOk_iff.1 hok
 dsimp only at q6 q7 ⊢
 refine Zs<|Zr<|bxA H rfl rfl fun w1 b2 H =>Zl (Wt rfl)<|Zl (Wi rfl)<|alo H z_Entry rfl fun w2 b6 H =>Zl (Wi rfl)<|Zn<|Zs<|Zs<|Zr<|Zl (Zw agg_Coord H 1 rfl rfl rfl)<|cal cb_coord_Check (coCheck_ok ⟨ck, nx, wt, txs, cA, cc⟩ _ ⟨H.rd0 0 rfl, fun t ht => parts0 H 1 rfl ht, hcap, hfew, hfp⟩) rfl rfl ?_
 rw [hok]
 rintro _ w3 ⟨rfl, hb⟩; replace H := H.later hb; clear hb
 refine Zl (Wi rfl)<|Zn<|Zs<|Zr<|Zl (Yi rfl)<|Zl (neqF_r rfl rfl rfl)<|Zn<|ZF rfl<|Zk<|Zs<|Zs<|Zr<|Zl (Zf fd_Coord_3 rfl)<|Zl (Zd one_LTxn H 1 rfl rfl rfl) ?_
 refine Zl (lenS_r len_LTxn rfl)<|Zl (Yi rfl)<|Zn<|Zb ?_
 refine cw_loop (τ := Nat × Nat) [1, 4, 5, 7, 10, 11, 21, 22, 23, 24, 25, 26, 27, 28, 29, 30, 31, 32, 33, 34, 35, 36, 37, 38, 39, 40, 41, 42, 43, 44, 45, 46, 47, 48, 49, 50, 51, 52] (fun (k, m) => [(21, .int .i64 (k : Nat)), (1, .int .i64 (m : Nat))]) (fun (k, m) w' => k ≤ txs.length ∧ m ≤ 1000 ∧ (txs.filter ending)[n]? = ((txs.drop k).filter ending)[m]? ∧ Hp w w' [(b6, .cells (.agg #[.int .i64 0, .int .i64 0, .int .i64 0, .int .i64 0, .int .i64 0, .bool false, .string ⟨#[]⟩] : Value).cells T_Entry (0, 0)), (b2, .cells #[.int .i64 (ck), .int .i64 (nx), .int .i64 (wt), .slice cA txs.length cc] T_Coord (0, 0))] [FRd txL 0 w.heap.size cA txs, FParts 0 w.heap.size txs]) (fun (k, _) => txs.length - k) (0, n) ⟨by omega, hn, by rw [List.drop_zero], H⟩ (sl2 rfl rfl) ?_
 rintro ⟨k, m⟩ ρ1 w4 ⟨hk, hm1, hm, H⟩
 show CW _ _ _ _ (updL (ovr _ _ ρ1) [(21, .int .i64 (k : Nat)), (1, .int .i64 (m : Nat))]) w4
 refine Zs<|Zr ?_
 refine lwD (lss_r rfl rfl) rfl rfl rfl (fun h22 => ?_) (fun h22 => ?_)
 ·
  refine Zn<|Zs<|ZT rfl<|Zk<|Zs<|Zb<|Zs ?_
  obtain ⟨x, hxk⟩ : ∃ x, txs[k]? = some x := ⟨_, List.getElem?_eq_getElem (by omega)⟩
  refine Zr<|ixF H 0 rfl sl_LTxn rfl rfl (by omega) (by omega) rfl fun b5 o5 x5 e5 => ?_
  obtain rfl : x = x5 := by have := e5.at_; rw [hxk] at this; exact Option.some.inj this
  refine Zl (ldA_r (xs := Tx.c x) agg_Txn rfl rfl e5.cl)<|alo H z_Txn rfl fun w6 b10 H =>stN H 0 (#[.string (x.name), .int .i64 (x.pid), .int .i64 (x.ver), .int .i64 (x.state), .slice x.A x.parts.length x.cap, .int .i64 (x.since), .int .i64 (x.done)]) siz_Txn rfl rfl rfl rfl rfl (by kernel_rfl) (by kernel_rfl) fun w7 H =>Zn<|Zs<|Zs<|Zr<|Zl (Zf fd_Txn_3 rfl)<|Zl (Zd one_int H 0 rfl rfl rfl) ?_
  refine lwND (neq_r rfl rfl) rfl rfl rfl (fun h27 => ?_) (fun h27 => ?_)
  ·
   refine Zl (Yb rfl)<|ZG<|Zl (Zf fd_Txn_3 rfl)<|ZG<|Zl (Zd one_int H 0 rfl rfl rfl)<|ZG ?_
   refine lwND (neq_r rfl rfl) rfl rfl rfl (fun h31 => ?_) (fun h31 => ?_)
   ·
    refine Zl (Kt rfl rfl)<|Zn<|ZT rfl<|Zx<|Zr<|Zl (add_r rfl rfl (by omega) (by omega))<|Zl (Yi rfl)<|Zn ?_
    have hen : ending x = false := by unfold ending; rw [decide_eq_false (by omega), decide_eq_false (by omega)]; rfl
    refine ⟨(k + 1, m), ⟨by omega, hm1, by rw [hm]; exact nth_skip hxk hen, H.forget (.cons _ (List.Sublist.refl _)) (fun _ h => h)⟩, sl2 rfl rfl, by repeat (first | exact Agr.refl _ _ | exact agr_ovr | refine agr_upd rfl ?_ | refine agr_updL _ rfl ?_ | refine agr_ovr2 rfl ?_), by show txs.length - (k + 1) < txs.length - k; omega⟩
   ·
    refine Zl (Kt rfl rfl)<|Zn<|ZF rfl<|Zk<|Zs<|Zs ?_
    have hen : ending x = true := by unfold ending; simp; omega
    have hxo : txOk ck nx x = true := txsOk_mem q7 x (List.mem_of_getElem? hxk)
    obtain ⟨a1, a2, a3, a4, a5, a6, a7, a8, a9, a10, a11⟩ := txOk_iff.1 hxo
    have hpl : x.parts.length ≠ 0 := fun h => by have := a11.2 h; unfold ending at hen; simp [this] at hen
    refine Zr<|Zl (Yi rfl) ?_
    refine lwD (eql_r rfl rfl) rfl rfl rfl (fun h34 => ?_) (fun h34 => ?_)
    ·
     obtain rfl : m = 0 := by omega
     have hnth : nthEnd txs n = some x := by unfold nthEnd; rw [hm]; exact nth_hit hxk hen
     obtain ⟨p0, hp0⟩ : ∃ p, x.parts[0]? = some p := ⟨_, List.getElem?_eq_getElem (by omega)⟩
     refine Zn<|ZT rfl<|Zs<|Zr<|Zl (Wi rfl)<|Zn<|Zs<|Zs<|Zr<|Zl (Zf fd_Txn_3 rfl)<|Zl (Zd one_int H 0 rfl rfl rfl) ?_
     refine lwD (eql_r rfl rfl) rfl rfl rfl (fun h37 => ?_) (fun h37 => ?_)
     ·
      refine Zn<|ZT rfl<|Zr<|Zl (Wi rfl)<|Zn<|Zs ?_
      replace H := Hp.partRow H 1 rfl (List.mem_of_getElem? hxk)
           
      refine cw_draw mixed [0, 1, 2, 3, 4, 5, 6, 7, 8, 9, 10, 11, 12, 13] [14, 15] [] [0, 2, 4, 6, 8, 10, 11, 12, 13] (sp []) (by kernel_rfl) (by kernel_rfl) (by kernel_rfl) (by kernel_rfl) (fun _ _ _ h => h) (sp_st _) ?_
      refine aw rfl rfl rfl rfl rfl (fun w' hw' => Zf fd_Txn_0 rfl)<|aw rfl rfl rfl rfl rfl (fun w' hw' => ld_r one_string rfl (cellE ((H.later hw').ent (i := 0) rfl) rfl))<|aw rfl rfl rfl rfl rfl (fun w' hw' => Zf fd_Txn_4 rfl)<|aw rfl rfl rfl rfl rfl (fun w' hw' => ld_r one_Lint rfl (cellE ((H.later hw').ent (i := 0) rfl) rfl))<|awIxF (k := 0) H 0 rfl rfl rfl rfl rfl sl_Lint rfl rfl (by omega) (by omega) fun b8 o8 x8 e8 => ?_
      obtain rfl : p0 = x8 := by have := e8.at_; rw [hp0] at this; exact Option.some.inj this
      refine aw rfl rfl rfl rfl rfl (fun w' hw' => ld_r one_int rfl (e8.later hw' 0 _ rfl))<|aw rfl rfl rfl rfl rfl (fun w' hw' => Zf fd_Txn_1 rfl)<|aw rfl rfl rfl rfl rfl (fun w' hw' => ld_r one_int rfl (cellE ((H.later hw').ent (i := 0) rfl) rfl))<|aw rfl rfl rfl rfl rfl (fun w' hw' => Zf fd_Txn_2 rfl)<|aw rfl rfl rfl rfl rfl (fun w' hw' => ld_r one_int rfl (cellE ((H.later hw').ent (i := 0) rfl) rfl))<|aw rfl rfl rfl rfl rfl (fun w' hw' => Yi rfl)<|aw rfl rfl rfl rfl rfl (fun w' hw' => bld_r (cs := #[.int .i64 (0), .int .i64 (x.pid), .int .i64 (x.ver), .int .i64 (0), .int .i64 (3), .bool (true), .string (⟨#[]⟩)]) st_Entry z_Entry (by kernel_rfl))<|aw rfl rfl rfl rfl rfl (fun w' hw' => Wt rfl)<|aw rfl rfl rfl rfl rfl (fun w' hw' => Wi rfl)<|aw_nil ?_
      intro w9 hw' hF
      replace H := H.later hw'; clear hw' hF
      refine stN H 1 (#[.int .i64 (0), .int .i64 (x.pid), .int .i64 (x.ver), .int .i64 (0), .int .i64 (3), .bool (true), .string (⟨#[]⟩)]) siz_Entry rfl rfl rfl rfl rfl (by kernel_rfl) (by kernel_rfl) fun w10 H =>Zl (Wi rfl)<|Zn<|Zt ?_
      rw [hnth]
      have hk2 : (if x.state = 4 then (3 : Int) else 2) = 3 := by rw [if_pos (by omega)]
      have hh : x.parts.headD 0 = p0 := by rw [List.headD_eq_head?_getD, List.head?_eq_getElem?, hp0]; rfl
      exact finTTCT (v0 := .string x.name) (v1 := .int .i64 p0) (cs2 := #[.int .i64 0, .int .i64 x.pid, .int .i64 x.ver, .int .i64 0, .int .i64 3, .bool true, .string ⟨#[]⟩]) (v3 := .int .i64 0) rfl rfl rfl agg_Entry rfl (H.ent (i := 1) rfl) rfl rfl ⟨by unfold nextV markOf; dsimp only; rw [hk2, hh], H.below⟩
     ·
      refine Zn<|ZF rfl<|Zk<|Zs ?_
      replace H := Hp.partRow H 1 rfl (List.mem_of_getElem? hxk)
           
      refine cw_draw mixed [0, 1, 2, 3, 4, 5, 6, 7, 8, 9, 10, 11, 12, 13] [14, 15] [] [0, 2, 4, 6, 8, 10, 11, 12, 13] (sp []) (by kernel_rfl) (by kernel_rfl) (by kernel_rfl) (by kernel_rfl) (fun _ _ _ h => h) (sp_st _) ?_
      refine aw rfl rfl rfl rfl rfl (fun w' hw' => Zf fd_Txn_0 rfl)<|aw rfl rfl rfl rfl rfl (fun w' hw' => ld_r one_string rfl (cellE ((H.later hw').ent (i := 0) rfl) rfl))<|aw rfl rfl rfl rfl rfl (fun w' hw' => Zf fd_Txn_4 rfl)<|aw rfl rfl rfl rfl rfl (fun w' hw' => ld_r one_Lint rfl (cellE ((H.later hw').ent (i := 0) rfl) rfl))<|awIxF (k := 0) H 0 rfl rfl rfl rfl rfl sl_Lint rfl rfl (by omega) (by omega) fun b11 o11 x11 e11 => ?_
      obtain rfl : p0 = x11 := by have := e11.at_; rw [hp0] at this; exact Option.some.inj this
      refine aw rfl rfl rfl rfl rfl (fun w' hw' => ld_r one_int rfl (e11.later hw' 0 _ rfl))<|aw rfl rfl rfl rfl rfl (fun w' hw' => Zf fd_Txn_1 rfl)<|aw rfl rfl rfl rfl rfl (fun w' hw' => ld_r one_int rfl (cellE ((H.later hw').ent (i := 0) rfl) rfl))<|aw rfl rfl rfl rfl rfl (fun w' hw' => Zf fd_Txn_2 rfl)<|aw rfl rfl rfl rfl rfl (fun w' hw' => ld_r one_int rfl (cellE ((H.later hw').ent (i := 0) rfl) rfl))<|aw rfl rfl rfl rfl rfl (fun w' hw' => Yi rfl)<|aw rfl rfl rfl rfl rfl (fun w' hw' => bld_r (cs := #[.int .i64 (0), .int .i64 (x.pid), .int .i64 (x.ver), .int .i64 (0), .int .i64 (2), .bool (true), .string (⟨#[]⟩)]) st_Entry z_Entry (by kernel_rfl))<|aw rfl rfl rfl rfl rfl (fun w' hw' => Wt rfl)<|aw rfl rfl rfl rfl rfl (fun w' hw' => Wi rfl)<|aw_nil ?_
      intro w12 hw' hF
      replace H := H.later hw'; clear hw' hF
      refine stN H 1 (#[.int .i64 (0), .int .i64 (x.pid), .int .i64 (x.ver), .int .i64 (0), .int .i64 (2), .bool (true), .string (⟨#[]⟩)]) siz_Entry rfl rfl rfl rfl rfl (by kernel_rfl) (by kernel_rfl) fun w13 H =>Zl (Wi rfl)<|Zn<|Zt ?_
      rw [hnth]
      have hk2 : (if x.state = 4 then (3 : Int) else 2) = 2 := by rw [if_neg (by omega)]
      have hh : x.parts.headD 0 = p0 := by rw [List.headD_eq_head?_getD, List.head?_eq_getElem?, hp0]; rfl
      exact finTTCT (v0 := .string x.name) (v1 := .int .i64 p0) (cs2 := #[.int .i64 0, .int .i64 x.pid, .int .i64 x.ver, .int .i64 0, .int .i64 2, .bool true, .string ⟨#[]⟩]) (v3 := .int .i64 0) rfl rfl rfl agg_Entry rfl (H.ent (i := 1) rfl) rfl rfl ⟨by unfold nextV markOf; dsimp only; rw [hk2, hh], H.below⟩
    ·
     refine Zn<|ZF rfl<|Zk<|Zr<|Zl (Yi rfl)<|Zl (sub_r rfl rfl (by omega) (by omega))<|Zl (Wi rfl)<|Zn<|Zr<|Zl (add_r rfl rfl (by omega) (by omega))<|Zl (Yi rfl)<|Zn ?_
     refine ⟨(k + 1, m - 1), ⟨by omega, by omega, by rw [hm]; exact nth_pass hxk hen (by omega), H.forget (.cons _ (List.Sublist.refl _)) (fun _ h => h)⟩, sl2 rfl (by show Value.int .i64 _ = Value.int .i64 _; congr 1; omega), by repeat (first | exact Agr.refl _ _ | exact agr_ovr | refine agr_upd rfl ?_ | refine agr_updL _ rfl ?_ | refine agr_ovr2 rfl ?_), by show txs.length - (k + 1) < txs.length - k; omega⟩
  ·
   refine Zl (Yb rfl)<|ZN<|ZN<|ZN<|Zl (Kf rfl rfl)<|Zn<|ZF rfl<|Zk<|Zs<|Zs ?_
   have hen : ending x = true := by unfold ending; simp; omega
   have hxo : txOk ck nx x = true := txsOk_mem q7 x (List.mem_of_getElem? hxk)
   obtain ⟨a1, a2, a3, a4, a5, a6, a7, a8, a9, a10, a11⟩ := txOk_iff.1 hxo
   have hpl : x.parts.length ≠ 0 := fun h => by have := a11.2 h; unfold ending at hen; simp [this] at hen
   refine Zr<|Zl (Yi rfl) ?_
   refine lwD (eql_r rfl rfl) rfl rfl rfl (fun h34 => ?_) (fun h34 => ?_)
   ·
    obtain rfl : m = 0 := by omega
    have hnth : nthEnd txs n = some x := by unfold nthEnd; rw [hm]; exact nth_hit hxk hen
    obtain ⟨p0, hp0⟩ : ∃ p, x.parts[0]? = some p := ⟨_, List.getElem?_eq_getElem (by omega)⟩
    refine Zn<|ZT rfl<|Zs<|Zr<|Zl (Wi rfl)<|Zn<|Zs<|Zs<|Zr<|Zl (Zf fd_Txn_3 rfl)<|Zl (Zd one_int H 0 rfl rfl rfl) ?_
    refine lwD (eql_r rfl rfl) rfl rfl rfl (fun h37 => ?_) (fun h37 => ?_)
    ·
     refine Zn<|ZT rfl<|Zr<|Zl (Wi rfl)<|Zn<|Zs ?_
     replace H := Hp.partRow H 1 rfl (List.mem_of_getElem? hxk)
         
     refine cw_draw mixed [0, 1, 2, 3, 4, 5, 6, 7, 8, 9, 10, 11, 12, 13] [14, 15] [] [0, 2, 4, 6, 8, 10, 11, 12, 13] (sp []) (by kernel_rfl) (by kernel_rfl) (by kernel_rfl) (by kernel_rfl) (fun _ _ _ h => h) (sp_st _) ?_
     refine aw rfl rfl rfl rfl rfl (fun w' hw' => Zf fd_Txn_0 rfl)<|aw rfl rfl rfl rfl rfl (fun w' hw' => ld_r one_string rfl (cellE ((H.later hw').ent (i := 0) rfl) rfl))<|aw rfl rfl rfl rfl rfl (fun w' hw' => Zf fd_Txn_4 rfl)<|aw rfl rfl rfl rfl rfl (fun w' hw' => ld_r one_Lint rfl (cellE ((H.later hw').ent (i := 0) rfl) rfl))<|awIxF (k := 0) H 0 rfl rfl rfl rfl rfl sl_Lint rfl rfl (by omega) (by omega) fun b14 o14 x14 e14 => ?_
     obtain rfl : p0 = x14 := by have := e14.at_; rw [hp0] at this; exact Option.some.inj this
     refine aw rfl rfl rfl rfl rfl (fun w' hw' => ld_r one_int rfl (e14.later hw' 0 _ rfl))<|aw rfl rfl rfl rfl rfl (fun w' hw' => Zf fd_Txn_1 rfl)<|aw rfl rfl rfl rfl rfl (fun w' hw' => ld_r one_int rfl (cellE ((H.later hw').ent (i := 0) rfl) rfl))<|aw rfl rfl rfl rfl rfl (fun w' hw' => Zf fd_Txn_2 rfl)<|aw rfl rfl rfl rfl rfl (fun w' hw' => ld_r one_int rfl (cellE ((H.later hw').ent (i := 0) rfl) rfl))<|aw rfl rfl rfl rfl rfl (fun w' hw' => Yi rfl)<|aw rfl rfl rfl rfl rfl (fun w' hw' => bld_r (cs := #[.int .i64 (0), .int .i64 (x.pid), .int .i64 (x.ver), .int .i64 (0), .int .i64 (3), .bool (true), .string (⟨#[]⟩)]) st_Entry z_Entry (by kernel_rfl))<|aw rfl rfl rfl rfl rfl (fun w' hw' => Wt rfl)<|aw rfl rfl rfl rfl rfl (fun w' hw' => Wi rfl)<|aw_nil ?_
     intro w15 hw' hF
     replace H := H.later hw'; clear hw' hF
     refine stN H 1 (#[.int .i64 (0), .int .i64 (x.pid), .int .i64 (x.ver), .int .i64 (0), .int .i64 (3), .bool (true), .string (⟨#[]⟩)]) siz_Entry rfl rfl rfl rfl rfl (by kernel_rfl) (by kernel_rfl) fun w16 H =>Zl (Wi rfl)<|Zn<|Zt ?_
     rw [hnth]
     have hk2 : (if x.state = 4 then (3 : Int) else 2) = 3 := by rw [if_pos (by omega)]
     have hh : x.parts.headD 0 = p0 := by rw [List.headD_eq_head?_getD, List.head?_eq_getElem?, hp0]; rfl
     exact finTTCT (v0 := .string x.name) (v1 := .int .i64 p0) (cs2 := #[.int .i64 0, .int .i64 x.pid, .int .i64 x.ver, .int .i64 0, .int .i64 3, .bool true, .string ⟨#[]⟩]) (v3 := .int .i64 0) rfl rfl rfl agg_Entry rfl (H.ent (i := 1) rfl) rfl rfl ⟨by unfold nextV markOf; dsimp only; rw [hk2, hh], H.below⟩
    ·
     refine Zn<|ZF rfl<|Zk<|Zs ?_
     replace H := Hp.partRow H 1 rfl (List.mem_of_getElem? hxk)
         
     refine cw_draw mixed [0, 1, 2, 3, 4, 5, 6, 7, 8, 9, 10, 11, 12, 13] [14, 15] [] [0, 2, 4, 6, 8, 10, 11, 12, 13] (sp []) (by kernel_rfl) (by kernel_rfl) (by kernel_rfl) (by kernel_rfl) (fun _ _ _ h => h) (sp_st _) ?_
     refine aw rfl rfl rfl rfl rfl (fun w' hw' => Zf fd_Txn_0 rfl)<|aw rfl rfl rfl rfl rfl (fun w' hw' => ld_r one_string rfl (cellE ((H.later hw').ent (i := 0) rfl) rfl))<|aw rfl rfl rfl rfl rfl (fun w' hw' => Zf fd_Txn_4 rfl)<|aw rfl rfl rfl rfl rfl (fun w' hw' => ld_r one_Lint rfl (cellE ((H.later hw').ent (i := 0) rfl) rfl))<|awIxF (k := 0) H 0 rfl rfl rfl rfl rfl sl_Lint rfl rfl (by omega) (by omega) fun b17 o17 x17 e17 => ?_
     obtain rfl : p0 = x17 := by have := e17.at_; rw [hp0] at this; exact Option.some.inj this
     refine aw rfl rfl rfl rfl rfl (fun w' hw' => ld_r one_int rfl (e17.later hw' 0 _ rfl))<|aw rfl rfl rfl rfl rfl (fun w' hw' => Zf fd_Txn_1 rfl)<|aw rfl rfl rfl rfl rfl (fun w' hw' => ld_r one_int rfl (cellE ((H.later hw').ent (i := 0) rfl) rfl))<|aw rfl rfl rfl rfl rfl (fun w' hw' => Zf fd_Txn_2 rfl)<|aw rfl rfl rfl rfl rfl (fun w' hw' => ld_r one_int rfl (cellE ((H.later hw').ent (i := 0) rfl) rfl))<|aw rfl rfl rfl rfl rfl (fun w' hw' => Yi rfl)<|aw rfl rfl rfl rfl rfl (fun w' hw' => bld_r (cs := #[.int .i64 (0), .int .i64 (x.pid), .int .i64 (x.ver), .int .i64 (0), .int .i64 (2), .bool (true), .string (⟨#[]⟩)]) st_Entry z_Entry (by kernel_rfl))<|aw rfl rfl rfl rfl rfl (fun w' hw' => Wt rfl)<|aw rfl rfl rfl rfl rfl (fun w' hw' => Wi rfl)<|aw_nil ?_
     intro w18 hw' hF
     replace H := H.later hw'; clear hw' hF
     refine stN H 1 (#[.int .i64 (0), .int .i64 (x.pid), .int .i64 (x.ver), .int .i64 (0), .int .i64 (2), .bool (true), .string (⟨#[]⟩)]) siz_Entry rfl rfl rfl rfl rfl (by kernel_rfl) (by kernel_rfl) fun w19 H =>Zl (Wi rfl)<|Zn<|Zt ?_
     rw [hnth]
     have hk2 : (if x.state = 4 then (3 : Int) else 2) = 2 := by rw [if_neg (by omega)]
     have hh : x.parts.headD 0 = p0 := by rw [List.headD_eq_head?_getD, List.head?_eq_getElem?, hp0]; rfl
     exact finTTCT (v0 := .string x.name) (v1 := .int .i64 p0) (cs2 := #[.int .i64 0, .int .i64 x.pid, .int .i64 x.ver, .int .i64 0, .int .i64 2, .bool true, .string ⟨#[]⟩]) (v3 := .int .i64 0) rfl rfl rfl agg_Entry rfl (H.ent (i := 1) rfl) rfl rfl ⟨by unfold nextV markOf; dsimp only; rw [hk2, hh], H.below⟩
   ·
    refine Zn<|ZF rfl<|Zk<|Zr<|Zl (Yi rfl)<|Zl (sub_r rfl rfl (by omega) (by omega))<|Zl (Wi rfl)<|Zn<|Zr<|Zl (add_r rfl rfl (by omega) (by omega))<|Zl (Yi rfl)<|Zn ?_
    refine ⟨(k + 1, m - 1), ⟨by omega, by omega, by rw [hm]; exact nth_pass hxk hen (by omega), H.forget (.cons _ (List.Sublist.refl _)) (fun _ h => h)⟩, sl2 rfl (by show Value.int .i64 _ = Value.int .i64 _; congr 1; omega), by repeat (first | exact Agr.refl _ _ | exact agr_ovr | refine agr_upd rfl ?_ | refine agr_updL _ rfl ?_ | refine agr_ovr2 rfl ?_), by show txs.length - (k + 1) < txs.length - k; omega⟩
 ·
  refine Zn<|Zs<|ZF rfl<|Zx<|Zs<|Zr<|Zl (bld_r (cs := #[.int .i64 (0), .int .i64 (0), .int .i64 (0), .int .i64 (0), .int .i64 (0), .bool (false), .string (⟨#[]⟩)]) st_Entry z_Entry (by kernel_rfl))<|Zl (Wt rfl)<|Zl (Wi rfl)<|stN H 0 (#[.int .i64 (0), .int .i64 (0), .int .i64 (0), .int .i64 (0), .int .i64 (0), .bool (false), .string (⟨#[]⟩)]) siz_Entry rfl rfl rfl rfl rfl (by kernel_rfl) (by kernel_rfl) fun w20 H =>Zl (Wi rfl)<|Zn<|Zt ?_
  rw [show nthEnd txs n = none by unfold nthEnd; rw [hm]; exact nth_end (by omega)]
  exact finTTCT (v0 := .string ⟨#[]⟩) (v1 := .int .i64 0) (cs2 := #[.int .i64 0, .int .i64 0, .int .i64 0, .int .i64 0, .int .i64 0, .bool false, .string ⟨#[]⟩]) (v3 := .int .i64 15) rfl rfl rfl agg_Entry rfl (H.ent (i := 0) rfl) rfl rfl ⟨rfl, H.below⟩
end Go.Proofs.Ytemnchkebhclpaa
end

section
namespace Go.Proofs.Ytemnchkebhclpaa
open Go Go.Eng Go.RowKit
set_option linter.unusedSimpArgs false
/-- P5.6: a part whose marker is kept -/
def doneTx (p : Int) (t : Tx) : Tx := if (t.parts.filter fun q => decide (q ≠ p)).length = 0 then { t with parts := [], done := t.state, state := 1 } else { t with parts := t.parts.filter fun q => decide (q ≠ p) }
theorem done_a {p : Int} {t t' : Tx} (h : t'.a = t.a) : (doneTx p t').a = (doneTx p t).a := by
 have e : ∀ t : Tx, (doneTx p t).a = doneTx p t.a := fun t => by
  unfold doneTx
  by_cases h : (t.parts.filter fun q => decide (q ≠ p)).length = 0
  ·
   rw [if_pos h, if_pos (show (t.a.parts.filter fun q => decide (q ≠ p)).length = 0 from h)]; rfl
  ·
   rw [if_neg h, if_neg (show ¬ (t.a.parts.filter fun q => decide (q ≠ p)).length = 0 from h)]; rfl
 rw [e, e, h]
theorem del_at : ∀ {l : List Int} {p : Int} {j : Nat}, l.Pairwise (· < ·) → l[j]? = some p → l.take j ++ l.drop (j + 1) = l.filter fun q => decide (q ≠ p)
 | [], _, _, _, h => by cases h
 | x :: l, p, 0, hp, h => by
  cases h
  obtain ⟨h1, -⟩ := List.pairwise_cons.1 hp
  rw [List.filter_cons_of_neg (by simp)]
  simp only [List.take_zero, List.nil_append, List.drop_succ_cons, List.drop_zero]
  exact (List.filter_eq_self.2 fun y hy => decide_eq_true (by have := h1 y hy; omega)).symm
 | x :: l, p, j + 1, hp, h => by
  obtain ⟨h1, h2⟩ := List.pairwise_cons.1 hp
  have hm : p ∈ l := List.mem_of_getElem? (show l[j]? = some p from h)
  have := h1 p hm
  rw [List.filter_cons_of_pos (by simp; omega), ← del_at h2 (show l[j]? = some p from h)]
  rfl
theorem there {l : List Int} {p : Int} {i : Nat} (h2 : ∀ k y, l[k]? = some y → i ≤ k → p ≤ y) (h1 : ∀ k y, l[k]? = some y → k < i → y < p) (hp : l.Pairwise (· < ·)) (hm : p ∈ l) : l[i]? = some p := by
 obtain ⟨k, hk⟩ := List.mem_iff_getElem?.1 hm
 by_cases hki : k < i
 ·
  have := h1 k p hk hki; omega
 ·
  obtain ⟨x, hx⟩ : ∃ x, l[i]? = some x := ⟨_, List.getElem?_eq_getElem (by have := (getE hk).1; omega)⟩
  have h3 := rises hp hx hk (by omega)
  have h4 := h2 i x hx (Nat.le_refl _)
  rw [hx]; congr 1; omega
set_option maxHeartbeats 4000000 in
set_option maxRecDepth 10000 in
theorem done_ok (c : Co) (s : ByteArray) (p : Int) (i : Nat) (t : Tx) (w : World) (h : c.rd 0 w.heap.size w) (hok : coOk c = true) (hn : nameOk s = true) (hi : nameIdx c s = i) (ht : c.txs[i]? = some t) (h34 : t.state = 3 ∨ t.state = 4) (hpm : p ∈ t.parts) (hpo : partsOk (-1) t.parts = true) : Ret Try.prog i_coord_Done [c.v, .string s, .int .i64 p] w fun v w2 => ∃ (c' : Co) (Lr Lp : List (Nat × Obj)), v = .tuple #[c'.v, .int .i64 0] ∧ OwnCo w w2 (Co.a { c with txs := c.txs.set i (doneTx p t) }) c' Lr Lp := by
 refine ret_of fn_coord_Done rfl rfl ?_
 have hcap := h.cap
 have hfew := h.few
 have hfp := h.fewP
 have H := Hp.startCo h
 obtain ⟨ck, nx, wt, txs, cA, cc⟩ := c
 dsimp only at hcap hfew hfp H
 show CW _ _ _ _ (args [.agg #[.int .i64 ck, .int .i64 nx, .int .i64 wt, .slice cA txs.length cc], .string s, .int .i64 p]) w
 dsimp only at ht ⊢
 refine Zs<|Zr<|bxA H rfl rfl fun w1 b3 H =>alo H z_Coord rfl fun w2 b6 H =>Zl (Wi rfl)<|Zn<|Zs<|Zr<|Zl (Zw agg_Coord H 1 rfl rfl rfl)<|Zl (Yt rfl)<|cal cb_coord_find (coFindO_ok ⟨ck, nx, wt, txs, cA, cc⟩ s _ ⟨H.rd0 0 rfl, fun t ht => parts0 H 1 rfl ht, hcap, hfew, hfp⟩ hok hn) rfl rfl ?_
 rintro _ w3 ⟨⟨ck2, nx2, wt2, tx2, A2, c2⟩, Lr, Lp, rfl, ha2, ho2, hp2, hoc2, hpc2, hj2⟩
 replace H := H.joinR hj2; clear hj2
 simp only [Co.a, Co.mk.injEq] at ha2
 obtain ⟨e1, e2, e3, hma, -, -⟩ := ha2
 obtain rfl : ck = ck2 := e1.symm
 obtain rfl : nx = nx2 := e2.symm
 obtain rfl : wt = wt2 := e3.symm
 dsimp only at ho2 hp2 hoc2 hpc2 H
 obtain ⟨t2, ht2, hta⟩ := map_at hma ht
 have hl2 := (getE ht2).1
 obtain ⟨g, cur, rfl, rfl, row⟩ := ho2.row (by omega)
 have hst : t2.state = t.state := by show t2.a.state = t.a.state; rw [hta]
 have hdn : t2.done = t.done := by show t2.a.done = t.a.done; rw [hta]
 have hpt : t2.parts = t.parts := by show t2.a.parts = t.a.parts; rw [hta]
 rw [hi]
 refine Zl (Yu rfl)<|Zl (Xa rfl rfl)<|Zl (Xi rfl rfl)<|Zl (Xi rfl rfl)<|stN H 1 (#[.int .i64 (ck), .int .i64 (nx), .int .i64 (wt), .slice (some ⟨g, 0, none⟩) tx2.length c2]) siz_Coord rfl rfl rfl rfl rfl (by kernel_rfl) (by kernel_rfl) fun w4 H =>Zl (Wi rfl)<|Zl (Wi rfl)<|Zn<|Zs<|Zs<|Zr<|Zl (Yi rfl)<|Zl (neqF_r rfl rfl rfl)<|Zn ?_
 refine ZF rfl<|Zk<|Zs<|Zs<|Zr<|Zl (Yi rfl)<|Zl (lssF_r rfl rfl (by omega))<|Zn<|ZF rfl<|Zk<|Zs<|Zr<|Zl (Zf fd_Coord_3 rfl)<|Zl (Zd one_LTxn H 1 rfl rfl rfl) ?_
 refine Zl (Yi rfl)<|Zl (ixR_r sl_LTxn rfl rfl (by first | omega | (simp only [List.length_set]; omega)))<|Zl (Wp rfl)<|Zn<|Zs<|Zs<|Zr<|Zl (Yp rfl)<|Zl (nck_r rfl)<|Zl (Zf fd_Txn_3 rfl)<|Zl (ldR_r one_int row ht2 3 rfl (H.ent (i := 2) rfl) rfl)<|Zl (neq_r rfl rfl) ?_
 refine lwCase 35 rfl (fun h35 => ?_) (fun h35 => ?_)
 ·
  refine Zl (Yb rfl)<|ZG<|Zl (Yp rfl)<|ZG<|Zl (nck_r rfl)<|ZG<|Zl (Zf fd_Txn_3 rfl)<|ZG<|Zl (ldR_r one_int row ht2 3 rfl (H.ent (i := 2) rfl) rfl)<|ZG<|Zl (neqF_r rfl rfl (by simp at h35; omega))<|Zl (Kt rfl rfl)<|Zn<|ZF rfl ?_
  refine Zk<|Zs ?_
  have hrise := (partsOk_rise hpo).1
  have hfw := rise_few hpo
  rw [← hpt] at hrise hfw hpm
  obtain ⟨La, Lt, Lb, rfl, hot, hset⟩ := hp2.at_ ht2
  refine Zr<|Zl (Yp rfl)<|Zl (nck_r rfl)<|Zl (Zf fd_Txn_4 rfl)<|Zl (ldR_r one_Lint row ht2 4 rfl (H.ent (i := 2) rfl) rfl)<|Zl (Yi rfl)<|cal cb_slices_BinarySearch_Lint_int (bsearch_ok t2.parts p t2.A t2.cap _ ((hot.rd (K := [(b6, .cells #[.int .i64 (0), .int .i64 (0), .int .i64 (0), .slice none 0 0] T_Coord (0, 0)), (b3, .cells #[.int .i64 (ck), .int .i64 (nx), .int .i64 (wt), .slice (some ⟨g, 0, none⟩) tx2.length c2] T_Coord (0, 0)), (g, .cells cur T_Txn (0, 0))] ++ La) (M := Lb) (hp_in [(b6, .cells #[.int .i64 (0), .int .i64 (0), .int .i64 (0), .slice none 0 0] T_Coord (0, 0)), (b3, .cells #[.int .i64 (ck), .int .i64 (nx), .int .i64 (wt), .slice (some ⟨g, 0, none⟩) tx2.length c2] T_Coord (0, 0)), (g, .cells cur T_Txn (0, 0))] La Lt Lb H)).mono (Nat.zero_le _) (Nat.le_refl _)) (by omega) hrise) rfl rfl ?_
  rintro _ w5 ⟨j, rfl, hjl, hj1, hj2, hb⟩; replace H := H.later hb; clear hb
  have hjp := there hj2 hj1 hrise hpm
  rw [show decide (t2.parts[j]? = some p) = true from decide_eq_true hjp]
  have hdl := del_at hrise hjp
  have hjl2 := (getE hjp).1
  refine Zl (Yu rfl)<|Zl (Xi rfl rfl)<|Zl (Xb rfl rfl)<|Zl (Wi rfl)<|Zl (Wb rfl)<|Zn<|Zs<|Zs<|Zr<|Zl (Yb rfl)<|Zl (not_r rfl)<|Zn<|ZF rfl<|Zk ?_
  refine Zs<|Zr<|Zl (Yp rfl)<|Zl (Yp rfl)<|Zl (nck_r rfl)<|Zl (Zf fd_Txn_4 rfl)<|Zl (ldR_r one_Lint row ht2 4 rfl (H.ent (i := 2) rfl) rfl)<|Zl (Yi rfl)<|Zl (Yi rfl)<|Zl (add_r rfl rfl (by omega) (by omega))<|cal cb_slices_Delete_Lint_int (del_Lint_int (K := [(b6, .cells #[.int .i64 (0), .int .i64 (0), .int .i64 (0), .slice none 0 0] T_Coord (0, 0)), (b3, .cells #[.int .i64 (ck), .int .i64 (nx), .int .i64 (wt), .slice (some ⟨g, 0, none⟩) tx2.length c2] T_Coord (0, 0)), (g, .cells cur T_Txn (0, 0))] ++ La) (Lt := Lt) (M := Lb) (i := j) (j := j + 1) (hp_in [(b6, .cells #[.int .i64 (0), .int .i64 (0), .int .i64 (0), .slice none 0 0] T_Coord (0, 0)), (b3, .cells #[.int .i64 (ck), .int .i64 (nx), .int .i64 (wt), .slice (some ⟨g, 0, none⟩) tx2.length c2] T_Coord (0, 0)), (g, .cells cur T_Txn (0, 0))] La Lt Lb H) hot (by omega) hjl2 (by omega)) rfl rfl ?_
  rintro _ w6 ⟨A9, c9, L9, rfl, ho9, HI⟩; replace H : Hp w w6 ([(b6, .cells #[.int .i64 (0), .int .i64 (0), .int .i64 (0), .slice none 0 0] T_Coord (0, 0)), (b3, .cells #[.int .i64 (ck), .int .i64 (nx), .int .i64 (wt), .slice (some ⟨g, 0, none⟩) tx2.length c2] T_Coord (0, 0)), (g, .cells cur T_Txn (0, 0))] ++ ((La ++ L9 ++ Lb) ++ [])) [FRd txL 0 w.heap.size cA txs, FParts 0 w.heap.size txs] := hp_out [(b6, .cells #[.int .i64 (0), .int .i64 (0), .int .i64 (0), .slice none 0 0] T_Coord (0, 0)), (b3, .cells #[.int .i64 (ck), .int .i64 (nx), .int .i64 (wt), .slice (some ⟨g, 0, none⟩) tx2.length c2] T_Coord (0, 0)), (g, .cells cur T_Txn (0, 0))] La L9 Lb HI
  have hc9 : (t2.parts.take j ++ t2.parts.drop (j + 1)).length ≤ c9 := by obtain ⟨_, _, e, h, _⟩ := ho9.form; injection e with _ _ e; rw [e]; exact h
  refine Zl (nck_r rfl)<|Zl (Zf fd_Txn_4 rfl)<|stR H 2 ({ t2 with parts := t2.parts.take j ++ t2.parts.drop (j + 1), A := A9, cap := c9 }) siz_Lint row ht2 4 rfl rfl rfl rfl rfl rfl (by kernel_rfl) fun w8 cur7 row7 H => ?_
  have hs9 : (tx2.set i ({ t2 with parts := t2.parts.take j ++ t2.parts.drop (j + 1), A := A9, cap := c9 }))[i]? = some ({ t2 with parts := t2.parts.take j ++ t2.parts.drop (j + 1), A := A9, cap := c9 }) := List.getElem?_set_self (getE ht2).1
  refine Zn<|Zs<|Zs<|Zr<|Zl (Yp rfl)<|Zl (nck_r rfl)<|Zl (Zf fd_Txn_4 rfl)<|Zl (ldR_r one_Lint row7 hs9 4 rfl (H.ent (i := 2) rfl) rfl)<|Zl (lenS_r len_Lint rfl) ?_
  refine lwD (eql_r rfl rfl) rfl rfl rfl (fun h72 => ?_) (fun h72 => ?_)
  ·
   refine Zn<|ZT rfl<|Zr<|Zl (Yp rfl)<|Zl (Yp rfl)<|Zl (Yp rfl)<|Zl (nck_r rfl)<|Zl (Zf fd_Txn_3 rfl)<|Zl (ldR_r one_int row7 hs9 3 rfl (H.ent (i := 2) rfl) rfl)<|Zl (nck_r rfl)<|Zl (Zf fd_Txn_3 rfl)<|stR H 2 ({ ({ t2 with parts := t2.parts.take j ++ t2.parts.drop (j + 1), A := A9, cap := c9 }) with state := 1 }) siz_int row7 hs9 3 rfl rfl rfl rfl rfl rfl (by kernel_rfl) fun w11 cur10 row10 H => ?_
   have hs12 : ((tx2.set i ({ t2 with parts := t2.parts.take j ++ t2.parts.drop (j + 1), A := A9, cap := c9 })).set i ({ ({ t2 with parts := t2.parts.take j ++ t2.parts.drop (j + 1), A := A9, cap := c9 }) with state := 1 }))[i]? = some ({ ({ t2 with parts := t2.parts.take j ++ t2.parts.drop (j + 1), A := A9, cap := c9 }) with state := 1 }) := List.getElem?_set_self (getE hs9).1
   refine Zl (nck_r rfl)<|Zl (Zf fd_Txn_6 rfl)<|stR H 2 ({ ({ ({ t2 with parts := t2.parts.take j ++ t2.parts.drop (j + 1), A := A9, cap := c9 }) with state := 1 }) with done := ({ t2 with parts := t2.parts.take j ++ t2.parts.drop (j + 1), A := A9, cap := c9 }).state }) siz_int row10 hs12 6 rfl rfl rfl rfl rfl rfl (by kernel_rfl) fun w14 cur13 row13 H => ?_
   have hs15 : (((tx2.set i ({ t2 with parts := t2.parts.take j ++ t2.parts.drop (j + 1), A := A9, cap := c9 })).set i ({ ({ t2 with parts := t2.parts.take j ++ t2.parts.drop (j + 1), A := A9, cap := c9 }) with state := 1 })).set i ({ ({ ({ t2 with parts := t2.parts.take j ++ t2.parts.drop (j + 1), A := A9, cap := c9 }) with state := 1 }) with done := ({ t2 with parts := t2.parts.take j ++ t2.parts.drop (j + 1), A := A9, cap := c9 }).state }))[i]? = some ({ ({ ({ t2 with parts := t2.parts.take j ++ t2.parts.drop (j + 1), A := A9, cap := c9 }) with state := 1 }) with done := ({ t2 with parts := t2.parts.take j ++ t2.parts.drop (j + 1), A := A9, cap := c9 }).state }) := List.getElem?_set_self (getE hs12).1
   refine Zn<|Zs<|Zr<|Zl (Zw agg_Coord H 1 rfl rfl rfl)<|stN H 0 (#[.int .i64 (ck), .int .i64 (nx), .int .i64 (wt), .slice (some ⟨g, 0, none⟩) tx2.length c2]) siz_Coord rfl rfl rfl rfl rfl (by kernel_rfl) (by kernel_rfl) fun w16 H =>Zl (Wi rfl)<|Zn<|Zt ?_
   have h72b : ((t2.parts.take j ++ t2.parts.drop (j + 1)).length : Int) = 0 := h72
   have hX : Tx.a ({ t2 with parts := t2.parts.take j ++ t2.parts.drop (j + 1), A := A9, cap := c9, done := t2.state, state := 1 }) = (doneTx p t).a := by rw [← done_a hta]; unfold doneTx; rw [← hdl]; rw [if_pos (by omega), List.eq_nil_of_length_eq_zero (show (t2.parts.take j ++ t2.parts.drop (j + 1)).length = 0 by omega)]; rfl
   have hrow : Row txL (tx2.set i ({ t2 with parts := t2.parts.take j ++ t2.parts.drop (j + 1), A := A9, cap := c9, done := t2.state, state := 1 })) c2 cur13 := by have hr := row13; simp only [List.set_set] at hr; exact hr
   exact finCTn (cs0 := #[.int .i64 ck, .int .i64 nx, .int .i64 wt, .slice (some ⟨g, 0, none⟩) tx2.length c2]) (v1 := .int .i64 0) rfl agg_Coord rfl (H.ent (i := 0) rfl) rfl rfl ⟨⟨ck, nx, wt, tx2.set i ({ t2 with parts := t2.parts.take j ++ t2.parts.drop (j + 1), A := A9, cap := c9, done := t2.state, state := 1 }), some ⟨g, 0, none⟩, c2⟩, [(g, .cells cur13 T_Txn (0, 0))], (La ++ L9 ++ Lb), by unfold Co.v Co.c; dsimp only; rw [List.length_set], by unfold Co.a; dsimp only; rw [set_a hma i hX], Row.own hrow, hset { t2 with parts := t2.parts.take j ++ t2.parts.drop (j + 1), A := A9, cap := c9, done := t2.state, state := 1 } L9 ho9, by dsimp only; rw [List.length_set]; exact hoc2, caps_set2 hpc2 i (by exact hc9), H.forget (.cons _ (.cons _ (List.sublist_append_left _ _))) (by simp)⟩
  ·
   refine Zn<|ZF rfl<|Zk<|Zs<|Zr<|Zl (Zw agg_Coord H 1 rfl rfl rfl)<|stN H 0 (#[.int .i64 (ck), .int .i64 (nx), .int .i64 (wt), .slice (some ⟨g, 0, none⟩) tx2.length c2]) siz_Coord rfl rfl rfl rfl rfl (by kernel_rfl) (by kernel_rfl) fun w17 H =>Zl (Wi rfl)<|Zn<|Zt ?_
   have h72b : ¬ ((t2.parts.take j ++ t2.parts.drop (j + 1)).length : Int) = 0 := h72
   have hX : Tx.a ({ t2 with parts := t2.parts.take j ++ t2.parts.drop (j + 1), A := A9, cap := c9 }) = (doneTx p t).a := by rw [← done_a hta]; unfold doneTx; rw [← hdl]; rw [if_neg (by omega)]; rfl
   have hrow : Row txL (tx2.set i ({ t2 with parts := t2.parts.take j ++ t2.parts.drop (j + 1), A := A9, cap := c9 })) c2 cur7 := by exact row7
   exact finCTn (cs0 := #[.int .i64 ck, .int .i64 nx, .int .i64 wt, .slice (some ⟨g, 0, none⟩) tx2.length c2]) (v1 := .int .i64 0) rfl agg_Coord rfl (H.ent (i := 0) rfl) rfl rfl ⟨⟨ck, nx, wt, tx2.set i ({ t2 with parts := t2.parts.take j ++ t2.parts.drop (j + 1), A := A9, cap := c9 }), some ⟨g, 0, none⟩, c2⟩, [(g, .cells cur7 T_Txn (0, 0))], (La ++ L9 ++ Lb), by unfold Co.v Co.c; dsimp only; rw [List.length_set], by unfold Co.a; dsimp only; rw [set_a hma i hX], Row.own hrow, hset { t2 with parts := t2.parts.take j ++ t2.parts.drop (j + 1), A := A9, cap := c9 } L9 ho9, by dsimp only; rw [List.length_set]; exact hoc2, caps_set2 hpc2 i (by exact hc9), H.forget (.cons _ (.cons _ (List.sublist_append_left _ _))) (by simp)⟩
 ·
  refine Zl (Yb rfl)<|ZN<|ZN<|ZN<|ZN<|ZN<|Zl (Kf rfl rfl)<|Zn<|ZF rfl<|Zk<|Zs ?_
  have hrise := (partsOk_rise hpo).1
  have hfw := rise_few hpo
  rw [← hpt] at hrise hfw hpm
  obtain ⟨La, Lt, Lb, rfl, hot, hset⟩ := hp2.at_ ht2
  refine Zr<|Zl (Yp rfl)<|Zl (nck_r rfl)<|Zl (Zf fd_Txn_4 rfl)<|Zl (ldR_r one_Lint row ht2 4 rfl (H.ent (i := 2) rfl) rfl)<|Zl (Yi rfl)<|cal cb_slices_BinarySearch_Lint_int (bsearch_ok t2.parts p t2.A t2.cap _ ((hot.rd (K := [(b6, .cells #[.int .i64 (0), .int .i64 (0), .int .i64 (0), .slice none 0 0] T_Coord (0, 0)), (b3, .cells #[.int .i64 (ck), .int .i64 (nx), .int .i64 (wt), .slice (some ⟨g, 0, none⟩) tx2.length c2] T_Coord (0, 0)), (g, .cells cur T_Txn (0, 0))] ++ La) (M := Lb) (hp_in [(b6, .cells #[.int .i64 (0), .int .i64 (0), .int .i64 (0), .slice none 0 0] T_Coord (0, 0)), (b3, .cells #[.int .i64 (ck), .int .i64 (nx), .int .i64 (wt), .slice (some ⟨g, 0, none⟩) tx2.length c2] T_Coord (0, 0)), (g, .cells cur T_Txn (0, 0))] La Lt Lb H)).mono (Nat.zero_le _) (Nat.le_refl _)) (by omega) hrise) rfl rfl ?_
  rintro _ w18 ⟨j, rfl, hjl, hj1, hj2, hb⟩; replace H := H.later hb; clear hb
  have hjp := there hj2 hj1 hrise hpm
  rw [show decide (t2.parts[j]? = some p) = true from decide_eq_true hjp]
  have hdl := del_at hrise hjp
  have hjl2 := (getE hjp).1
  refine Zl (Yu rfl)<|Zl (Xi rfl rfl)<|Zl (Xb rfl rfl)<|Zl (Wi rfl)<|Zl (Wb rfl)<|Zn<|Zs<|Zs<|Zr<|Zl (Yb rfl)<|Zl (not_r rfl)<|Zn<|ZF rfl<|Zk ?_
  refine Zs<|Zr<|Zl (Yp rfl)<|Zl (Yp rfl)<|Zl (nck_r rfl)<|Zl (Zf fd_Txn_4 rfl)<|Zl (ldR_r one_Lint row ht2 4 rfl (H.ent (i := 2) rfl) rfl)<|Zl (Yi rfl)<|Zl (Yi rfl)<|Zl (add_r rfl rfl (by omega) (by omega))<|cal cb_slices_Delete_Lint_int (del_Lint_int (K := [(b6, .cells #[.int .i64 (0), .int .i64 (0), .int .i64 (0), .slice none 0 0] T_Coord (0, 0)), (b3, .cells #[.int .i64 (ck), .int .i64 (nx), .int .i64 (wt), .slice (some ⟨g, 0, none⟩) tx2.length c2] T_Coord (0, 0)), (g, .cells cur T_Txn (0, 0))] ++ La) (Lt := Lt) (M := Lb) (i := j) (j := j + 1) (hp_in [(b6, .cells #[.int .i64 (0), .int .i64 (0), .int .i64 (0), .slice none 0 0] T_Coord (0, 0)), (b3, .cells #[.int .i64 (ck), .int .i64 (nx), .int .i64 (wt), .slice (some ⟨g, 0, none⟩) tx2.length c2] T_Coord (0, 0)), (g, .cells cur T_Txn (0, 0))] La Lt Lb H) hot (by omega) hjl2 (by omega)) rfl rfl ?_
  rintro _ w19 ⟨A9, c9, L9, rfl, ho9, HI⟩; replace H : Hp w w19 ([(b6, .cells #[.int .i64 (0), .int .i64 (0), .int .i64 (0), .slice none 0 0] T_Coord (0, 0)), (b3, .cells #[.int .i64 (ck), .int .i64 (nx), .int .i64 (wt), .slice (some ⟨g, 0, none⟩) tx2.length c2] T_Coord (0, 0)), (g, .cells cur T_Txn (0, 0))] ++ ((La ++ L9 ++ Lb) ++ [])) [FRd txL 0 w.heap.size cA txs, FParts 0 w.heap.size txs] := hp_out [(b6, .cells #[.int .i64 (0), .int .i64 (0), .int .i64 (0), .slice none 0 0] T_Coord (0, 0)), (b3, .cells #[.int .i64 (ck), .int .i64 (nx), .int .i64 (wt), .slice (some ⟨g, 0, none⟩) tx2.length c2] T_Coord (0, 0)), (g, .cells cur T_Txn (0, 0))] La L9 Lb HI
  have hc9 : (t2.parts.take j ++ t2.parts.drop (j + 1)).length ≤ c9 := by obtain ⟨_, _, e, h, _⟩ := ho9.form; injection e with _ _ e; rw [e]; exact h
  refine Zl (nck_r rfl)<|Zl (Zf fd_Txn_4 rfl)<|stR H 2 ({ t2 with parts := t2.parts.take j ++ t2.parts.drop (j + 1), A := A9, cap := c9 }) siz_Lint row ht2 4 rfl rfl rfl rfl rfl rfl (by kernel_rfl) fun w21 cur20 row20 H => ?_
  have hs22 : (tx2.set i ({ t2 with parts := t2.parts.take j ++ t2.parts.drop (j + 1), A := A9, cap := c9 }))[i]? = some ({ t2 with parts := t2.parts.take j ++ t2.parts.drop (j + 1), A := A9, cap := c9 }) := List.getElem?_set_self (getE ht2).1
  refine Zn<|Zs<|Zs<|Zr<|Zl (Yp rfl)<|Zl (nck_r rfl)<|Zl (Zf fd_Txn_4 rfl)<|Zl (ldR_r one_Lint row20 hs22 4 rfl (H.ent (i := 2) rfl) rfl)<|Zl (lenS_r len_Lint rfl) ?_
  refine lwD (eql_r rfl rfl) rfl rfl rfl (fun h72 => ?_) (fun h72 => ?_)
  ·
   refine Zn<|ZT rfl<|Zr<|Zl (Yp rfl)<|Zl (Yp rfl)<|Zl (Yp rfl)<|Zl (nck_r rfl)<|Zl (Zf fd_Txn_3 rfl)<|Zl (ldR_r one_int row20 hs22 3 rfl (H.ent (i := 2) rfl) rfl)<|Zl (nck_r rfl)<|Zl (Zf fd_Txn_3 rfl)<|stR H 2 ({ ({ t2 with parts := t2.parts.take j ++ t2.parts.drop (j + 1), A := A9, cap := c9 }) with state := 1 }) siz_int row20 hs22 3 rfl rfl rfl rfl rfl rfl (by kernel_rfl) fun w24 cur23 row23 H => ?_
   have hs25 : ((tx2.set i ({ t2 with parts := t2.parts.take j ++ t2.parts.drop (j + 1), A := A9, cap := c9 })).set i ({ ({ t2 with parts := t2.parts.take j ++ t2.parts.drop (j + 1), A := A9, cap := c9 }) with state := 1 }))[i]? = some ({ ({ t2 with parts := t2.parts.take j ++ t2.parts.drop (j + 1), A := A9, cap := c9 }) with state := 1 }) := List.getElem?_set_self (getE hs22).1
   refine Zl (nck_r rfl)<|Zl (Zf fd_Txn_6 rfl)<|stR H 2 ({ ({ ({ t2 with parts := t2.parts.take j ++ t2.parts.drop (j + 1), A := A9, cap := c9 }) with state := 1 }) with done := ({ t2 with parts := t2.parts.take j ++ t2.parts.drop (j + 1), A := A9, cap := c9 }).state }) siz_int row23 hs25 6 rfl rfl rfl rfl rfl rfl (by kernel_rfl) fun w27 cur26 row26 H => ?_
   have hs28 : (((tx2.set i ({ t2 with parts := t2.parts.take j ++ t2.parts.drop (j + 1), A := A9, cap := c9 })).set i ({ ({ t2 with parts := t2.parts.take j ++ t2.parts.drop (j + 1), A := A9, cap := c9 }) with state := 1 })).set i ({ ({ ({ t2 with parts := t2.parts.take j ++ t2.parts.drop (j + 1), A := A9, cap := c9 }) with state := 1 }) with done := ({ t2 with parts := t2.parts.take j ++ t2.parts.drop (j + 1), A := A9, cap := c9 }).state }))[i]? = some ({ ({ ({ t2 with parts := t2.parts.take j ++ t2.parts.drop (j + 1), A := A9, cap := c9 }) with state := 1 }) with done := ({ t2 with parts := t2.parts.take j ++ t2.parts.drop (j + 1), A := A9, cap := c9 }).state }) := List.getElem?_set_self (getE hs25).1
   refine Zn<|Zs<|Zr<|Zl (Zw agg_Coord H 1 rfl rfl rfl)<|stN H 0 (#[.int .i64 (ck), .int .i64 (nx), .int .i64 (wt), .slice (some ⟨g, 0, none⟩) tx2.length c2]) siz_Coord rfl rfl rfl rfl rfl (by kernel_rfl) (by kernel_rfl) fun w29 H =>Zl (Wi rfl)<|Zn<|Zt ?_
   have h72b : ((t2.parts.take j ++ t2.parts.drop (j + 1)).length : Int) = 0 := h72
   have hX : Tx.a ({ t2 with parts := t2.parts.take j ++ t2.parts.drop (j + 1), A := A9, cap := c9, done := t2.state, state := 1 }) = (doneTx p t).a := by rw [← done_a hta]; unfold doneTx; rw [← hdl]; rw [if_pos (by omega), List.eq_nil_of_length_eq_zero (show (t2.parts.take j ++ t2.parts.drop (j + 1)).length = 0 by omega)]; rfl
   have hrow : Row txL (tx2.set i ({ t2 with parts := t2.parts.take j ++ t2.parts.drop (j + 1), A := A9, cap := c9, done := t2.state, state := 1 })) c2 cur26 := by have hr := row26; simp only [List.set_set] at hr; exact hr
   exact finCTn (cs0 := #[.int .i64 ck, .int .i64 nx, .int .i64 wt, .slice (some ⟨g, 0, none⟩) tx2.length c2]) (v1 := .int .i64 0) rfl agg_Coord rfl (H.ent (i := 0) rfl) rfl rfl ⟨⟨ck, nx, wt, tx2.set i ({ t2 with parts := t2.parts.take j ++ t2.parts.drop (j + 1), A := A9, cap := c9, done := t2.state, state := 1 }), some ⟨g, 0, none⟩, c2⟩, [(g, .cells cur26 T_Txn (0, 0))], (La ++ L9 ++ Lb), by unfold Co.v Co.c; dsimp only; rw [List.length_set], by unfold Co.a; dsimp only; rw [set_a hma i hX], Row.own hrow, hset { t2 with parts := t2.parts.take j ++ t2.parts.drop (j + 1), A := A9, cap := c9, done := t2.state, state := 1 } L9 ho9, by dsimp only; rw [List.length_set]; exact hoc2, caps_set2 hpc2 i (by exact hc9), H.forget (.cons _ (.cons _ (List.sublist_append_left _ _))) (by simp)⟩
  ·
   refine Zn<|ZF rfl<|Zk<|Zs<|Zr<|Zl (Zw agg_Coord H 1 rfl rfl rfl)<|stN H 0 (#[.int .i64 (ck), .int .i64 (nx), .int .i64 (wt), .slice (some ⟨g, 0, none⟩) tx2.length c2]) siz_Coord rfl rfl rfl rfl rfl (by kernel_rfl) (by kernel_rfl) fun w30 H =>Zl (Wi rfl)<|Zn<|Zt ?_
   have h72b : ¬ ((t2.parts.take j ++ t2.parts.drop (j + 1)).length : Int) = 0 := h72
   have hX : Tx.a ({ t2 with parts := t2.parts.take j ++ t2.parts.drop (j + 1), A := A9, cap := c9 }) = (doneTx p t).a := by rw [← done_a hta]; unfold doneTx; rw [← hdl]; rw [if_neg (by omega)]; rfl
   have hrow : Row txL (tx2.set i ({ t2 with parts := t2.parts.take j ++ t2.parts.drop (j + 1), A := A9, cap := c9 })) c2 cur20 := by exact row20
   exact finCTn (cs0 := #[.int .i64 ck, .int .i64 nx, .int .i64 wt, .slice (some ⟨g, 0, none⟩) tx2.length c2]) (v1 := .int .i64 0) rfl agg_Coord rfl (H.ent (i := 0) rfl) rfl rfl ⟨⟨ck, nx, wt, tx2.set i ({ t2 with parts := t2.parts.take j ++ t2.parts.drop (j + 1), A := A9, cap := c9 }), some ⟨g, 0, none⟩, c2⟩, [(g, .cells cur20 T_Txn (0, 0))], (La ++ L9 ++ Lb), by unfold Co.v Co.c; dsimp only; rw [List.length_set], by unfold Co.a; dsimp only; rw [set_a hma i hX], Row.own hrow, hset { t2 with parts := t2.parts.take j ++ t2.parts.drop (j + 1), A := A9, cap := c9 } L9 ho9, by dsimp only; rw [List.length_set]; exact hoc2, caps_set2 hpc2 i (by exact hc9), H.forget (.cons _ (.cons _ (List.sublist_append_left _ _))) (by simp)⟩
end Go.Proofs.Ytemnchkebhclpaa
end

section
namespace Go.Proofs.Ytemnchkebhclpaa
open Go Go.Eng Go.RowKit
set_option linter.unusedSimpArgs false
set_option maxHeartbeats 4000000 in
set_option maxRecDepth 10000 in
theorem init_state (c : Co) (s : ByteArray) (i : Nat) (t : Tx) (w : World) (h : c.rd 0 w.heap.size w) (hok : coOk c = true) (hn : nameOk s = true) (hi : nameIdx c s = i) (ht : c.txs[i]? = some t) (h34 : t.state = 3 ∨ t.state = 4) : Ret Try.prog i_coord_Init [c.v, .string s] w fun v w2 => v = .tuple #[.agg #[.int .i64 0, .int .i64 0, .int .i64 0, .slice none 0 0], .int .i64 0, .int .i64 0, .int .i64 12] ∧ Below w.heap.size w w2 := by
 refine ret_of fn_coord_Init rfl rfl ?_
 have hcap := h.cap
 have hfew := h.few
 have hfp := h.fewP
 have H := Hp.startCo h
 obtain ⟨ck, nx, wt, txs, cA, cc⟩ := c
 dsimp only at hcap hfew hfp H
 show CW _ _ _ _ (args [.agg #[.int .i64 ck, .int .i64 nx, .int .i64 wt, .slice cA txs.length cc], .string s]) w
 dsimp only at ht
 refine Zs<|Zr<|bxA H rfl rfl fun w1 b2 H =>alo H z_Coord rfl fun w2 b4 H =>Zl (Wi rfl)<|Zl (Wi rfl)<|Zl (Wi rfl)<|Zn<|Zs<|Zr<|Zl (Zw agg_Coord H 1 rfl rfl rfl)<|Zl (Yt rfl)<|cal cb_coord_find (coFindO_ok ⟨ck, nx, wt, txs, cA, cc⟩ s _ ⟨H.rd0 0 rfl, fun t ht => parts0 H 1 rfl ht, hcap, hfew, hfp⟩ hok hn) rfl rfl ?_
 rintro _ w3 ⟨⟨ck2, nx2, wt2, tx2, A2, c2⟩, Lr, Lp, rfl, ha2, ho2, hp2, hoc2, hpc2, hj2⟩
 replace H := H.joinR hj2; clear hj2
 simp only [Co.a, Co.mk.injEq] at ha2
 obtain ⟨e1, e2, e3, hma, -, -⟩ := ha2
 obtain rfl : ck = ck2 := e1.symm
 obtain rfl : nx = nx2 := e2.symm
 obtain rfl : wt = wt2 := e3.symm
 dsimp only at ho2 hp2 hoc2 hpc2 H
 obtain ⟨t2, ht2, hta⟩ := map_at hma ht
 have hl2 := (getE ht2).1
 obtain ⟨g, cur, rfl, rfl, row⟩ := ho2.row (by omega)
 have hst : t2.state = t.state := by show t2.a.state = t.a.state; rw [hta]
 have hdn : t2.done = t.done := by show t2.a.done = t.a.done; rw [hta]
 have hpt : t2.parts = t.parts := by show t2.a.parts = t.a.parts; rw [hta]
 rw [hi]
 refine Zl (Yu rfl)<|Zl (Xa rfl rfl)<|Zl (Xi rfl rfl)<|Zl (Xi rfl rfl)<|stN H 1 (#[.int .i64 (ck), .int .i64 (nx), .int .i64 (wt), .slice (some ⟨g, 0, none⟩) tx2.length c2]) siz_Coord rfl rfl rfl rfl rfl (by kernel_rfl) (by kernel_rfl) fun w4 H =>Zl (Wi rfl)<|Zl (Wi rfl)<|Zn<|Zs<|Zs<|Zr<|Zl (Yi rfl)<|Zl (neqF_r rfl rfl rfl)<|Zn ?_
 refine ZF rfl<|Zk<|Zs<|Zs<|Zr<|Zl (Yi rfl)<|Zl (lssF_r rfl rfl (by omega))<|Zn<|ZF rfl<|Zk<|Zs<|Zr<|Zl (Zf fd_Coord_3 rfl)<|Zl (Zd one_LTxn H 1 rfl rfl rfl) ?_
 refine Zl (Yi rfl)<|Zl (ixR_r sl_LTxn rfl rfl (by first | omega | (simp only [List.length_set]; omega)))<|Zl (Wp rfl)<|Zn<|Zs<|Zb<|Zs<|Zr<|Zl (Yp rfl)<|Zl (nck_r rfl)<|Zl (Zf fd_Txn_3 rfl)<|Zl (ldR_r one_int row ht2 3 rfl (H.ent (i := 2) rfl) rfl) ?_
 refine lwD (eql_r rfl rfl) rfl rfl rfl (fun h60 => ?_) (fun h60 => ?_)
 ·
  refine Zl (Yb rfl)<|ZN<|ZN<|ZN<|ZN<|ZN<|Zl (Kt rfl rfl)<|Zl (Wb rfl)<|Zn<|ZT rfl<|Zs<|Zr<|Zl (bld_r (cs := #[.int .i64 (0), .int .i64 (0), .int .i64 (0), .slice none 0 0]) st_Coord z_Coord (by kernel_rfl))<|stN H 0 (#[.int .i64 (0), .int .i64 (0), .int .i64 (0), .slice none 0 0]) siz_Coord rfl rfl rfl rfl rfl (by kernel_rfl) (by kernel_rfl) fun w5 H => ?_
  refine Zl (Wi rfl)<|Zl (Wi rfl)<|Zl (Wi rfl)<|Zn<|Zt ?_
  exact finCTTT (cs0 := #[.int .i64 0, .int .i64 0, .int .i64 0, .slice none 0 0]) (v1 := .int .i64 0) (v2 := .int .i64 0) (v3 := .int .i64 12) rfl agg_Coord rfl (H.ent (i := 0) rfl) rfl rfl rfl rfl ⟨rfl, H.below⟩
 ·
  refine Zl (Yb rfl)<|ZG<|Zl (Yp rfl)<|ZG<|Zl (nck_r rfl)<|ZG<|Zl (Zf fd_Txn_3 rfl)<|ZG<|Zl (ldR_r one_int row ht2 3 rfl (H.ent (i := 2) rfl) rfl)<|ZG<|Zl (eqlT_r rfl rfl (by omega))<|Zl (Kf rfl rfl)<|Zl (Wb rfl)<|Zn ?_
  refine ZT rfl<|Zs<|Zr<|Zl (bld_r (cs := #[.int .i64 (0), .int .i64 (0), .int .i64 (0), .slice none 0 0]) st_Coord z_Coord (by kernel_rfl))<|stN H 0 (#[.int .i64 (0), .int .i64 (0), .int .i64 (0), .slice none 0 0]) siz_Coord rfl rfl rfl rfl rfl (by kernel_rfl) (by kernel_rfl) fun w6 H =>Zl (Wi rfl)<|Zl (Wi rfl)<|Zl (Wi rfl)<|Zn<|Zt ?_
  exact finCTTT (cs0 := #[.int .i64 0, .int .i64 0, .int .i64 0, .slice none 0 0]) (v1 := .int .i64 0) (v2 := .int .i64 0) (v3 := .int .i64 12) rfl agg_Coord rfl (H.ent (i := 0) rfl) rfl rfl rfl rfl ⟨rfl, H.below⟩
set_option maxHeartbeats 4000000 in
set_option maxRecDepth 10000 in
theorem end_none (c : Co) (s : ByteArray) (ver : Int) (b : Bool) (w : World) (h : c.rd 0 w.heap.size w) (hok : coOk c = true) (hn : nameOk s = true) (hi : nameIdx c s = -1) : Ret Try.prog i_coord_End [c.v, .string s, .int .i64 ver, .bool b] w fun v w2 => v = .tuple #[.agg #[.int .i64 0, .int .i64 0, .int .i64 0, .slice none 0 0], .int .i64 5] ∧ Below w.heap.size w w2 := by
 refine ret_of fn_coord_End rfl rfl ?_
 have hcap := h.cap
 have hfew := h.few
 have hfp := h.fewP
 have H := Hp.startCo h
 obtain ⟨ck, nx, wt, txs, cA, cc⟩ := c
 dsimp only at hcap hfew hfp H
 show CW _ _ _ _ (args [.agg #[.int .i64 ck, .int .i64 nx, .int .i64 wt, .slice cA txs.length cc], .string s, .int .i64 ver, .bool b]) w
 refine Zs<|Zr<|bxA H rfl rfl fun w1 b4 H =>alo H z_Coord rfl fun w2 b8 H =>Zl (Wi rfl)<|Zn<|Zs<|Zr<|Zl (Zw agg_Coord H 1 rfl rfl rfl)<|Zl (Yt rfl)<|Zl (Yi rfl)<|cal cb_coord_known (known_none ⟨ck, nx, wt, txs, cA, cc⟩ s ver _ ⟨H.rd0 0 rfl, fun t ht => parts0 H 1 rfl ht, hcap, hfew, hfp⟩ hok hn hi) rfl rfl ?_
 rintro _ w3 ⟨rfl, hb⟩; replace H := H.later hb; clear hb
 refine Zl (Yu rfl)<|Zl (Xa rfl rfl)<|Zl (Xi rfl rfl)<|Zl (Xi rfl rfl)<|stN H 1 (#[.int .i64 (0), .int .i64 (0), .int .i64 (0), .slice none 0 0]) siz_Coord rfl rfl rfl rfl rfl (by kernel_rfl) (by kernel_rfl) fun w4 H =>Zl (Wi rfl)<|Zl (Wi rfl)<|Zn<|Zs<|Zs<|Zr<|Zl (Yi rfl)<|Zl (neqT_r rfl rfl (by decide))<|Zn ?_
 refine ZT rfl<|Zs<|Zr<|Zl (bld_r (cs := #[.int .i64 (0), .int .i64 (0), .int .i64 (0), .slice none 0 0]) st_Coord z_Coord (by kernel_rfl))<|Zl (Yi rfl)<|stN H 0 (#[.int .i64 (0), .int .i64 (0), .int .i64 (0), .slice none 0 0]) siz_Coord rfl rfl rfl rfl rfl (by kernel_rfl) (by kernel_rfl) fun w5 H =>Zl (Wi rfl)<|Zn<|Zt ?_
 exact finCTn (cs0 := #[.int .i64 0, .int .i64 0, .int .i64 0, .slice none 0 0]) (v1 := .int .i64 5) rfl agg_Coord rfl (H.ent (i := 0) rfl) rfl rfl ⟨rfl, H.below⟩
set_option maxHeartbeats 4000000 in
set_option maxRecDepth 10000 in
theorem end_fence (c : Co) (s : ByteArray) (ver : Int) (b : Bool) (i : Nat) (t : Tx) (w : World) (h : c.rd 0 w.heap.size w) (hok : coOk c = true) (hn : nameOk s = true) (hi : nameIdx c s = i) (ht : c.txs[i]? = some t) (hv : t.ver ≠ ver) : Ret Try.prog i_coord_End [c.v, .string s, .int .i64 ver, .bool b] w fun v w2 => v = .tuple #[.agg #[.int .i64 0, .int .i64 0, .int .i64 0, .slice none 0 0], .int .i64 10] ∧ Below w.heap.size w w2 := by
 refine ret_of fn_coord_End rfl rfl ?_
 have hcap := h.cap
 have hfew := h.few
 have hfp := h.fewP
 have H := Hp.startCo h
 obtain ⟨ck, nx, wt, txs, cA, cc⟩ := c
 dsimp only at hcap hfew hfp H
 show CW _ _ _ _ (args [.agg #[.int .i64 ck, .int .i64 nx, .int .i64 wt, .slice cA txs.length cc], .string s, .int .i64 ver, .bool b]) w
 dsimp only at ht
 refine Zs<|Zr<|bxA H rfl rfl fun w1 b4 H =>alo H z_Coord rfl fun w2 b8 H =>Zl (Wi rfl)<|Zn<|Zs<|Zr<|Zl (Zw agg_Coord H 1 rfl rfl rfl)<|Zl (Yt rfl)<|Zl (Yi rfl)<|cal cb_coord_known (known_fence ⟨ck, nx, wt, txs, cA, cc⟩ s ver i t _ ⟨H.rd0 0 rfl, fun t ht => parts0 H 1 rfl ht, hcap, hfew, hfp⟩ hok hn hi ht hv) rfl rfl ?_
 rintro _ w3 ⟨rfl, hb⟩; replace H := H.later hb; clear hb
 refine Zl (Yu rfl)<|Zl (Xa rfl rfl)<|Zl (Xi rfl rfl)<|Zl (Xi rfl rfl)<|stN H 1 (#[.int .i64 (0), .int .i64 (0), .int .i64 (0), .slice none 0 0]) siz_Coord rfl rfl rfl rfl rfl (by kernel_rfl) (by kernel_rfl) fun w4 H =>Zl (Wi rfl)<|Zl (Wi rfl)<|Zn<|Zs<|Zs<|Zr<|Zl (Yi rfl)<|Zl (neqT_r rfl rfl (by decide))<|Zn ?_
 refine ZT rfl<|Zs<|Zr<|Zl (bld_r (cs := #[.int .i64 (0), .int .i64 (0), .int .i64 (0), .slice none 0 0]) st_Coord z_Coord (by kernel_rfl))<|Zl (Yi rfl)<|stN H 0 (#[.int .i64 (0), .int .i64 (0), .int .i64 (0), .slice none 0 0]) siz_Coord rfl rfl rfl rfl rfl (by kernel_rfl) (by kernel_rfl) fun w5 H =>Zl (Wi rfl)<|Zn<|Zt ?_
 exact finCTn (cs0 := #[.int .i64 0, .int .i64 0, .int .i64 0, .slice none 0 0]) (v1 := .int .i64 10) rfl agg_Coord rfl (H.ent (i := 0) rfl) rfl rfl ⟨rfl, H.below⟩
set_option maxHeartbeats 4000000 in
set_option maxRecDepth 10000 in
theorem tick_far (c : Co) (n : Int) (w : World) (h : c.rd 0 w.heap.size w) (hok : coOk c = true) (hn : 1000 < n) : Ret Try.prog i_coord_Tick [c.v, .int .i64 n] w fun v w2 => v = .tuple #[.agg #[.int .i64 0, .int .i64 0, .int .i64 0, .slice none 0 0], .int .i64 2] ∧ Below w.heap.size w w2 := by
 refine ret_of fn_coord_Tick rfl rfl ?_
 have hcap := h.cap
 have hfew := h.few
 have hfp := h.fewP
 have H := Hp.startCo h
 obtain ⟨ck, nx, wt, txs, cA, cc⟩ := c
 dsimp only at hcap hfew hfp H
 show CW _ _ _ _ (args [.agg #[.int .i64 ck, .int .i64 nx, .int .i64 wt, .slice cA txs.length cc], .int .i64 n]) w
 refine Zs<|Zr<|bxA H rfl rfl fun w1 b2 H =>alo H z_Coord rfl fun w2 b4 H =>Zl (Wi rfl)<|Zn<|Zs<|Zs<|Zr<|Zl (Zw agg_Coord H 1 rfl rfl rfl)<|cal cb_coord_Check (coCheck_ok ⟨ck, nx, wt, txs, cA, cc⟩ _ ⟨H.rd0 0 rfl, fun t ht => parts0 H 1 rfl ht, hcap, hfew, hfp⟩) rfl rfl ?_
 rw [hok]
 rintro _ w3 ⟨rfl, hb⟩; replace H := H.later hb; clear hb
 refine Zl (Wi rfl)<|Zn<|Zs<|Zr<|Zl (Yi rfl)<|Zl (neqF_r rfl rfl rfl)<|Zn<|ZF rfl<|Zk<|Zs<|Zs<|Zr<|Zl (Yi rfl)<|Zl (lssF_r rfl rfl (by omega)) ?_
 refine Zl (Yb rfl)<|ZG<|Zl (Yi rfl)<|ZG<|Zl (gtrT_r rfl rfl (by omega))<|Zl (Kf rfl rfl)<|Zl (Yb rfl)<|ZN<|ZN<|ZN<|ZN<|ZN<|Zl (Kt rfl rfl)<|Zn ?_
 refine ZT rfl<|Zs<|Zr<|Zl (bld_r (cs := #[.int .i64 (0), .int .i64 (0), .int .i64 (0), .slice none 0 0]) st_Coord z_Coord (by kernel_rfl))<|stN H 0 (#[.int .i64 (0), .int .i64 (0), .int .i64 (0), .slice none 0 0]) siz_Coord rfl rfl rfl rfl rfl (by kernel_rfl) (by kernel_rfl) fun w4 H =>Zl (Wi rfl)<|Zn<|Zt ?_
 exact finCTn (cs0 := #[.int .i64 0, .int .i64 0, .int .i64 0, .slice none 0 0]) (v1 := .int .i64 2) rfl agg_Coord rfl (H.ent (i := 0) rfl) rfl rfl ⟨rfl, H.below⟩
end Go.Proofs.Ytemnchkebhclpaa
end
