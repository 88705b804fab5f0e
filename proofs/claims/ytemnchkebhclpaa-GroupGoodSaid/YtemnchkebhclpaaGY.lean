/- GY: a part of the proofs over this seat: what stands in its theorems holds for every input that they name. -/
import Derived.Test.YtemnchkebhclpaaGG
import Derived.Test.YtemnchkebhclpaaEngZ
open Go.Eng renaming lw_nil → Zn, cw_seq → Zs, cw_region → Zr, cw_skip → Zk, cw_ret → Zt, cw_block → Zb, cw_exit → Zx, mvI_r → Yi, mvB_r → Yb, mvS_r → Ys, mvP_r → Yp, mvT_r → Yt, mvU_r → Yu, mvA_r → Ya, asI_r → Wi, asB_r → Wb, asS_r → Ws, asP_r → Wp, asT_r → Wt, fad_r → Zf, exI_r → Xi, exA_r → Xa, exB_r → Xb, exS_r → Xs, pkTB_r → Kt, pkFB_r → Kf, cw_true → ZT, cw_false → ZF
section
namespace Go.Eng
open Go Go.RowKit
section
variable {P : Program} {n : Nat} {ρ : Env} {w : World} {ops : Array Oper} {d : Nat} {t : TypeId} {p : String} {af : Array Edge} {g : Option (Nat × Bool)}
variable {C : Fct} {lo pu : List Nat} {spec : Nat → Value → Fct} {T : Env → Fct → Prop} {r : List Nat} {Fc : Fct} {i : Nat}
/-- a call of a function value, in a region that draws, that yields one known value -/
theorem awCalFV {u : Value} {f : FuncId} {x : Operand} {xs : List Operand} {ats : Array TypeId} {cap vs : List Value} (hf : callB P f = true) (hx : ev ρ x = .func (.func f) #[] cap.toArray) (hi : ops[i]? = some (Og (some d) (.call { callee := .value x, args := xs.toArray, argTypes := ats }) t p af g)) (hw : wantE ops ρ (Og (some d) (.call { callee := .value x, args := xs.toArray, argTypes := ats }) t p af g) = true) (hl : lo.contains i = true) (hdn : Nat.blt d n = true)
  (hs : spec i = fun v _ => v = u) (hc : ∀ w', C w' → Ret P f vs w' fun v w2 => v = u ∧ Below w'.heap.size w' w2) (hv : xs.map (ev ρ) ++ cap = vs)
  (h : AW P n ops C lo pu spec T r (upd ρ d u) (fun w => Fc w ∧ True)) : AW P n ops C lo pu spec T (i :: r) ρ Fc :=
 awL hi hw hl rfl hdn (fun a ha w' hcw => by
  unfold exA
  have hr : (execOp a.eval (Og (some d) (.call { callee := .value x, args := xs.toArray, argTypes := ats }) t p af g)).run P w' = .ok (.enter f vs.toArray) w' := by
   rw [ha.eval]; subst hv
   simp [execOp, resolve, hx, Deferred.ofValue, invoke, run_callFunc hf]
  rw [hr]
  exact ⟨rfl, Calls.mono (hc w' hcw) fun e w2 ⟨v, he, h1, h2⟩ => ⟨v, he, h2, by rw [hs]; exact h1⟩⟩) fun v ⟨w', _, hv'⟩ => by
  rw [hs] at hv' ⊢
  subst hv'
  simpa using h
end
end Go.Eng
namespace Go.Proofs.Ytemnchkebhclpaa
open Go Go.Eng Go.RowKit
set_option linter.unusedSimpArgs false
/-- a comparing function's answer says less or not -/
def ltC (cmpv : Int → Int → Int) (a b : Int) : Bool := decide (cmpv a b < 0)
set_option maxHeartbeats 4000000 in
set_option maxRecDepth 10000 in
theorem insCmp_ok {w0 w : World} {M : List (Nat × Obj)} {F : List Fact} {g n : Nat} {u : Array Value} (es : List Int) (c : Nat) (H : Hp w0 w ((g, .cells u T_int (0, 0)) :: M) F) (row : Row intL es c u) (hn : n = es.length) (h12 : es.length ≤ 19) {f : FuncId} {cap : List Value} (hf : callB Try.prog f = true) (cmpv : Int → Int → Int) (hp : ∀ a b : Int, a ∈ es → b ∈ es → ∀ (w' : World) (u' : Array Value), Hp w0 w' ((g, .cells u' T_int (0, 0)) :: M) F → Ret Try.prog f (.int .i64 a :: .int .i64 b :: cap) w' fun v w2 => v = .int .i64 (cmpv a b) ∧ Below w'.heap.size w' w2) :
  Ret Try.prog i_slices_insertionSortCmpFunc_int [.slice (some ⟨g, 0, none⟩) n c, .int .i64 0, .int .i64 (n : Nat), .func (.func f) #[] cap.toArray] w fun v w2 => ∃ u2, v = .tuple #[] ∧ Row intL (isortN (ltC cmpv) n es) c u2 ∧ Hp w0 w2 ((g, .cells u2 T_int (0, 0)) :: M) F := by
 refine ret_of fn_slices_insertionSortCmpFunc_int rfl rfl ?_
 have hle := row.le
 refine Zs<|Zr<|Zl (Yi rfl)<|Zl (add_r rfl rfl (by omega) (by omega))<|Zl (Wi rfl)<|Zn<|Zb ?_
 refine cw_loop (τ := Nat × List Int × Array Value) [8, 9, 12, 13, 14, 15, 16, 17, 18, 19, 20, 21, 22, 23, 24, 25, 26, 27, 28, 29, 30, 31, 32, 33, 34, 35, 36, 37, 38, 39, 40, 41, 42, 43, 44, 45, 46, 47, 48, 49, 50, 51, 52] (fun (i, _, _) => [(8, .int .i64 (i : Nat))]) (fun (i, l, u1) w' => 1 ≤ i ∧ i ≤ n + 1 ∧ (n ≠ 0 → i ≤ n) ∧ l = isortN (ltC cmpv) i es ∧ (∀ y ∈ l, y ∈ es) ∧ Row intL l c u1 ∧ Hp w0 w' ((g, .cells u1 T_int (0, 0)) :: M) F) (fun (i, _) => n + 1 - i) (1, es, u) ⟨by omega, by omega, by omega, rfl, fun _ h => h, row, H⟩ (sl1 rfl) ?_
 rintro ⟨i, l, u1⟩ ρ1 w1 ⟨hi1, hin, hi0, hl, hle1, row1, H⟩
 show CW _ _ _ _ (updL (ovr _ _ ρ1) [(8, .int .i64 (i : Nat))]) w1
 have hll : l.length = n := by rw [hl, isortN_len, hn]
 refine Zs<|Zs<|Zr<|Zl (Yi rfl)<|Zl (Yi rfl) ?_
 refine lwD (lss_r rfl rfl) rfl rfl rfl (fun h14 => ?_) (fun h14 => ?_)
 ·
  refine Zn<|ZT rfl<|Zk<|Zs<|Zb<|Zs<|Zr<|Zl (Yi rfl)<|Zl (Wi rfl)<|Zn<|Zb ?_
  refine cw_loop (τ := Nat × List Int × Array Value) [9, 18, 19, 20, 21, 22, 23, 24, 25, 26, 27, 28, 29, 30, 31, 32, 33, 34, 35, 36, 37, 38, 39, 40, 41, 42, 43, 44, 45, 46, 47, 48, 49, 50, 51, 52] (fun (j, _, _) => [(9, .int .i64 (j : Nat))]) (fun (j, m, u2) w' => j ≤ i ∧ m.length = n ∧ sink (ltC cmpv) j m = isortN (ltC cmpv) (i + 1) es ∧ (∀ y ∈ m, y ∈ es) ∧ Row intL m c u2 ∧ Hp w0 w' ((g, .cells u2 T_int (0, 0)) :: M) F) (fun (j, _) => j) (i, l, u1) ⟨by omega, hll, by rw [hl]; rfl, hle1, row1, H⟩ (sl1 rfl) ?_
  rintro ⟨j, m, u2⟩ ρ2 w2 ⟨hj, hml, hm, hle2, row2, H⟩
  show CW _ _ _ _ (updL (ovr _ _ ρ2) [(9, .int .i64 (j : Nat))]) w2
  refine Zs<|Zs ?_
   
  obtain ⟨a, ha0⟩ : ∃ a, a = m.getD (j - 1) 0 := ⟨_, rfl⟩
  obtain ⟨b, hb0⟩ : ∃ b, b = m.getD j 0 := ⟨_, rfl⟩
  refine cw_draw mixed [0, 1, 2, 3, 4, 5, 6, 7, 8, 9, 10, 11, 12, 13, 14, 15, 16] [] [14] [0, 1, 2, 3, 4, 5, 6, 7, 9, 10, 11, 12, 15, 16] (sp [(14, Sp.one (.int .i64 (cmpv b a)))]) (by kernel_rfl) (by kernel_rfl) (by kernel_rfl) (by kernel_rfl) (fun _ _ _ h => h) (sp_st _) ?_
  refine aw rfl rfl rfl rfl rfl (fun w' hw' => Yi rfl)<|aw rfl rfl rfl rfl rfl (fun w' hw' => Yi rfl) ?_
  refine awD rfl rfl rfl rfl rfl (fun w' hw' => gtr_r rfl rfl) (fun h20 => ?_) (fun h20 => ?_)
  ·
   obtain ⟨q, rfl⟩ : ∃ q, j = q + 1 := ⟨j - 1, by omega⟩
   have ha : m[q]? = some a := by rw [ha0]; exact getD_some 0 (by omega)
   have hb : m[q + 1]? = some b := by rw [hb0]; exact getD_some 0 (by omega)
   have ha2 : (m.set (q + 1) a)[q]? = some a := by rw [List.getElem?_set_ne (by omega)]; exact ha
   have hma := hle2 a (List.mem_of_getElem? ha)
   have hmb := hle2 b (List.mem_of_getElem? hb)
   refine aw rfl rfl rfl rfl rfl (fun w' hw' => Yb rfl)<|aw rfl rfl rfl rfl rfl (fun w' hw' => mvF_r rfl)<|aw rfl rfl rfl rfl rfl (fun w' hw' => Ys rfl)<|aw rfl rfl rfl rfl rfl (fun w' hw' => Yi rfl)<|aw rfl rfl rfl rfl rfl (fun w' hw' => ixR_r sl_Lint rfl rfl (by first | omega | (simp only [List.length_set]; omega)))<|aw rfl rfl rfl rfl rfl (fun w' hw' => ldR_r one_int row2 hb 0 rfl ((H.later hw').ent (i := 0) rfl) rfl)<|aw rfl rfl rfl rfl rfl (fun w' hw' => Ys rfl)<|aw rfl rfl rfl rfl rfl (fun w' hw' => Yi rfl)<|aw rfl rfl rfl rfl rfl (fun w' hw' => subE_r ((q : Nat) : Int) rfl rfl (by omega) (by omega) (by omega))<|aw rfl rfl rfl rfl rfl (fun w' hw' => ixR_r sl_Lint rfl rfl (by first | omega | (simp only [List.length_set]; omega)))<|aw rfl rfl rfl rfl rfl (fun w' hw' => ldR_r one_int row2 ha 0 rfl ((H.later hw').ent (i := 0) rfl) rfl)<|awCalFV hf rfl rfl rfl rfl rfl rfl (fun w' hw' => hp b a hmb hma w' u2 (H.later hw')) rfl ?_
   refine awD rfl rfl rfl rfl rfl (fun w' hw' => lss_r rfl rfl) (fun h33 => ?_) (fun h33 => ?_)
   ·
    refine aw rfl rfl rfl rfl rfl (fun w' hw' => Kt rfl rfl)<|aw_nil ?_
    intro w3 hw' hF
    replace H := H.later hw'; clear hw' hF
    refine Zn<|ZT rfl<|Zk<|Zs<|Zb ?_
       
    refine cw_draw mixed [0, 1, 2, 3, 4, 5, 6, 7, 8, 9, 10, 11, 12, 13, 14] [15, 16, 17] [] [0, 1, 2, 3, 4, 5, 6, 7, 8, 10, 11, 12, 14] (sp []) (by kernel_rfl) (by kernel_rfl) (by kernel_rfl) (by kernel_rfl) (fun _ _ _ h => h) (sp_st _) ?_
    refine aw rfl rfl rfl rfl rfl (fun w' hw' => Ys rfl)<|aw rfl rfl rfl rfl rfl (fun w' hw' => Yi rfl)<|aw rfl rfl rfl rfl rfl (fun w' hw' => Ys rfl)<|aw rfl rfl rfl rfl rfl (fun w' hw' => Yi rfl)<|aw rfl rfl rfl rfl rfl (fun w' hw' => subE_r ((q : Nat) : Int) rfl rfl (by omega) (by omega) (by omega))<|aw rfl rfl rfl rfl rfl (fun w' hw' => Ys rfl)<|aw rfl rfl rfl rfl rfl (fun w' hw' => Yi rfl)<|aw rfl rfl rfl rfl rfl (fun w' hw' => subE_r ((q : Nat) : Int) rfl rfl (by omega) (by omega) (by omega))<|aw rfl rfl rfl rfl rfl (fun w' hw' => ixR_r sl_Lint rfl rfl (by first | omega | (simp only [List.length_set]; omega)))<|aw rfl rfl rfl rfl rfl (fun w' hw' => ldR_r one_int row2 ha 0 rfl ((H.later hw').ent (i := 0) rfl) rfl)<|aw rfl rfl rfl rfl rfl (fun w' hw' => Ys rfl)<|aw rfl rfl rfl rfl rfl (fun w' hw' => Yi rfl)<|aw rfl rfl rfl rfl rfl (fun w' hw' => ixR_r sl_Lint rfl rfl (by first | omega | (simp only [List.length_set]; omega)))<|aw rfl rfl rfl rfl rfl (fun w' hw' => ldR_r one_int row2 hb 0 rfl ((H.later hw').ent (i := 0) rfl) rfl) ?_
    refine aw rfl rfl rfl rfl rfl (fun w' hw' => ixR_r sl_Lint rfl rfl (by first | omega | (simp only [List.length_set]; omega)))<|aw_nil ?_
    intro w4 hw' hF
    replace H := H.later hw'; clear hw' hF
    refine stR H 0 (a) siz_int row2 hb 0 rfl rfl rfl rfl rfl rfl (by kernel_rfl) fun w6 cur5 row5 H => ?_
    have hs7 : (m.set (q + 1) (a))[(q + 1)]? = some (a) := List.getElem?_set_self (getE hb).1
    refine Zl (ixR_r sl_Lint rfl rfl (by first | omega | (simp only [List.length_set]; omega)))<|stR H 0 (b) siz_int row5 ha2 0 rfl rfl rfl rfl rfl rfl (by kernel_rfl) fun w9 cur8 row8 H => ?_
    have hs10 : ((m.set (q + 1) (a)).set q (b))[q]? = some (b) := List.getElem?_set_self (getE ha2).1
    refine Zn<|Zr<|Zl (Yi rfl)<|Zl (subE_r ((q : Nat) : Int) rfl rfl (by omega) (by omega) (by omega))<|Zl (Wi rfl)<|Zn ?_
    exact ⟨(q, (m.set (q + 1) a).set q b, _), ⟨by omega, by simp [hml], by rw [← hm, sink_go ha hb (decide_eq_true h33)], fun y hy => (by rcases List.mem_or_eq_of_mem_set hy with hy | rfl; rcases List.mem_or_eq_of_mem_set hy with hy | rfl; exact hle2 y hy; exact hma; exact hmb), row8, H⟩, sl1 rfl, by repeat (first | exact Agr.refl _ _ | exact agr_ovr | refine agr_upd rfl ?_ | refine agr_updL _ rfl ?_ | refine agr_ovr2 rfl ?_), by show q < q + 1; omega⟩
   ·
    refine aw rfl rfl rfl rfl rfl (fun w' hw' => Kt rfl rfl)<|aw_nil ?_
    intro w11 hw' hF
    replace H := H.later hw'; clear hw' hF
    refine Zn<|ZF rfl<|Zx<|Zr<|Zl (Yi rfl)<|Zl (add_r rfl rfl (by omega) (by omega))<|Zl (Wi rfl)<|Zn ?_
    have hm2 : m = isortN (ltC cmpv) (i + 1) es := by rw [← hm, sink_stop ha hb (decide_eq_false h33)]
    exact ⟨(i + 1, m, u2), ⟨by omega, by omega, by omega, hm2, hle2, row2, H⟩, sl1 rfl, by repeat (first | exact Agr.refl _ _ | exact agr_ovr | refine agr_upd rfl ?_ | refine agr_updL _ rfl ?_ | refine agr_ovr2 rfl ?_), by show n + 1 - (i + 1) < n + 1 - i; omega⟩
  ·
   refine aw rfl rfl rfl rfl rfl (fun w' hw' => Yb rfl)<|awN rfl rfl rfl rfl<|awN rfl rfl rfl rfl<|awN rfl rfl rfl rfl<|awN rfl rfl rfl rfl<|awN rfl rfl rfl rfl<|awN rfl rfl rfl rfl<|awN rfl rfl rfl rfl<|awN rfl rfl rfl rfl<|awN rfl rfl rfl rfl<|awN rfl rfl rfl rfl<|awN rfl rfl rfl rfl<|awN rfl rfl rfl rfl<|aw rfl rfl rfl rfl rfl (fun w' hw' => Kf rfl rfl) ?_
   refine aw_nil ?_
   intro w12 hw' hF
   replace H := H.later hw'; clear hw' hF
   refine Zn<|ZF rfl<|Zx<|Zr<|Zl (Yi rfl)<|Zl (add_r rfl rfl (by omega) (by omega))<|Zl (Wi rfl)<|Zn ?_
   have hm2 : m = isortN (ltC cmpv) (i + 1) es := by rw [← hm, show j = 0 by omega]; rfl
   exact ⟨(i + 1, m, u2), ⟨by omega, by omega, by omega, hm2, hle2, row2, H⟩, sl1 rfl, by repeat (first | exact Agr.refl _ _ | exact agr_ovr | refine agr_upd rfl ?_ | refine agr_updL _ rfl ?_ | refine agr_ovr2 rfl ?_), by show n + 1 - (i + 1) < n + 1 - i; omega⟩
 ·
  refine Zn<|ZF rfl<|Zx ?_
  have hfin := sort_fin (n := n) hl hi1 hin hi0 (by omega)
  subst hfin
  dsimp only [thn, Rnd, iblk, Nat.beq, cond]
  exact fin0 rfl ⟨u1, rfl, row1, H⟩
set_option maxHeartbeats 4000000 in
set_option maxRecDepth 10000 in
theorem stableCmp_ok {w0 w : World} {M : List (Nat × Obj)} {F : List Fact} {g n : Nat} {u : Array Value} (es : List Int) (c : Nat) (H : Hp w0 w ((g, .cells u T_int (0, 0)) :: M) F) (row : Row intL es c u) (hn : n = es.length) (h12 : es.length ≤ 19) {f : FuncId} {cap : List Value} (hf : callB Try.prog f = true) (cmpv : Int → Int → Int) (hp : ∀ a b : Int, a ∈ es → b ∈ es → ∀ (w' : World) (u' : Array Value), Hp w0 w' ((g, .cells u' T_int (0, 0)) :: M) F → Ret Try.prog f (.int .i64 a :: .int .i64 b :: cap) w' fun v w2 => v = .int .i64 (cmpv a b) ∧ Below w'.heap.size w' w2) :
  Ret Try.prog i_slices_stableCmpFunc_int [.slice (some ⟨g, 0, none⟩) n c, .int .i64 (n : Nat), .func (.func f) #[] cap.toArray] w fun v w2 => ∃ u2, v = .tuple #[] ∧ Row intL (isortN (ltC cmpv) n es) c u2 ∧ Hp w0 w2 ((g, .cells u2 T_int (0, 0)) :: M) F := by
 refine ret_of fn_slices_stableCmpFunc_int rfl rfl ?_
 have hle := row.le
 refine Zs<|Zr<|Zl (Wi rfl)<|Zn<|Zs<|Zr<|Zl (Yi rfl)<|Zl (Wi rfl)<|Zl (Wi rfl)<|Zn<|Zs<|Zb ?_
 refine cw_loop (τ := Unit) [7, 8, 11, 12, 13, 14, 15, 16, 17, 18, 19, 20, 21, 22] (fun _ => [(7, .int .i64 0), (8, .int .i64 20)]) (fun _ w' => w' = w) (fun _ => 0) () rfl (sl2 rfl rfl) ?_
 rintro _ ρ1 _ rfl
 show CW _ _ _ _ (updL (ovr _ _ ρ1) [(7, .int .i64 0), (8, .int .i64 20)]) _
 refine Zs<|Zs<|Zr<|Zl (Yi rfl)<|Zl (Yi rfl)<|Zl (leqF_r rfl rfl (by omega))<|Zn<|ZF rfl<|Zx<|Zs<|Zr<|Zl (Ys rfl)<|Zl (Yi rfl)<|Zl (Yi rfl) ?_
 refine Zl (mvF_r rfl)<|cal cb_slices_insertionSortCmpFunc_int (insCmp_ok es c H row hn h12 hf cmpv hp) rfl rfl ?_
 rintro _ w1 ⟨u2, rfl, row2, H⟩
 refine Zn<|Zb ?_
 refine cw_loop (τ := Unit) [6, 7, 8, 9, 28, 29, 30, 31, 32, 33, 34, 35, 36, 37, 38, 39, 40, 41, 42, 43, 44, 45, 46, 47, 48, 49, 50, 51, 52, 53, 54, 55, 56, 57, 58, 59, 60, 61, 62] (fun _ => [(6, .int .i64 20)]) (fun _ w' => Hp w0 w' ((g, .cells u2 T_int (0, 0)) :: M) F) (fun _ => 0) () H (sl1 rfl) ?_
 rintro _ ρ2 w2 H
 show CW _ _ _ _ (updL (ovr _ _ ρ2) [(6, .int .i64 20)]) w2
 refine Zs<|Zs<|Zr<|Zl (Yi rfl)<|Zl (Yi rfl)<|Zl (lssF_r rfl rfl (by omega))<|Zn<|ZF rfl<|Zx ?_
 dsimp only [thn, Rnd, iblk, Nat.beq, cond]
 exact fin0 rfl ⟨u2, rfl, row2, H⟩
set_option maxHeartbeats 4000000 in
set_option maxRecDepth 10000 in
theorem sortStable_ok {w0 w : World} {M : List (Nat × Obj)} {F : List Fact} {g n : Nat} {u : Array Value} (es : List Int) (c : Nat) (H : Hp w0 w ((g, .cells u T_int (0, 0)) :: M) F) (row : Row intL es c u) (hn : n = es.length) (h12 : es.length ≤ 19) {f : FuncId} {cap : List Value} (hf : callB Try.prog f = true) (cmpv : Int → Int → Int) (hp : ∀ a b : Int, a ∈ es → b ∈ es → ∀ (w' : World) (u' : Array Value), Hp w0 w' ((g, .cells u' T_int (0, 0)) :: M) F → Ret Try.prog f (.int .i64 a :: .int .i64 b :: cap) w' fun v w2 => v = .int .i64 (cmpv a b) ∧ Below w'.heap.size w' w2) :
  Ret Try.prog i_slices_SortStableFunc_Lint_int [.slice (some ⟨g, 0, none⟩) n c, .func (.func f) #[] cap.toArray] w fun v w2 => ∃ u2, v = .tuple #[] ∧ Row intL (isortN (ltC cmpv) n es) c u2 ∧ Hp w0 w2 ((g, .cells u2 T_int (0, 0)) :: M) F := by
 refine ret_of fn_slices_SortStableFunc_Lint_int rfl rfl ?_
 have hle := row.le
 refine Zr<|Zl (Ys rfl)<|Zl (Ys rfl)<|Zl (lenS_r len_Lint rfl)<|Zl (mvF_r rfl)<|cal cb_slices_stableCmpFunc_int (stableCmp_ok es c H row hn h12 hf cmpv hp) rfl rfl ?_
 rintro _ w1 ⟨u2, rfl, row2, H⟩
 refine Zn ?_
 show Fin Try.prog Try.f173 _ .normal _ _
 exact fin0 rfl ⟨u2, rfl, row2, H⟩
end Go.Proofs.Ytemnchkebhclpaa
end

section
namespace Go.Eng
open Go Go.RowKit
section
variable {P : Program} {ρ : Env} {w : World} {t : TypeId} {p : String} {af : Array Edge} {g : Option (Nat × Bool)} {dst : Option Nat}
/-- Go's order of strings -/
def sLt (a b : ByteArray) : Bool := Op.bytesLess a.toList b.toList
theorem slss_r {x y : Operand} {ty ty' : TypeId} {a b : ByteArray} (hx : ev ρ x = .string a) (hy : ev ρ y = .string b) : (execOp (ev ρ) (Og dst (.binOp .lss ty x y ty') t p af g)).run P w = .ok (.value (.bool (sLt a b))) w := by
 simp [execOp, hx, hy, eqGuard, binOp, Op.stringOp, sLt]
theorem sgtr_r {x y : Operand} {ty ty' : TypeId} {a b : ByteArray} (hx : ev ρ x = .string a) (hy : ev ρ y = .string b) : (execOp (ev ρ) (Og dst (.binOp .gtr ty x y ty') t p af g)).run P w = .ok (.value (.bool (!(sLt a b || a.toList == b.toList)))) w := by
 simp [execOp, hx, hy, eqGuard, binOp, Op.stringOp, sLt]
end
end Go.Eng
namespace Go.Proofs.Ytemnchkebhclpaa
open Go Go.Eng Go.RowKit
set_option linter.unusedSimpArgs false
/-- a list of numbers, and where it lies -/
structure Il where
 A : Option Addr
 cap : Nat
 es : List Int
def Il.c (x : Il) : List Value := [.slice x.A x.es.length x.cap]
def ilL : Lay Il := ⟨Il.c, 1, fun _ => rfl, by decide, fun a u hu => by
 simp only [Il.c, List.mem_singleton] at hu; subst hu; rfl⟩
def zIl : Il := ⟨none, 0, []⟩
def OwnIl : List Il → List (Nat × Obj) → Prop
 | [], L => L = []
 | t :: ts, L => ∃ L1 L2, L = L1 ++ L2 ∧ Own intL (.slice t.A t.es.length t.cap) T_int t.es L1 ∧ OwnIl ts L2
theorem OwnIl.at_ : ∀ {ts : List Il} {L : List (Nat × Obj)} {i : Nat} {t : Il}, OwnIl ts L → ts[i]? = some t → ∃ La Lt Lb, L = La ++ Lt ++ Lb ∧ Own intL (.slice t.A t.es.length t.cap) T_int t.es Lt ∧ ∀ (t' : Il) (Lt' : List (Nat × Obj)), Own intL (.slice t'.A t'.es.length t'.cap) T_int t'.es Lt' → OwnIl (ts.set i t') (La ++ Lt' ++ Lb)
 | x :: ts, L, 0, t, ⟨L1, L2, h1, h2, h3⟩, hi => by
  cases hi
  exact ⟨[], L1, L2, by simpa using h1, h2, fun t' Lt' h' => ⟨Lt', L2, by simp, h', h3⟩⟩
 | x :: ts, L, i + 1, t, ⟨L1, L2, h1, h2, h3⟩, hi => by
  obtain ⟨La, Lt, Lb, e, ho, hs⟩ := OwnIl.at_ h3 (show ts[i]? = some t from hi)
  exact ⟨L1 ++ La, Lt, Lb, by rw [h1, e]; simp [List.append_assoc], ho, fun t' Lt' h' => ⟨L1, La ++ Lt' ++ Lb, by simp [List.append_assoc], h2, hs t' Lt' h'⟩⟩
theorem OwnIl.nils : ∀ n : Nat, OwnIl (List.replicate n zIl) []
 | 0 => rfl
 | n + 1 => ⟨[], [], rfl, Own.nil, OwnIl.nils n⟩
theorem OwnIl.rd {w0 w : World} {K L : List (Nat × Obj)} {F : List Fact} {ts : List Il} (h : OwnIl ts L) (H : Hp w0 w (K ++ L) F) {t : Il} (ht : t ∈ ts) : Rd intL w0.heap.size w.heap.size t.A t.es w ∧ t.es.length ≤ t.cap := by
 obtain ⟨i, hi⟩ := List.mem_iff_getElem?.1 ht
 obtain ⟨La, Lt, Lb, rfl, ho, -⟩ := h.at_ hi
 refine ⟨ho.rd (K := K ++ La) (M := Lb) (F := F) (by simpa [List.append_assoc] using H), ?_⟩
 obtain ⟨_, c, e, hc, _⟩ := ho.form
 injection e with _ _ e
 subst e; exact hc
theorem hp_in3 {w0 w : World} {F : List Fact} (X A B C : List (Nat × Obj)) (H : Hp w0 w (X ++ (A ++ B ++ C)) F) : Hp w0 w ((X ++ A) ++ B ++ C) F := by simpa [List.append_assoc] using H
theorem hp_out3 {w0 w : World} {F : List Fact} (X A B C : List (Nat × Obj)) (H : Hp w0 w ((X ++ A) ++ B ++ C) F) : Hp w0 w (X ++ (A ++ B ++ C)) F := by simpa [List.append_assoc] using H
/-- how two names are compared -/
def cmpS (x y : ByteArray) : Int := if sLt x y then -1 else if !(sLt x y || x.toList == y.toList) then 1 else 0
def nameAt (names : List ByteArray) (a : Int) : ByteArray := names.getD a.toNat ⟨#[]⟩
def cmpN (names : List ByteArray) (a b : Int) : Int := cmpS (nameAt names a) (nameAt names b)
def upto (n : Nat) : List Int := (List.range n).map fun (i : Nat) => (i : Int)
/-- the members' places, by their names -/
def ordN (names : List ByteArray) : List Int := isortN (ltC (cmpN names)) names.length (upto names.length)
/-- P6.2: whose a part is -/
def turnOf (names : List ByteArray) (q : Nat) : Int := (ordN names).getD (q % names.length) 0
def partsTo (names : List ByteArray) (p : Nat) (i : Nat) : List Int := (upto p).filter fun q => decide (turnOf names q.toNat = i)
def assignL (names : List ByteArray) (p : Nat) : List (List Int) := (List.range names.length).map (partsTo names p)
theorem upto_snoc (n : Nat) : upto (n + 1) = upto n ++ [(n : Int)] := by unfold upto; rw [List.range_succ, List.map_append]; rfl
theorem upto_len (n : Nat) : (upto n).length = n := by simp [upto]
theorem upto_mem {n : Nat} {x : Int} : x ∈ upto n ↔ ∃ i : Nat, i < n ∧ x = i := by
 unfold upto
 simp only [List.mem_map, List.mem_range]
 constructor <;> rintro ⟨i, h1, h2⟩ <;> exact ⟨i, h1, h2.symm⟩
theorem partsTo_zero (names : List ByteArray) (i : Nat) : partsTo names 0 i = [] := rfl
theorem partsTo_snoc (names : List ByteArray) (p i : Nat) : partsTo names (p + 1) i = if turnOf names p = i then partsTo names p i ++ [(p : Int)] else partsTo names p i := by
 unfold partsTo
 rw [upto_snoc, List.filter_append]
 by_cases h : turnOf names p = i
 ·
  rw [if_pos h, List.filter_cons_of_pos (by simpa using h)]; rfl
 ·
  rw [if_neg h, List.filter_cons_of_neg (by simpa using h)]; simp
end Go.Proofs.Ytemnchkebhclpaa
end

section
namespace Go.Proofs.Ytemnchkebhclpaa
open Go Go.Eng Go.RowKit
set_option linter.unusedSimpArgs false
theorem info_intG : (Try.prog.info? 3).map (fun i => (i.zero, i.size, i.bytes)) = some (some (.int .i64 0), 1, 8) := by kernel_rfl
theorem info_LintG : (Try.prog.info? 89).map (fun i => (i.zero, i.size, i.bytes)) = some (some (.slice none 0 0), 1, 24) := by kernel_rfl
theorem fill_at {i n : Nat} (h : i < n) : (upto i ++ List.replicate (n - i) (0 : Int))[i]? = some 0 := by
 rw [List.getElem?_append_right (by rw [upto_len]; omega), upto_len, Nat.sub_self, List.getElem?_replicate, if_pos (by omega)]
theorem fill_set {i n : Nat} (h : i < n) : (upto i ++ List.replicate (n - i) (0 : Int)).set i (i : Int) = upto (i + 1) ++ List.replicate (n - (i + 1)) 0 := by
 rw [List.set_append_right _ _ (by rw [upto_len]; omega), upto_len, Nat.sub_self, show n - i = (n - (i + 1)) + 1 by omega, List.replicate_succ, List.set_cons_zero, upto_snoc, List.append_assoc]
 rfl
theorem ordN_perm (names : List ByteArray) : (ordN names).Perm (upto names.length) := by
 have := isort_perm_all (lt := ltC (cmpN names)) (upto names.length)
 rwa [upto_len] at this
theorem ord_at {names : List ByteArray} {q : Nat} (h : names.length ≠ 0) : ∃ i : Nat, i < names.length ∧ (ordN names)[q % names.length]? = some (i : Int) ∧ turnOf names q = i := by
 have hl : (ordN names).length = names.length := by rw [(ordN_perm names).length_eq, upto_len]
 have hm : q % names.length < (ordN names).length := by rw [hl]; exact Nat.mod_lt _ (by omega)
 have h1 := getD_some (0 : Int) hm
 obtain ⟨i, hi, he⟩ := upto_mem.1 ((ordN_perm names).mem_iff.1 (List.mem_of_getElem? h1))
 exact ⟨i, hi, by rw [h1, he], he⟩
theorem partsTo_len (names : List ByteArray) (p i : Nat) : (partsTo names p i).length ≤ p := by
 have := List.length_filter_le (fun q => decide (turnOf names q.toNat = i)) (upto p)
 rwa [upto_len] at this
set_option maxHeartbeats 4000000 in
set_option maxRecDepth 10000 in
theorem assign_c1_ok (names : List ByteArray) (A : Option Addr) (c : Nat) (x y : ByteArray) (i j b : Nat) (w : World) (hx : w.heap[b]? = some (.cells #[.slice A names.length c] T_Lstring (0, 0))) (hr : Rd strL 0 w.heap.size A names w) (hi : names[i]? = some x) (hj : names[j]? = some y) :
  Ret Try.prog i_group_Assign_c1 [.int .i64 (i : Nat), .int .i64 (j : Nat), .pointer (some ⟨b, 0, none⟩)] w fun v w2 => v = .int .i64 (cmpS x y) ∧ Below w.heap.size w w2 := by
 refine ret_of fn_group_Assign_c1 rfl rfl ?_
 have H := Hp.startRd hr
 have hb := lt_of_heap hx
 have hil := (getE hi).1
 have hjl := (getE hj).1
 refine Zs<|Zr<|Zl (Wi rfl)<|Zn<|Zs<|Zb<|Zs ?_
 
 refine cw_draw mixed [0, 1, 2, 3, 4, 5, 6, 7, 8, 9] [] [] [1, 2, 5, 6, 8, 9] (sp []) (by kernel_rfl) (by kernel_rfl) (by kernel_rfl) (by kernel_rfl) (fun _ _ _ h => h) (sp_st _) ?_
 refine aw rfl rfl rfl rfl rfl (fun w' hw' => ld_r one_Lstring rfl (((H.later hw').below.cell (p := ⟨b, _, none⟩) hb).trans (cellE (j := 0) hx rfl)))<|aw rfl rfl rfl rfl rfl (fun w' hw' => Yi rfl)<|awIxF H 0 rfl rfl rfl rfl rfl sl_Lstring rfl rfl (by omega) (by omega) fun bq1 o1 x1 e1 => ?_
 obtain rfl : x = x1 := by have := e1.at_; rw [hi] at this; exact Option.some.inj this
 refine aw rfl rfl rfl rfl rfl (fun w' hw' => ld_r one_string rfl (e1.later hw' 0 _ rfl))<|aw rfl rfl rfl rfl rfl (fun w' hw' => ld_r one_Lstring rfl (((H.later hw').below.cell (p := ⟨b, _, none⟩) hb).trans (cellE (j := 0) hx rfl)))<|aw rfl rfl rfl rfl rfl (fun w' hw' => Yi rfl)<|awIxF H 0 rfl rfl rfl rfl rfl sl_Lstring rfl rfl (by omega) (by omega) fun bq2 o2 x2 e2 => ?_
 obtain rfl : y = x2 := by have := e2.at_; rw [hj] at this; exact Option.some.inj this
 refine aw rfl rfl rfl rfl rfl (fun w' hw' => ld_r one_string rfl (e2.later hw' 0 _ rfl))<|aw rfl rfl rfl rfl rfl (fun w' hw' => slss_r rfl rfl)<|aw rfl rfl rfl rfl rfl (fun w' hw' => Wb rfl)<|aw_nil ?_
 intro w3 hw' hF
 replace H := H.later hw'; clear hw' hF
 refine Zn ?_
 refine cw_if rfl (fun hc6 => ?_) (fun hc6 => ?_)
 ·
  refine Zs<|Zr<|Zl (Wi rfl)<|Zn<|Zt ?_
  have hv : cmpS x y = -1 := by unfold cmpS; rw [if_pos hc6]
  exact fin1 (v := .int .i64 (-1)) rfl rfl ⟨by rw [hv], H.below⟩
 ·
  refine Zs ?_
   
  refine cw_draw mixed [0, 1, 2, 3, 4, 5, 6, 7, 8, 9] [] [] [1, 2, 5, 6, 8, 9] (sp []) (by kernel_rfl) (by kernel_rfl) (by kernel_rfl) (by kernel_rfl) (fun _ _ _ h => h) (sp_st _) ?_
  refine aw rfl rfl rfl rfl rfl (fun w' hw' => ld_r one_Lstring rfl (((H.later hw').below.cell (p := ⟨b, _, none⟩) hb).trans (cellE (j := 0) hx rfl)))<|aw rfl rfl rfl rfl rfl (fun w' hw' => Yi rfl)<|awIxF H 0 rfl rfl rfl rfl rfl sl_Lstring rfl rfl (by omega) (by omega) fun bq4 o4 x4 e4 => ?_
  obtain rfl : x = x4 := by have := e4.at_; rw [hi] at this; exact Option.some.inj this
  refine aw rfl rfl rfl rfl rfl (fun w' hw' => ld_r one_string rfl (e4.later hw' 0 _ rfl))<|aw rfl rfl rfl rfl rfl (fun w' hw' => ld_r one_Lstring rfl (((H.later hw').below.cell (p := ⟨b, _, none⟩) hb).trans (cellE (j := 0) hx rfl)))<|aw rfl rfl rfl rfl rfl (fun w' hw' => Yi rfl)<|awIxF H 0 rfl rfl rfl rfl rfl sl_Lstring rfl rfl (by omega) (by omega) fun bq5 o5 x5 e5 => ?_
  obtain rfl : y = x5 := by have := e5.at_; rw [hj] at this; exact Option.some.inj this
  refine aw rfl rfl rfl rfl rfl (fun w' hw' => ld_r one_string rfl (e5.later hw' 0 _ rfl))<|aw rfl rfl rfl rfl rfl (fun w' hw' => sgtr_r rfl rfl)<|aw rfl rfl rfl rfl rfl (fun w' hw' => Wb rfl)<|aw_nil ?_
  intro w6 hw' hF
  replace H := H.later hw'; clear hw' hF
  refine Zn ?_
  refine cw_if rfl (fun hc16 => ?_) (fun hc16 => ?_)
  ·
   refine Zs<|Zr<|Zl (Wi rfl)<|Zn<|Zt ?_
   have hv : cmpS x y = 1 := by unfold cmpS; rw [if_neg (by rw [hc6]; decide), if_pos hc16]
   exact fin1 (v := .int .i64 (1)) rfl rfl ⟨by rw [hv], H.below⟩
  ·
   refine Zk<|Zs<|Zr<|Zl (Wi rfl)<|Zn<|Zt ?_
   have hv : cmpS x y = 0 := by unfold cmpS; rw [if_neg (by rw [hc6]; decide), if_neg (by rw [hc16]; decide)]
   exact fin1 (v := .int .i64 (0)) rfl rfl ⟨by rw [hv], H.below⟩
set_option maxHeartbeats 4000000 in
set_option maxRecDepth 10000 in
theorem assign_ok (names : List ByteArray) (A : Option Addr) (c p : Nat) (w : World) (hr : Rd strL 0 w.heap.size A names w) (hn : names.length ≤ 6) (hp : p ≤ 4) :
  Ret Try.prog i_group_Assign [.slice A names.length c, .int .i64 (p : Nat)] w fun v w2 => ∃ (out : List Il) (B : Option Addr) (d : Nat), v = .slice B out.length d ∧ out.length ≤ d ∧ out.map Il.es = assignL names p ∧ Rd ilL w.heap.size w2.heap.size B out w2 ∧ (∀ x ∈ out, Rd intL w.heap.size w2.heap.size x.A x.es w2 ∧ x.es.length ≤ x.cap) ∧ Below w.heap.size w w2 := by
 refine ret_of fn_group_Assign rfl rfl ?_
 have H := Hp.startRd hr
 refine Zs<|Zr<|bxS H rfl rfl fun w1 b2 H =>Zl (Ws rfl)<|Zn<|Zs<|Zr<|Zl (Zd one_Lstring H 0 rfl rfl rfl)<|Zl (lenS_r len_Lstring rfl)<|mkR (Y := intL) (0) names.length H sl_Lint info_intG rfl rfl rfl (by omega) (by omega) rfl fun w2 b12 cur12 row12 H =>Zl (Ws rfl)<|Zn<|Zs<|Zs ?_
 refine Zr<|Zl (Ys rfl)<|Zl (lenS_r len_Lint rfl)<|Zl (Yi rfl)<|Zn<|Zb ?_
 refine cw_loop (τ := Nat × Array Value) [6, 15, 16, 17, 18, 19, 20, 21, 22] (fun (i, _) => [(15, .int .i64 (i : Nat))]) (fun (i, u1) w' => i ≤ names.length ∧ Row intL (upto i ++ List.replicate (names.length - i) 0) names.length u1 ∧ Hp w w' [(b12, .cells u1 T_int (0, 0)), (b2, .cells #[.slice A names.length c] T_Lstring (0, 0))] [FRd strL 0 w.heap.size A names]) (fun (i, _) => names.length - i) (0, cur12) ⟨by omega, row12, H⟩ (sl1 rfl) ?_
 rintro ⟨i, u1⟩ ρ1 w3 ⟨hi, row, H⟩
 show CW _ _ _ _ (updL (ovr _ _ ρ1) [(15, .int .i64 (i : Nat))]) w3
 have hfl : (upto i ++ List.replicate (names.length - i) (0 : Int)).length = names.length := by simp [upto_len]; omega
 refine Zs<|Zr ?_
 refine lwD (lss_r rfl rfl) rfl rfl rfl (fun h16 => ?_) (fun h16 => ?_)
 ·
  refine Zn<|Zs<|ZT rfl<|Zk<|Zs<|Zb<|Zs<|Zr<|Zl (Yi rfl)<|Zl (Wi rfl)<|Zn<|Zr<|Zl (Ys rfl)<|Zl (Yi rfl) ?_
  refine Zl (Yi rfl)<|Zl (ixR_r sl_Lint rfl rfl (by first | omega | (simp only [List.length_set]; omega)))<|stR H 0 ((i : Int)) siz_int row (fill_at (by omega)) 0 rfl rfl rfl rfl rfl rfl (by kernel_rfl) fun w5 cur4 row4 H => ?_
  have hs6 : (((upto i ++ List.replicate (names.length - i) 0)).set i ((i : Int)))[i]? = some ((i : Int)) := List.getElem?_set_self (getE (fill_at (by omega))).1
  refine Zn<|Zr<|Zl (add_r rfl rfl (by omega) (by omega))<|Zl (Yi rfl)<|Zn ?_
  exact ⟨(i + 1, _), ⟨by omega, (fill_set (show i < names.length by omega)) ▸ row4, H⟩, sl1 rfl, by repeat (first | exact Agr.refl _ _ | exact agr_ovr | refine agr_upd rfl ?_ | refine agr_updL _ rfl ?_ | refine agr_ovr2 rfl ?_), by show names.length - (i + 1) < names.length - i; omega⟩
 ·
  refine Zn<|Zs<|ZF rfl<|Zx<|Zs ?_
  obtain rfl : i = names.length := by omega
  rw [Nat.sub_self, List.replicate_zero, List.append_nil] at row
  refine Zr<|Zl (Ys rfl)<|Zl (mkf_r rfl)<|cal cb_slices_SortStableFunc_Lint_int (sortStable_ok (M := [(b2, .cells #[.slice A names.length c] T_Lstring (0, 0))]) (upto names.length) names.length H row (upto_len _).symm (by rw [upto_len]; omega) (cap := [.pointer (some ⟨b2, 0, none⟩)]) cb_group_Assign_c1 (cmpN names) (fun a b ha hb w' u' H' => by obtain ⟨i, hi, rfl⟩ := upto_mem.1 ha; obtain ⟨j, hj, rfl⟩ := upto_mem.1 hb; exact assign_c1_ok names A c (nameAt names i) (nameAt names j) i j b2 w' (H'.ent (i := 1) rfl) (H'.rd0 0 rfl) (getD_some _ hi) (getD_some _ hj))) rfl rfl ?_
  rintro _ w7 ⟨u2, rfl, row2, H⟩
  replace row2 : Row intL (ordN names) names.length u2 := row2
  refine Zn<|Zs<|Zr<|Zl (Zd one_Lstring H 1 rfl rfl rfl)<|Zl (lenS_r len_Lstring rfl)<|mkR (Y := ilL) (zIl) names.length H sl_LLint info_LintG rfl rfl rfl (by omega) (by omega) rfl fun w8 b28 cur28 row28 H =>Zl (Ws rfl)<|Zn<|Zs<|Zs<|Zr<|Zl (Zd one_Lstring H 2 rfl rfl rfl)<|Zl (lenS_r len_Lstring rfl) ?_
  refine lwD (eql_r rfl rfl) rfl rfl rfl (fun h31 => ?_) (fun h31 => ?_)
  ·
   have hn0 : names.length = 0 := by omega
   refine Zn<|ZT rfl<|Zs<|Zr<|Zl (Ys rfl)<|Zl (Ws rfl)<|Zn<|Zt ?_
   exact fin1 (v := .slice (some ⟨b28, 0, none⟩) names.length names.length) rfl rfl ⟨[], _, names.length, by rw [hn0]; rfl, Nat.zero_le _, by unfold assignL; rw [hn0]; rfl, Rd.nil, by simp, H.below⟩
  ·
   refine Zn<|ZF rfl<|Zk<|Zs<|Zs<|Zr<|Zl (Yi rfl)<|Zl (maxI_r rfl rfl) ?_
   rw [show max ((p : Nat) : Int) 0 = ((p : Nat) : Int) by omega]
   refine Zl (Yi rfl)<|Zn<|Zb ?_
   refine cw_loop (τ := Nat × List Il × Array Value) [8, 9, 35, 36, 37, 38, 39, 40, 41, 42, 43, 44, 45, 46, 47, 48, 49, 50, 51, 52, 53, 54, 55] (fun (q, _, _) => [(35, .int .i64 (q : Nat))]) (fun (q, out, u3) w' => q ≤ p ∧ out.length = names.length ∧ (∀ i x, out[i]? = some x → x.es = partsTo names q i) ∧ Row ilL out names.length u3 ∧ ∃ Lp, OwnIl out Lp ∧ Hp w w' ([(b28, .cells u3 T_Lint (0, 0)), (b12, .cells u2 T_int (0, 0)), (b2, .cells #[.slice A names.length c] T_Lstring (0, 0))] ++ Lp) [FRd strL 0 w.heap.size A names]) (fun (q, _, _) => p - q) (0, List.replicate names.length zIl, cur28) ⟨by omega, by simp, (fun i x hx => by rw [List.getElem?_replicate] at hx; split at hx; injection hx with hx; rw [← hx]; rfl; cases hx), row28, [], OwnIl.nils _, H⟩ (sl1 rfl) ?_
   rintro ⟨q, out, u3⟩ ρ2 w9 ⟨hq, hol, hes, row3, Lp, hop, H⟩
   show CW _ _ _ _ (updL (ovr _ _ ρ2) [(35, .int .i64 (q : Nat))]) w9
   refine Zs<|Zr ?_
   refine lwD (lss_r rfl rfl) rfl rfl rfl (fun h36 => ?_) (fun h36 => ?_)
   ·
    refine Zn<|Zs<|ZT rfl<|Zk<|Zs<|Zb<|Zs<|Zr<|Zl (Yi rfl)<|Zl (Wi rfl)<|Zn<|Zs ?_
    obtain ⟨i, hin, hod, htn⟩ := ord_at (names := names) (q := q) (by omega)
    obtain ⟨r, hrq⟩ : ∃ r, q % names.length = r := ⟨_, rfl⟩
    rw [hrq] at hod
    have hrn : r < names.length := hrq ▸ Nat.mod_lt _ (by omega)
    obtain ⟨x, hx⟩ : ∃ x, out[i]? = some x := ⟨_, List.getElem?_eq_getElem (by omega)⟩
    have hxe := hes i x hx
    have hxl : x.es.length ≤ 4 := by rw [hxe]; have := partsTo_len names q i; omega
    refine Zr<|Zl (Ys rfl)<|Zl (Yi rfl)<|Zl (Ys rfl)<|Zl (lenS_r len_Lint rfl)<|Zl (rem_r rfl rfl (by omega) (by omega)) ?_
    rw [show ((q : Nat) : Int) % ((names.length : Nat) : Int) = ((r : Nat) : Int) from by rw [← hrq]; exact (Int.natCast_emod q names.length).symm]
    refine Zl (ixR_r sl_Lint rfl rfl (by first | omega | (simp only [List.length_set]; omega)))<|Zl (ldR_r one_int row2 hod 0 rfl (H.ent (i := 1) rfl) rfl)<|Zl (Wi rfl)<|Zn ?_
    obtain ⟨La, Lt, Lb, rfl, hot, hset⟩ := hop.at_ hx
    refine Zr<|Zl (Ys rfl)<|Zl (Yi rfl)<|Zl (Ys rfl)<|Zl (Yi rfl)<|Zl (ixR_r sl_LLint rfl rfl (by first | omega | (simp only [List.length_set]; omega)))<|Zl (ldR_r one_Lint row3 hx 0 rfl (H.ent (i := 0) rfl) rfl)<|Zl (Yi rfl)<|bsv (vs := [.int .i64 (((q : Nat) : Int))]) H sl_Lint z_int rfl rfl rfl rfl rfl rfl fun w10 b52 H =>apO (Y := intL) ap_Lint (K := [(b52, .cells #[.int .i64 (((q : Nat) : Int))] T_int (0, 0)), (b28, .cells u3 T_Lint (0, 0)), (b12, .cells u2 T_int (0, 0)), (b2, .cells #[.slice A names.length c] T_Lstring (0, 0))] ++ La) (L := Lt) (M := Lb) (hp_in3 _ La Lt Lb H) hot (news := [((q : Nat) : Int)]) rfl rfl rfl (Src.row (m := 1) (sz := intL.sz) (H.ent (i := 0) rfl) rfl) (show (x.es.length + 1) * 8 ≤ 140737488355328 by omega) rfl ?_
    intro A53 c53 w11 L53 h53 _ ho53 HI
    replace H := hp_out3 [(b52, .cells #[.int .i64 (((q : Nat) : Int))] T_int (0, 0)), (b28, .cells u3 T_Lint (0, 0)), (b12, .cells u2 T_int (0, 0)), (b2, .cells #[.slice A names.length c] T_Lstring (0, 0))] La L53 Lb HI; clear HI
    refine Zl (ixR_r sl_LLint rfl rfl (by first | omega | (simp only [List.length_set]; omega)))<|stR H 1 ({ A := A53, cap := c53, es := x.es ++ [((q : Nat) : Int)] }) siz_Lint row3 hx 0 rfl rfl rfl rfl rfl rfl (by kernel_rfl) fun w13 cur12 row12 H => ?_
    have hs14 : (out.set i ({ A := A53, cap := c53, es := x.es ++ [((q : Nat) : Int)] }))[i]? = some ({ A := A53, cap := c53, es := x.es ++ [((q : Nat) : Int)] }) := List.getElem?_set_self (getE hx).1
    refine Zn<|Zr<|Zl (add_r rfl rfl (by omega) (by omega))<|Zl (Yi rfl)<|Zn ?_
    refine ⟨(q + 1, out.set i { A := A53, cap := c53, es := x.es ++ [((q : Nat) : Int)] }, _), ⟨by omega, by rw [List.length_set]; exact hol, fun j y hy => ?_, row12, _, hset _ L53 ho53, H.forget (.cons _ (List.Sublist.refl _)) (fun _ h => h)⟩, sl1 rfl, by repeat (first | exact Agr.refl _ _ | exact agr_ovr | refine agr_upd rfl ?_ | refine agr_updL _ rfl ?_ | refine agr_ovr2 rfl ?_), by show p - (q + 1) < p - q; omega⟩
    rw [partsTo_snoc, htn]
    by_cases hij : i = j
    ·
     subst hij; rw [List.getElem?_set_self (getE hx).1] at hy; injection hy with hy; rw [← hy, if_pos rfl, hxe]
    ·
     rw [List.getElem?_set_ne hij] at hy; rw [if_neg (by omega)]; exact hes j y hy
   ·
    refine Zn<|Zs<|ZF rfl<|Zx<|Zs<|Zr<|Zl (Ys rfl)<|Zl (Ws rfl)<|Zn<|Zt ?_
    obtain rfl : q = p := by omega
    have hmap : out.map Il.es = assignL names q := by
     apply List.ext_getElem?
     intro j
     unfold assignL
     rw [List.getElem?_map, List.getElem?_map]
     by_cases hj : j < names.length
     ·
      obtain ⟨y, hy⟩ : ∃ y, out[j]? = some y := ⟨_, List.getElem?_eq_getElem (by omega)⟩
      rw [hy, List.getElem?_range hj]; exact congrArg some (hes j y hy)
     ·
      rw [List.getElem?_eq_none (by omega), List.getElem?_eq_none (by rw [List.length_range]; omega)]; rfl
    exact fin1 (v := .slice (some ⟨b28, 0, none⟩) names.length names.length) rfl rfl ⟨out, _, names.length, by rw [hol], by omega, hmap, (Row.own row3).rd (K := []) (M := (b12, _) :: (b2, .cells #[.slice A names.length c] T_Lstring (0, 0)) :: Lp) H, fun x hx => hop.rd (K := [(b28, _), (b12, _), (b2, .cells #[.slice A names.length c] T_Lstring (0, 0))]) H hx, H.below⟩
end Go.Proofs.Ytemnchkebhclpaa
end

section
namespace Go.Proofs.Ytemnchkebhclpaa
open Go Go.Eng Go.RowKit
set_option linter.unusedSimpArgs false
/-- lists of numbers that a call has made, to be read -/
def FIls (lo hi : Nat) (B : Option Addr) (out : List Il) : Fact := ⟨lo, hi, fun w => Rd ilL lo hi B out w ∧ ∀ x ∈ out, Rd intL lo hi x.A x.es w, fun _ _ hk h => ⟨h.1.st hk, fun x hx => (h.2 x hx).st hk⟩⟩
theorem Hp.ilRow {w0 w : World} {L : List (Nat × Obj)} {F : List Fact} {lo hi : Nat} {B : Option Addr} {out : List Il} (H : Hp w0 w L F) (i : Nat) (hF : F[i]? = some (FIls lo hi B out)) : Hp w0 w L (FRd ilL lo hi B out :: F) := by
 refine ⟨H.below, H.ents, H.nodup, fun f hf => ?_⟩
 rcases List.mem_cons.1 hf with rfl | hf
 ·
  obtain ⟨h1, h2, h3⟩ := H.facts _ (List.mem_of_getElem? hF)
  exact ⟨h1.1, h2, h3⟩
 ·
  exact H.facts f hf
theorem Hp.ilPart {w0 w : World} {L : List (Nat × Obj)} {F : List Fact} {lo hi : Nat} {B : Option Addr} {out : List Il} (H : Hp w0 w L F) (i : Nat) (hF : F[i]? = some (FIls lo hi B out)) {x : Il} (hx : x ∈ out) : Hp w0 w L (FRd intL lo hi x.A x.es :: F) := by
 refine ⟨H.below, H.ents, H.nodup, fun f hf => ?_⟩
 rcases List.mem_cons.1 hf with rfl | hf
 ·
  obtain ⟨h1, h2, h3⟩ := H.facts _ (List.mem_of_getElem? hF)
  exact ⟨h1.2 x hx, h2, h3⟩
 ·
  exact H.facts f hf
/-- P6.4: members whose parts are assigned anew -/
def asgM (ms : List Mem) (p : Nat) : List Mem := List.zipWith (fun (m : Mem) l => { m with parts := l }) ms (assignL (ms.map Mem.name) p)
theorem assignL_len (names : List ByteArray) (p : Nat) : (assignL names p).length = names.length := by simp [assignL]
theorem asg_at {ms : List Mem} {p i : Nat} {m : Mem} {l : List Int} (hm : ms[i]? = some m) (hl : (assignL (ms.map Mem.name) p)[i]? = some l) : (asgM ms p)[i]? = some { m with parts := l } := by
 unfold asgM
 rw [List.getElem?_zipWith, hm, hl]
set_option maxHeartbeats 4000000 in
set_option maxRecDepth 10000 in
theorem assigned_ok {w0 w : World} {M Lm : List (Nat × Obj)} {F : List Fact} (ck wt gn : Int) (ms : List Mem) (mA : Option Addr) (mC : Nat) (os : List Off) (oA : Option Addr) (oC p : Nat) (H : Hp w0 w (Lm ++ M) F) (ho : Own memL (.slice mA ms.length mC) T_Member ms Lm) (hml : ms.length ≤ 6) (hp : p ≤ 4) (hg0 : 0 ≤ gn) (hg1 : gn < 1073741824) :
  Ret Try.prog i_group_assigned [.agg #[.int .i64 (ck), .int .i64 (wt), .int .i64 (gn), .slice mA ms.length mC, .slice oA os.length oC], .int .i64 (p : Nat)] w fun v w2 => ∃ (ms' : List Mem) (Lm' : List (Nat × Obj)), v = .agg #[.int .i64 (ck), .int .i64 (wt), .int .i64 (gn + 1), .slice mA ms'.length mC, .slice oA os.length oC] ∧ ms'.map Mem.a = (asgM ms p).map Mem.a ∧ Own memL (.slice mA ms'.length mC) T_Member ms' Lm' ∧ (∀ m ∈ ms', m.parts.length ≤ m.cap ∧ w0.heap.size ≤ m.lo) ∧ Hp w0 w2 (Lm' ++ M) (F ++ ms'.map memF) := by
 refine ret_of fn_group_assigned rfl rfl ?_
 refine Zs<|Zr<|bxA H rfl rfl fun w1 b2 H =>alo H z_Group rfl fun w2 b4 H =>Zn<|Zs<|Zr<|Zl (Zf fd_Group_2 rfl)<|Zl (Zd one_int H 1 rfl rfl rfl)<|Zl (add_r rfl rfl (by omega) (by omega))<|Zl (Zf fd_Group_2 rfl)<|stN H 1 (#[.int .i64 (ck), .int .i64 (wt), .int .i64 (gn + 1), .slice mA ms.length mC, .slice oA os.length oC]) siz_int rfl rfl rfl rfl rfl (by kernel_rfl) (by kernel_rfl) fun w3 H =>Zn<|Zs ?_
 refine Zr<|Zl (Ws rfl)<|Zn<|Zs<|Zs<|Zr<|Zl (Zf fd_Group_3 rfl)<|Zl (Zd one_LMember H 1 rfl rfl rfl)<|Zl (lenS_r len_LMember rfl)<|Zl (Yi rfl)<|Zn<|Zb ?_
 refine cw_loop (τ := Nat × List ByteArray × Option Addr × Nat) [5, 7, 17, 18, 19, 20, 21, 22, 23, 24, 25, 26] (fun (k, nl, A1, c1) => [(17, .int .i64 (k : Nat)), (5, .slice A1 nl.length c1)]) (fun (k, nl, A1, c1) w' => k ≤ ms.length ∧ nl = (ms.take k).map Mem.name ∧ ∃ Ln, Own strL (.slice A1 nl.length c1) T_string nl Ln ∧ Hp w0 w' ((([(b4, .cells #[.int .i64 0, .int .i64 0, .int .i64 0, .slice none 0 0, .slice none 0 0] T_Group (0, 0)), (b2, .cells #[.int .i64 (ck), .int .i64 (wt), .int .i64 (gn + 1), .slice mA ms.length mC, .slice oA os.length oC] T_Group (0, 0))] ++ Lm ++ M) ++ Ln) ++ []) F) (fun (k, _) => ms.length - k) (0, [], none, 0) ⟨by omega, rfl, [], Own.nil, (by rw [List.append_nil, List.append_nil]; exact H)⟩ (sl2 rfl rfl) ?_
 rintro ⟨k, nl, A1, c1⟩ ρ1 w4 ⟨hk, hnl, Ln, hoN, H⟩
 show CW _ _ _ _ (updL (ovr _ _ ρ1) [(17, .int .i64 (k : Nat)), (5, .slice A1 nl.length c1)]) w4
 have hnll : nl.length ≤ 6 := by rw [hnl, List.length_map, List.length_take]; omega
 refine Zs<|Zr ?_
 refine lwD (lss_r rfl rfl) rfl rfl rfl (fun h18 => ?_) (fun h18 => ?_)
 ·
  refine Zn<|Zs<|ZT rfl<|Zk<|Zs<|Zb<|Zs ?_
  obtain ⟨x, hx⟩ : ∃ x, ms[k]? = some x := ⟨_, List.getElem?_eq_getElem (by omega)⟩
  obtain ⟨g, cur, rfl, rfl, row⟩ := ho.row (by omega)
  refine Zr<|Zl (ixR_r sl_LMember rfl rfl (by first | omega | (simp only [List.length_set]; omega)))<|Zl (ldRA_r agg_Member row hx rfl rfl (H.ent (i := 2) rfl))<|alo H z_Member rfl fun w5 b7 H =>stN H 0 (#[.string (x.name), .int .i64 (x.heard), .slice x.A x.parts.length x.cap]) siz_Member rfl rfl rfl rfl rfl (by kernel_rfl) (by kernel_rfl) fun w6 H =>Zn<|Zr<|Zl (Ys rfl)<|Zl (Zf fd_Member_0 rfl)<|Zl (Zd one_string H 0 rfl rfl rfl)<|bsv (vs := [.string (x.name)]) H sl_Lstring z_string rfl rfl rfl rfl rfl rfl fun w7 b24 H =>apO (Y := strL) ap_Lstring (K := [(b24, .cells #[.string (x.name)] T_string (0, 0)), (b7, .cells #[.string (x.name), .int .i64 (x.heard), .slice x.A x.parts.length x.cap] T_Member (0, 0)), (b4, .cells #[.int .i64 (0), .int .i64 (0), .int .i64 (0), .slice none 0 0, .slice none 0 0] T_Group (0, 0)), (b2, .cells #[.int .i64 (ck), .int .i64 (wt), .int .i64 (gn + 1), .slice (some ⟨g, 0, none⟩) ms.length mC, .slice oA os.length oC] T_Group (0, 0)), (g, .cells cur T_Member (0, 0))] ++ M) (L := Ln) (M := []) H hoN (news := [x.name]) rfl rfl rfl (Src.row (m := 1) (sz := strL.sz) (H.ent (i := 0) rfl) rfl) (show (nl.length + 1) * 16 ≤ 140737488355328 by omega) rfl ?_
  intro A25 c25 w8 L25 h25 _ ho25 H
  refine Zl (Ws rfl)<|Zn<|Zr<|Zl (add_r rfl rfl (by omega) (by omega))<|Zl (Yi rfl)<|Zn ?_
  exact ⟨(k + 1, nl ++ [x.name], A25, c25), ⟨by omega, by rw [take_snoc hx, List.map_append, hnl]; rfl, L25, ho25, H.forget (.cons _ (.cons _ (List.Sublist.refl _))) (fun _ h => h)⟩, sl2 rfl rfl, by repeat (first | exact Agr.refl _ _ | exact agr_ovr | refine agr_upd rfl ?_ | refine agr_updL _ rfl ?_ | refine agr_ovr2 rfl ?_), by show ms.length - (k + 1) < ms.length - k; omega⟩
 ·
  refine Zn<|Zs<|ZF rfl<|Zx<|Zs<|Zs ?_
  have hke : k = ms.length := by omega
  rw [hke, List.take_length] at hnl
  subst hnl
  obtain ⟨lo2, hi2, H⟩ := Hp.sealO (K := [(b4, .cells #[.int .i64 0, .int .i64 0, .int .i64 0, .slice none 0 0, .slice none 0 0] T_Group (0, 0)), (b2, .cells #[.int .i64 (ck), .int .i64 (wt), .int .i64 (gn + 1), .slice mA ms.length mC, .slice oA os.length oC] T_Group (0, 0))] ++ Lm ++ M) (M := []) H hoN
  have hlo1 := H.size
  refine Zr<|Zl (Ys rfl)<|Zl (Yi rfl)<|cal cb_group_Assign (by have hA := assign_ok (ms.map Mem.name) A1 c1 p _ ((H.rd0 0 rfl)) (by simp; omega) hp; exact hA) rfl rfl ?_
  rintro _ w9 ⟨out, B, d, rfl, hbd, hout, hrB, hrx, hb⟩
  obtain ⟨lo3, h3⟩ : ∃ n, w4.heap.size = n := ⟨_, rfl⟩
  obtain ⟨hi3, h4⟩ : ∃ n, w9.heap.size = n := ⟨_, rfl⟩
  rw [h3] at hrB hrx
  rw [h4] at hrB hrx
  have hlw : w0.heap.size ≤ lo3 := by rw [← h3]; exact hlo1
  replace H := H.learn hb (FIls lo3 hi3 B out) ⟨hrB, fun x hx => (hrx x hx).1⟩ (Nat.le_of_eq h3) (Nat.le_of_eq h4.symm)
  have hol : out.length = ms.length := by have := congrArg List.length hout; rw [assignL_len] at this; simpa using this
  replace H := Hp.ilRow H 0 rfl
  refine Zl (lenS_r len_LLint rfl)<|Zl (Yi rfl)<|Zn<|Zb ?_
  refine cw_loop (τ := Nat × List Mem) [8, 9, 31, 32, 33, 34, 35, 36, 37, 38, 39, 40, 41, 42] (fun (i, _) => [(31, .int .i64 (i : Nat))]) (fun (i, ms1) w' => i ≤ ms.length ∧ ms1.length = ms.length ∧ ms1.drop i = ms.drop i ∧ (ms1.take i).map Mem.a = ((asgM ms p).take i).map Mem.a ∧ (∀ m ∈ ms1.take i, m.parts.length ≤ m.cap ∧ w0.heap.size ≤ m.lo) ∧ ∃ Lm1, Own memL (.slice mA ms1.length mC) T_Member ms1 Lm1 ∧ Hp w0 w' ([(b4, .cells #[.int .i64 0, .int .i64 0, .int .i64 0, .slice none 0 0, .slice none 0 0] T_Group (0, 0)), (b2, .cells #[.int .i64 (ck), .int .i64 (wt), .int .i64 (gn + 1), .slice mA ms1.length mC, .slice oA os.length oC] T_Group (0, 0))] ++ Lm1 ++ M) ((FRd ilL lo3 hi3 B out :: FIls lo3 hi3 B out :: F) ++ (ms1.take i).map memF)) (fun (i, _) => ms.length - i) (0, ms) ⟨by omega, rfl, rfl, rfl, by simp, Lm, ho, H.forget (by simp) (fun f hf => by simp only [List.take_zero, List.map_nil, List.append_nil, List.mem_cons] at hf ⊢; grind)⟩ (sl1 rfl) ?_
  rintro ⟨i, ms1⟩ ρ2 w10 ⟨hi, hm1, hdr, htk, hlc, Lm1, hom, H⟩
  show CW _ _ _ _ (updL (ovr _ _ ρ2) [(31, .int .i64 (i : Nat))]) w10
  refine Zs<|Zr ?_
  refine lwD (lss_r rfl rfl) rfl rfl rfl (fun h32 => ?_) (fun h32 => ?_)
  ·
   refine Zn<|Zs<|ZT rfl<|Zk<|Zs<|Zb<|Zs ?_
   obtain ⟨x, hx⟩ : ∃ x, out[i]? = some x := ⟨_, List.getElem?_eq_getElem (by omega)⟩
   have hmx := List.mem_of_getElem? hx
   obtain ⟨y, hy⟩ : ∃ y, ms1[i]? = some y := ⟨_, List.getElem?_eq_getElem (by omega)⟩
   have hyt := drop_at hdr hy
   obtain ⟨g, cur, rfl, rfl, row⟩ := hom.row (by omega)
   refine Zr<|Zl (Yi rfl)<|ixF H 0 rfl sl_LLint rfl rfl (by omega) (by omega) rfl fun bq11 o11 x11 e11 => ?_
   obtain rfl : x = x11 := by have := e11.at_; rw [hx] at this; exact Option.some.inj this
   refine Zl (ld_r one_Lint rfl (e11.cl 0 _ rfl))<|Zl (Wi rfl)<|Zl (Ws rfl)<|Zn<|Zr<|Zl (Zf fd_Group_3 rfl)<|Zl (Zd one_LMember H 1 rfl rfl rfl)<|Zl (Yi rfl)<|Zl (Ys rfl)<|Zl (ixR_r sl_LMember rfl rfl (by first | omega | (simp only [List.length_set]; omega)))<|Zl (Zf fd_Member_2 rfl)<|stR H 2 ({ y with parts := x.es, A := x.A, cap := x.cap, lo := lo3, hi := hi3 }) siz_Lint row hy 2 rfl rfl rfl rfl rfl rfl (by kernel_rfl) fun w13 cur12 row12 H => ?_
   have hs14 : (ms1.set i ({ y with parts := x.es, A := x.A, cap := x.cap, lo := lo3, hi := hi3 }))[i]? = some ({ y with parts := x.es, A := x.A, cap := x.cap, lo := lo3, hi := hi3 }) := List.getElem?_set_self (getE hy).1
   refine Zn<|Zr<|Zl (add_r rfl rfl (by omega) (by omega))<|Zl (Yi rfl)<|Zn ?_
   replace H := Hp.ilPart H 1 rfl hmx
   have hown := Row.own (g := g) (e := T_Member) row12
   have z3 := take_set2 (show i < ms1.length by omega) ({ y with parts := x.es, A := x.A, cap := x.cap, lo := lo3, hi := hi3 })
   have hle : (assignL (ms.map Mem.name) p)[i]? = some x.es := by rw [← hout, List.getElem?_map, hx]; rfl
   refine ⟨(i + 1, ms1.set i { y with parts := x.es, A := x.A, cap := x.cap, lo := lo3, hi := hi3 }), ⟨by omega, by rw [List.length_set]; exact hm1, ?_, ?_, ?_, _, hown, ?_⟩, sl1 rfl, by repeat (first | exact Agr.refl _ _ | exact agr_ovr | refine agr_upd rfl ?_ | refine agr_updL _ rfl ?_ | refine agr_ovr2 rfl ?_), by show ms.length - (i + 1) < ms.length - i; omega⟩
   ·
    rw [List.drop_set_of_lt (by omega)]; exact drop_more2 hdr (by omega)
   ·
    rw [z3, take_snoc (asg_at hyt hle), List.map_append, List.map_append, htk]; rfl
   ·
    rw [z3]; intro m hm; rcases List.mem_append.1 hm with hm | hm; exact hlc m hm; rw [List.mem_singleton.1 hm]; exact ⟨(hrx x hmx).2, hlw⟩
   ·
    rw [List.length_set]; exact H.forget (List.Sublist.refl _) (fun f hf => by rw [z3] at hf; simp only [List.map_append, List.map_cons, List.map_nil, List.mem_append, List.mem_cons, List.mem_nil_iff, or_false] at hf ⊢; grind)
  ·
   refine Zn<|Zs<|ZF rfl<|Zx<|Zs<|Zr<|Zl (Zw agg_Group H 1 rfl rfl rfl)<|stN H 0 (#[.int .i64 (ck), .int .i64 (wt), .int .i64 (gn + 1), .slice mA ms1.length mC, .slice oA os.length oC]) siz_Group rfl rfl rfl rfl rfl (by kernel_rfl) (by kernel_rfl) fun w15 H =>Zn<|Zt ?_
   obtain rfl : i = ms.length := by omega
   rw [show ms.length = ms1.length from hm1.symm, List.take_length, show ms1.length = (asgM ms p).length by unfold asgM; rw [List.length_zipWith, assignL_len, List.length_map, hm1]; omega, List.take_length] at htk
   rw [← hm1, List.take_length] at hlc H
   exact finC (cs0 := #[.int .i64 (ck), .int .i64 (wt), .int .i64 (gn + 1), .slice mA ms1.length mC, .slice oA os.length oC]) rfl agg_Group rfl (H.ent (i := 0) rfl) rfl ⟨ms1, Lm1, rfl, htk, hom, hlc, H.forget (.cons _ (.cons _ (List.Sublist.refl _))) (fun f hf => by simp only [List.mem_cons, List.mem_append]; grind)⟩
end Go.Proofs.Ytemnchkebhclpaa
end
