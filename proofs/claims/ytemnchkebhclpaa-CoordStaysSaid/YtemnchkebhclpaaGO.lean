/- GO: a part of the proofs over this seat: what stands in its theorems holds for every input that they name. -/
import Derived.Test.YtemnchkebhclpaaGN
import Derived.Test.YtemnchkebhclpaaCS
import Derived.Test.YtemnchkebhclpaaEngZ
open Go.Eng renaming lw_nil → Zn, cw_seq → Zs, cw_region → Zr, cw_skip → Zk, cw_ret → Zt, cw_block → Zb, cw_exit → Zx, mvI_r → Yi, mvB_r → Yb, mvS_r → Ys, mvP_r → Yp, mvT_r → Yt, mvU_r → Yu, mvA_r → Ya, asI_r → Wi, asB_r → Wb, asS_r → Ws, asP_r → Wp, asT_r → Wt, fad_r → Zf, exI_r → Xi, exA_r → Xa, exB_r → Xb, exS_r → Xs, pkTB_r → Kt, pkFB_r → Kf, cw_true → ZT, cw_false → ZF
section
namespace Go.Proofs.Ytemnchkebhclpaa
open Go Go.Eng Go.RowKit
set_option linter.unusedSimpArgs false
def ltI (a b : Int) : Bool := decide (a < b)
set_option maxHeartbeats 4000000 in
set_option maxRecDepth 10000 in
theorem insSort_ok {w0 w : World} {M : List (Nat × Obj)} {F : List Fact} {g n : Nat} {u : Array Value} (es : List Int) (c : Nat) (H : Hp w0 w ((g, .cells u T_int (0, 0)) :: M) F) (row : Row intL es c u) (hn : n = es.length) (h12 : es.length ≤ 1000) :
  Ret Try.prog i_slices_insertionSortOrdered_int [.slice (some ⟨g, 0, none⟩) n c, .int .i64 0, .int .i64 (n : Nat)] w fun v w2 => ∃ u2, v = .tuple #[] ∧ Row intL (isortN ltI n es) c u2 ∧ Hp w0 w2 ((g, .cells u2 T_int (0, 0)) :: M) F := by
 refine ret_of fn_slices_insertionSortOrdered_int rfl rfl ?_
 have hle := row.le
 refine Zs<|Zr<|Zl (Yi rfl)<|Zl (add_r rfl rfl (by omega) (by omega))<|Zl (Wi rfl)<|Zn<|Zb ?_
 refine cw_loop (τ := Nat × List Int × Array Value) [6, 7, 10, 11, 12, 13, 14, 15, 16, 17, 18, 19, 20, 21, 22, 23, 24, 25, 26, 27, 28, 29, 30, 31, 32, 33, 34, 35, 36, 37, 38, 39, 40, 41, 42, 43, 44, 45, 46, 47, 48] (fun (i, _, _) => [(6, .int .i64 (i : Nat))]) (fun (i, l, u1) w' => 1 ≤ i ∧ i ≤ n + 1 ∧ (n ≠ 0 → i ≤ n) ∧ l = isortN ltI i es ∧ Row intL l c u1 ∧ Hp w0 w' ((g, .cells u1 T_int (0, 0)) :: M) F) (fun (i, _) => n + 1 - i) (1, es, u) ⟨by omega, by omega, by omega, rfl, row, H⟩ (sl1 rfl) ?_
 rintro ⟨i, l, u1⟩ ρ1 w1 ⟨hi1, hin, hi0, hl, row1, H⟩
 show CW _ _ _ _ (updL (ovr _ _ ρ1) [(6, .int .i64 (i : Nat))]) w1
 have hll : l.length = n := by rw [hl, isortN_len, hn]
 refine Zs<|Zs<|Zr<|Zl (Yi rfl)<|Zl (Yi rfl) ?_
 refine lwD (lss_r rfl rfl) rfl rfl rfl (fun h12 => ?_) (fun h12 => ?_)
 ·
  refine Zn<|ZT rfl<|Zk<|Zs<|Zb<|Zs<|Zr<|Zl (Yi rfl)<|Zl (Wi rfl)<|Zn<|Zb ?_
  refine cw_loop (τ := Nat × List Int × Array Value) [7, 16, 17, 18, 19, 20, 21, 22, 23, 24, 25, 26, 27, 28, 29, 30, 31, 32, 33, 34, 35, 36, 37, 38, 39, 40, 41, 42, 43, 44, 45, 46, 47, 48] (fun (j, _, _) => [(7, .int .i64 (j : Nat))]) (fun (j, m, u2) w' => j ≤ i ∧ m.length = n ∧ sink ltI j m = isortN ltI (i + 1) es ∧ Row intL m c u2 ∧ Hp w0 w' ((g, .cells u2 T_int (0, 0)) :: M) F) (fun (j, _) => j) (i, l, u1) ⟨by omega, hll, by rw [hl]; rfl, row1, H⟩ (sl1 rfl) ?_
  rintro ⟨j, m, u2⟩ ρ2 w2 ⟨hj, hml, hm, row2, H⟩
  show CW _ _ _ _ (updL (ovr _ _ ρ2) [(7, .int .i64 (j : Nat))]) w2
  refine Zs<|Zs ?_
   
  obtain ⟨a, ha0⟩ : ∃ a, a = m.getD (j - 1) 0 := ⟨_, rfl⟩
  obtain ⟨b, hb0⟩ : ∃ b, b = m.getD j 0 := ⟨_, rfl⟩
  refine cw_draw mixed [0, 1, 2, 3, 4, 5, 6, 7, 8, 9, 10, 11, 12, 13, 14] [] [13] [0, 1, 2, 3, 4, 5, 6, 8, 9, 10, 11, 14] (sp [(13, Sp.one (.bool (decide (b < a))))]) (by kernel_rfl) (by kernel_rfl) (by kernel_rfl) (by kernel_rfl) (fun _ _ _ h => h) (sp_st _) ?_
  refine aw rfl rfl rfl rfl rfl (fun w' hw' => Yi rfl)<|aw rfl rfl rfl rfl rfl (fun w' hw' => Yi rfl) ?_
  refine awD rfl rfl rfl rfl rfl (fun w' hw' => gtr_r rfl rfl) (fun h18 => ?_) (fun h18 => ?_)
  ·
   obtain ⟨q, rfl⟩ : ∃ q, j = q + 1 := ⟨j - 1, by omega⟩
   have ha : m[q]? = some a := by rw [ha0]; exact getD_some 0 (by omega)
   have hb : m[q + 1]? = some b := by rw [hb0]; exact getD_some 0 (by omega)
   have ha2 : (m.set (q + 1) a)[q]? = some a := by rw [List.getElem?_set_ne (by omega)]; exact ha
   refine aw rfl rfl rfl rfl rfl (fun w' hw' => Yb rfl)<|aw rfl rfl rfl rfl rfl (fun w' hw' => Ys rfl)<|aw rfl rfl rfl rfl rfl (fun w' hw' => Yi rfl)<|aw rfl rfl rfl rfl rfl (fun w' hw' => ixR_r sl_Lint rfl rfl (by first | omega | (simp only [List.length_set]; omega)))<|aw rfl rfl rfl rfl rfl (fun w' hw' => ldR_r one_int row2 hb 0 rfl ((H.later hw').ent (i := 0) rfl) rfl)<|aw rfl rfl rfl rfl rfl (fun w' hw' => Ys rfl)<|aw rfl rfl rfl rfl rfl (fun w' hw' => Yi rfl)<|aw rfl rfl rfl rfl rfl (fun w' hw' => subE_r ((q : Nat) : Int) rfl rfl (by omega) (by omega) (by omega))<|aw rfl rfl rfl rfl rfl (fun w' hw' => ixR_r sl_Lint rfl rfl (by first | omega | (simp only [List.length_set]; omega)))<|aw rfl rfl rfl rfl rfl (fun w' hw' => ldR_r one_int row2 ha 0 rfl ((H.later hw').ent (i := 0) rfl) rfl)<|awCalV cb_cmp_Less_int rfl rfl rfl rfl rfl (fun w' hw' => less_int_ok b a w') rfl<|aw rfl rfl rfl rfl rfl (fun w' hw' => Kt rfl rfl)<|aw_nil ?_
   intro w3 hw' hF
   replace H := H.later hw'; clear hw' hF
   refine Zn ?_
   refine cw_if rfl (fun hc30 => ?_) (fun hc30 => ?_)
   ·
    refine Zk<|Zs<|Zb ?_
       
    refine cw_draw mixed [0, 1, 2, 3, 4, 5, 6, 7, 8, 9, 10, 11, 12, 13, 14] [15, 16, 17] [] [0, 1, 2, 3, 4, 5, 6, 7, 8, 10, 11, 12, 14] (sp []) (by kernel_rfl) (by kernel_rfl) (by kernel_rfl) (by kernel_rfl) (fun _ _ _ h => h) (sp_st _) ?_
    refine aw rfl rfl rfl rfl rfl (fun w' hw' => Ys rfl)<|aw rfl rfl rfl rfl rfl (fun w' hw' => Yi rfl)<|aw rfl rfl rfl rfl rfl (fun w' hw' => Ys rfl)<|aw rfl rfl rfl rfl rfl (fun w' hw' => Yi rfl)<|aw rfl rfl rfl rfl rfl (fun w' hw' => subE_r ((q : Nat) : Int) rfl rfl (by omega) (by omega) (by omega))<|aw rfl rfl rfl rfl rfl (fun w' hw' => Ys rfl)<|aw rfl rfl rfl rfl rfl (fun w' hw' => Yi rfl)<|aw rfl rfl rfl rfl rfl (fun w' hw' => subE_r ((q : Nat) : Int) rfl rfl (by omega) (by omega) (by omega))<|aw rfl rfl rfl rfl rfl (fun w' hw' => ixR_r sl_Lint rfl rfl (by first | omega | (simp only [List.length_set]; omega)))<|aw rfl rfl rfl rfl rfl (fun w' hw' => ldR_r one_int row2 ha 0 rfl ((H.later hw').ent (i := 0) rfl) rfl)<|aw rfl rfl rfl rfl rfl (fun w' hw' => Ys rfl)<|aw rfl rfl rfl rfl rfl (fun w' hw' => Yi rfl)<|aw rfl rfl rfl rfl rfl (fun w' hw' => ixR_r sl_Lint rfl rfl (by first | omega | (simp only [List.length_set]; omega)))<|aw rfl rfl rfl rfl rfl (fun w' hw' => ldR_r one_int row2 hb 0 rfl ((H.later hw').ent (i := 0) rfl) rfl) ?_
    refine aw rfl rfl rfl rfl rfl (fun w' hw' => ixR_r sl_Lint rfl rfl (by first | omega | (simp only [List.length_set]; omega)))<|aw_nil ?_
    intro w4 hw' hF
    replace H := H.later hw'; clear hw' hF
    refine stR H 0 (a) siz_int row2 hb 0 rfl rfl rfl rfl rfl rfl (by kernel_rfl) fun w6 cur5 row5 H => ?_
    have hs7 : (m.set (q + 1) (a))[(q + 1)]? = some (a) := List.getElem?_set_self (getE hb).1
    refine Zl (ixR_r sl_Lint rfl rfl (by first | omega | (simp only [List.length_set]; omega)))<|stR H 0 (b) siz_int row5 ha2 0 rfl rfl rfl rfl rfl rfl (by kernel_rfl) fun w9 cur8 row8 H => ?_
    have hs10 : ((m.set (q + 1) (a)).set q (b))[q]? = some (b) := List.getElem?_set_self (getE ha2).1
    refine Zn<|Zr<|Zl (Yi rfl)<|Zl (subE_r ((q : Nat) : Int) rfl rfl (by omega) (by omega) (by omega))<|Zl (Wi rfl)<|Zn ?_
    exact ⟨(q, (m.set (q + 1) a).set q b, _), ⟨by omega, by simp [hml], by rw [← hm, sink_go ha hb hc30], row8, H⟩, sl1 rfl, by repeat (first | exact Agr.refl _ _ | exact agr_ovr | refine agr_upd rfl ?_ | refine agr_updL _ rfl ?_ | refine agr_ovr2 rfl ?_), by show q < q + 1; omega⟩
   ·
    refine Zx<|Zr<|Zl (Yi rfl)<|Zl (add_r rfl rfl (by omega) (by omega))<|Zl (Wi rfl)<|Zn ?_
    have hm2 : m = isortN ltI (i + 1) es := by rw [← hm, sink_stop ha hb hc30]
    exact ⟨(i + 1, m, u2), ⟨by omega, by omega, by omega, hm2, row2, H⟩, sl1 rfl, by repeat (first | exact Agr.refl _ _ | exact agr_ovr | refine agr_upd rfl ?_ | refine agr_updL _ rfl ?_ | refine agr_ovr2 rfl ?_), by show n + 1 - (i + 1) < n + 1 - i; omega⟩
  ·
   refine aw rfl rfl rfl rfl rfl (fun w' hw' => Yb rfl)<|awN rfl rfl rfl rfl<|awN rfl rfl rfl rfl<|awN rfl rfl rfl rfl<|awN rfl rfl rfl rfl<|awN rfl rfl rfl rfl<|awN rfl rfl rfl rfl<|awN rfl rfl rfl rfl<|awN rfl rfl rfl rfl<|awN rfl rfl rfl rfl<|awN rfl rfl rfl rfl<|aw rfl rfl rfl rfl rfl (fun w' hw' => Kf rfl rfl)<|aw_nil ?_
   intro w11 hw' hF
   replace H := H.later hw'; clear hw' hF
   refine Zn<|ZF rfl<|Zx<|Zr<|Zl (Yi rfl)<|Zl (add_r rfl rfl (by omega) (by omega))<|Zl (Wi rfl)<|Zn ?_
   have hm2 : m = isortN ltI (i + 1) es := by rw [← hm, show j = 0 by omega]; rfl
   exact ⟨(i + 1, m, u2), ⟨by omega, by omega, by omega, hm2, row2, H⟩, sl1 rfl, by repeat (first | exact Agr.refl _ _ | exact agr_ovr | refine agr_upd rfl ?_ | refine agr_updL _ rfl ?_ | refine agr_ovr2 rfl ?_), by show n + 1 - (i + 1) < n + 1 - i; omega⟩
 ·
  refine Zn<|ZF rfl<|Zx ?_
  have hfin := sort_fin (n := n) hl hi1 hin hi0 (by omega)
  subst hfin
  dsimp only [thn, Rnd, iblk, Nat.beq, cond]
  exact fin0 rfl ⟨u1, rfl, row1, H⟩
end Go.Proofs.Ytemnchkebhclpaa
end

section
namespace Go.Proofs.Ytemnchkebhclpaa
open Go Go.Eng Go.RowKit
set_option linter.unusedSimpArgs false
theorem fin0r {P : Program} {fn : Func} {R : Value → World → Prop} {ρ : Env} {w : World} (h : fn.results = #[]) (hR : R (.tuple #[]) w) : Fin P fn R .ret ρ w := fin0 (ρ := ρ) h hR
section
variable {P : Program} {n : Nat} {Q : Post} {ρ : Env} {w : World} {ops : Array Oper} {rest : List Oper} {d : Nat} {t : TypeId} {p : String} {af : Array Edge} {g : Option (Nat × Bool)} {dst : Option Nat}
theorem sidx_r {x y : Operand} {T : TypeId} {s : ByteArray} {k : IntKind} {i : Nat} {b : UInt8} (hT : strB P T = true) (hx : ev ρ x = .string s) (hy : ev ρ y = .int k (i : Nat)) (hb : s[i]? = some b) : (execOp (ev ρ) (Og dst (.index T x y) t p af g)).run P w = .ok (.value (.int .u8 (b.toNat : Nat))) w := by
 simp only [execOp, hx, hy, Instr.index, asIntOf, Sem.run_bind, run_underlying (str_of hT), Result.andThen_ok, Sem.run_pure]
 simp [hb]
theorem sidxL {x y : Operand} {T m : Nat} {s : ByteArray} {k : IntKind} {i : Nat} (hT : strB P T = true) (hx : ev ρ x = .string s) (hy : ev ρ y = .int k (i : Nat)) (hs : s.size = m) (hi : i < m) (hdn : Nat.blt d n = true) (h : ∀ b : UInt8, LW P n ops rest Q (upd ρ d (.int .u8 (b.toNat : Nat))) w) : LW P n ops (Og (some d) (.index T x y) t p af none :: rest) Q ρ w := by
 have hb : s[i]? = some s[i] := getElem?_pos s i (by omega)
 exact l1 (sidx_r hT hx hy hb) rfl rfl hdn (h _)
end
set_option maxHeartbeats 4000000 in
set_option maxRecDepth 10000 in
theorem len64_ok (n : Nat) (w : World) (hn : n < 256) : Ret Try.prog i_math_bits_Len64 [.int .u64 (n : Nat)] w fun v w2 => ∃ k : Int, v = .int .i64 k ∧ Below w.heap.size w w2 := by
 refine ret_of fn_math_bits_Len64 rfl rfl ?_
 have H := Hp.start w
 refine Zs<|Zr<|Zl (Wi rfl)<|Zn<|Zs<|Zs<|Zr<|Zl (Yi rfl)<|Zl (geqF_r rfl rfl (by omega))<|Zn<|ZF rfl<|Zk<|Zs<|Zs ?_
 refine Zr<|Zl (Yi rfl)<|Zl (geqF_r rfl rfl (by omega))<|Zn<|ZF rfl<|Zk<|Zs<|Zs<|Zr<|Zl (Yi rfl)<|Zl (geqF_r rfl rfl (by omega))<|Zn<|ZF rfl<|Zk ?_
 refine Zs<|Zr<|Zl (Yi rfl)<|Zl (Yi rfl)<|Zl (cvI_r (b := ((n : Nat) : Int)) int_uint64 int_byte rfl (by show ((n : Nat) : Int) % 256 = n; omega))<|sidxL str_string rfl rfl (m := 256) (by kernel_rfl) hn rfl fun b22 => ?_
 have hb22 := b22.toNat_lt
 refine Zl (cvI_r (b := ((b22.toNat : Nat) : Int)) int_byte int_int rfl (wrapI (by omega) (by omega)))<|Zl (add_r rfl rfl (by omega) (by omega))<|Zl (Wi rfl)<|Zn<|Zt ?_
 exact fin1 rfl rfl ⟨_, rfl, H.below⟩
set_option maxHeartbeats 4000000 in
set_option maxRecDepth 10000 in
theorem len_ok (n : Nat) (w : World) (hn : n < 256) : Ret Try.prog i_math_bits_Len [.int .u64 (n : Nat)] w fun v w2 => ∃ k : Int, v = .int .i64 k ∧ Below w.heap.size w w2 := by
 refine ret_of fn_math_bits_Len rfl rfl ?_
 have H := Hp.start w
 refine Zs<|Zr<|Zl (Wi rfl)<|Zn<|Zs<|ZF rfl<|Zk<|Zs<|Zr<|Zl (Yi rfl)<|cal cb_math_bits_Len64 (len64_ok n _ hn) rfl rfl ?_
 rintro _ w1 ⟨k, rfl, hb⟩; replace H := H.later hb; clear hb
 refine Zl (Wi rfl)<|Zn<|Zt ?_
 exact fin1 rfl rfl ⟨_, rfl, H.below⟩
set_option maxHeartbeats 4000000 in
set_option maxRecDepth 10000 in
theorem pdq_ok {w0 w : World} {M : List (Nat × Obj)} {F : List Fact} {g n : Nat} {u : Array Value} (es : List Int) (c : Nat) (H : Hp w0 w ((g, .cells u T_int (0, 0)) :: M) F) (row : Row intL es c u) (hn : n = es.length) (h12 : es.length ≤ 12) (k : Int) :
  Ret Try.prog i_slices_pdqsortOrdered_int [.slice (some ⟨g, 0, none⟩) n c, .int .i64 0, .int .i64 (n : Nat), .int .i64 k] w fun v w2 => ∃ u2, v = .tuple #[] ∧ Row intL (isortN ltI n es) c u2 ∧ Hp w0 w2 ((g, .cells u2 T_int (0, 0)) :: M) F := by
 refine ret_of fn_slices_pdqsortOrdered_int rfl rfl ?_
 have hle := row.le
 refine Zs<|Zr<|Zl (Wb rfl)<|Zn<|Zs<|Zr<|Zl (Wb rfl)<|Zn<|Zb ?_
 refine cw_loop (τ := Unit) [1, 2, 3, 8, 9, 10, 11, 12, 13, 14, 15, 16, 17, 18, 19, 20, 21, 22, 23, 24, 25, 26, 27, 28, 29, 30, 31, 32, 33, 34, 35, 36, 37, 38, 39, 40, 41, 42, 43, 44, 45, 46, 47, 48, 49, 50, 51, 52, 53, 54, 55, 56, 57, 58, 59, 60, 61, 62, 63, 64, 65, 66, 67, 68, 69, 70, 71, 72, 73, 74, 75, 76, 77, 78, 79, 80, 81, 82, 83, 84, 85, 86, 87, 88, 89, 90, 91, 92, 93, 94, 95, 96, 97, 98, 99, 100, 101, 102, 103, 104, 105, 106, 107, 108, 109, 110, 111, 112, 113, 114, 115, 116, 117, 118, 119, 120, 121, 122, 123, 124, 125, 126, 127, 128, 129, 130, 131, 132, 133] (fun _ => [(1, .int .i64 0), (2, .int .i64 (n : Nat)), (3, .int .i64 k)]) (fun _ w' => w' = w) (fun _ => 0) () rfl (sl3 rfl rfl rfl) ?_
 rintro _ ρ1 _ rfl
 show CW _ _ _ _ (updL (ovr _ _ ρ1) [(1, .int .i64 0), (2, .int .i64 (n : Nat)), (3, .int .i64 k)]) _
 refine Zb<|Zs<|Zr<|Zl (Yi rfl)<|Zl (Yi rfl)<|Zl (subE_r ((n : Nat) : Int) rfl rfl (by omega) (by omega) (by omega))<|Zl (Wi rfl)<|Zn<|Zs<|Zs<|Zr<|Zl (Yi rfl)<|Zl (leqT_r rfl rfl (by omega))<|Zn ?_
 refine ZT rfl<|Zs<|Zr<|Zl (Ys rfl)<|Zl (Yi rfl)<|Zl (Yi rfl)<|cal cb_slices_insertionSortOrdered_int (insSort_ok es c H row hn (by omega)) rfl rfl ?_
 rintro _ w1 ⟨u2, rfl, row2, H⟩
 refine Zn<|Zt ?_
 dsimp only [thn, Rnd, iblk]
 exact fin0r rfl ⟨u2, rfl, row2, H⟩
set_option maxHeartbeats 4000000 in
set_option maxRecDepth 10000 in
theorem sort_row {w0 w : World} {M : List (Nat × Obj)} {F : List Fact} {g n : Nat} {u : Array Value} (es : List Int) (c : Nat) (H : Hp w0 w ((g, .cells u T_int (0, 0)) :: M) F) (row : Row intL es c u) (hn : n = es.length) (h12 : es.length ≤ 12) :
  Ret Try.prog i_slices_Sort_Lint_int [.slice (some ⟨g, 0, none⟩) n c] w fun v w2 => ∃ u2, v = .tuple #[] ∧ Row intL (isortN ltI n es) c u2 ∧ Hp w0 w2 ((g, .cells u2 T_int (0, 0)) :: M) F := by
 refine ret_of fn_slices_Sort_Lint_int rfl rfl ?_
 have hle := row.le
 refine Zs<|Zr<|Zl (Ys rfl)<|Zl (lenS_r len_Lint rfl)<|Zl (Wi rfl)<|Zn<|Zr<|Zl (Ys rfl)<|Zl (Yi rfl)<|Zl (Yi rfl)<|Zl (cvI_r (b := ((n : Nat) : Int)) int_int int_uint rfl (by show ((n : Nat) : Int) % 18446744073709551616 = n; omega))<|cal cb_math_bits_Len (len_ok n _ (by omega)) rfl rfl ?_
 rintro _ w1 ⟨k, rfl, hb⟩; replace H := H.later hb; clear hb
 refine cal cb_slices_pdqsortOrdered_int (pdq_ok es c H row hn h12 k) rfl rfl ?_
 rintro _ w2 ⟨u2, rfl, row2, H⟩
 refine Zn ?_
 show Fin Try.prog Try.f100 _ .normal _ _
 exact fin0 rfl ⟨u2, rfl, row2, H⟩
end Go.Proofs.Ytemnchkebhclpaa
end

section
namespace Go.Proofs.Ytemnchkebhclpaa
open Go Go.Eng Go.RowKit
set_option linter.unusedSimpArgs false
/-- what is said twice is said once -/
def uniq : List Int → List Int
 | [] => []
 | [a] => [a]
 | a :: b :: l => if a = b then uniq (b :: l) else a :: uniq (b :: l)
theorem uniq_snoc : ∀ (l : List Int) (a x : Int), uniq (l ++ [a, x]) = if a = x then uniq (l ++ [a]) else uniq (l ++ [a]) ++ [x]
 | [], a, x => by
  show (if a = x then [x] else [a, x]) = if a = x then [a] else [a] ++ [x]
  by_cases h : a = x
  ·
   rw [if_pos h, if_pos h, h]
  ·
   rw [if_neg h, if_neg h]; rfl
 | [b], a, x => by
  show (if b = a then (if a = x then [x] else [a, x]) else b :: (if a = x then [x] else [a, x])) = if a = x then (if b = a then [a] else [b, a]) else (if b = a then [a] else [b, a]) ++ [x]
  by_cases h : a = x <;> by_cases h2 : b = a <;> simp [h, h2]
 | b :: c :: l, a, x => by
  have ih := uniq_snoc (c :: l) a x
  show (if b = c then uniq (c :: l ++ [a, x]) else b :: uniq (c :: l ++ [a, x])) = if a = x then (if b = c then uniq (c :: l ++ [a]) else b :: uniq (c :: l ++ [a])) else (if b = c then uniq (c :: l ++ [a]) else b :: uniq (c :: l ++ [a])) ++ [x]
  rw [ih]
  by_cases h : a = x <;> by_cases h2 : b = c <;> simp [h, h2]
theorem take_two {l : List Int} {k : Nat} {a x : Int} (ha : l[k]? = some a) (hx : l[k + 1]? = some x) : l.take (k + 2) = l.take k ++ [a, x] := by
 rw [take_snoc hx, take_snoc ha]; simp
theorem uniq_step {l : List Int} {k : Nat} {a x : Int} (ha : l[k]? = some a) (hx : l[k + 1]? = some x) : uniq (l.take (k + 2)) = if a = x then uniq (l.take (k + 1)) else uniq (l.take (k + 1)) ++ [x] := by
 rw [take_two ha hx, uniq_snoc, take_snoc ha]
theorem Row.clr {α : Type} {Y : Lay α} {es : List α} {c k o : Nat} {cur : Array Value} {zs : List Value} (h : Row Y es c cur) (hk : k ≤ es.length) (ho : k * Y.sz ≤ o) (hz : o + zs.length ≤ cur.size) : Row Y (es.take k) c (lay cur o zs) := by
 refine ⟨by rw [lay_size hz, h.size], ?_, by rw [List.length_take]; have := h.le; omega, h.max⟩
 rw [List.length_take, Nat.min_eq_left hk, lay_take ho (by omega), h.pre hk]
theorem rowS {m : List Int} {c a i : Nat} {u : Array Value} {y : Int} (hR : Row intL m c u) (h : m[a]? = some y) (e : i = a) : u[i]? = some (.int .i64 y) := by
 subst e
 have := hR.get (j := 0) h (v := .int .i64 y) rfl
 rwa [show i * intL.sz + 0 = i by show i * 1 + 0 = i; omega] at this
theorem drop_get {m es : List Int} {a b : Nat} (h : m.drop a = es.drop a) (hb : a ≤ b) : m[b]? = es[b]? := by
 have := congrArg (fun l => l[b - a]?) h
 simp only [List.getElem?_drop] at this
 rwa [show a + (b - a) = b by omega] at this
theorem drop_more {m es : List Int} {a b : Nat} (h : m.drop a = es.drop a) (hb : a ≤ b) : m.drop b = es.drop b := by
 have := congrArg (List.drop (b - a)) h
 rw [List.drop_drop, List.drop_drop] at this
 rwa [show a + (b - a) = b by omega] at this
theorem uniq_len : ∀ l : List Int, (uniq l).length ≤ l.length
 | [] => Nat.le_refl _
 | [_] => Nat.le_refl _
 | a :: b :: l => by
  have := uniq_len (b :: l)
  unfold uniq
  split <;> simp only [List.length_cons] at * <;> omega
set_option maxHeartbeats 4000000 in
set_option maxRecDepth 10000 in
theorem compact_ok {w0 w : World} {M : List (Nat × Obj)} {F : List Fact} {g n : Nat} {u : Array Value} (es : List Int) (c : Nat) (H : Hp w0 w ((g, .cells u T_int (0, 0)) :: M) F) (row : Row intL es c u) (hn : n = es.length) (h12 : es.length ≤ 1000) :
  Ret Try.prog i_slices_Compact_Lint_int [.slice (some ⟨g, 0, none⟩) n c] w fun v w2 => ∃ u2, v = .slice (some ⟨g, 0, none⟩) (uniq es).length c ∧ Row intL (uniq es) c u2 ∧ Hp w0 w2 ((g, .cells u2 T_int (0, 0)) :: M) F := by
 refine ret_of fn_slices_Compact_Lint_int rfl rfl ?_
 have hle := row.le
 refine Zs<|Zr<|Zl (Ws rfl)<|Zn<|Zs<|Zs<|Zr<|Zl (Ys rfl)<|Zl (lenS_r len_Lint rfl) ?_
 refine lwD (lss_r rfl rfl) rfl rfl rfl (fun h8 => ?_) (fun h8 => ?_)
 ·
  have hu : uniq es = es := by match es, h8, hn with | [], _, _ => rfl | [_], _, _ => rfl | _ :: _ :: _, h, hn => exact absurd h (by rw [hn]; simp; omega)
  refine Zn<|ZT rfl<|Zs<|Zr<|Zl (Ys rfl)<|Zl (Ws rfl)<|Zn<|Zt ?_
  exact fin1 (v := .slice (some ⟨g, 0, none⟩) n c) rfl rfl ⟨u, by rw [hu, ← hn], by rw [hu]; exact row, H⟩
 ·
  refine Zn<|ZF rfl<|Zk<|Zs<|Zs<|Zr<|Zl (Wi rfl)<|Zn<|Zb ?_
  refine cw_loop (τ := Nat) [2, 3, 4, 5, 10, 11, 12, 13, 14, 15, 16, 17, 18, 19, 20, 21, 22, 23, 24, 25, 26, 27, 28, 29, 30, 31, 32, 33, 34, 35, 36, 37, 38, 39, 40, 41, 42, 43, 44, 45, 46, 47, 48, 49, 50, 51, 52, 53, 54, 55, 56, 57, 58, 59] (fun q => [(3, .int .i64 ((q + 1 : Nat) : Int))]) (fun q w' => q + 1 ≤ n ∧ uniq (es.take (q + 1)) = es.take (q + 1) ∧ Hp w0 w' ((g, .cells u T_int (0, 0)) :: M) F) (fun q => n - q) 0 ⟨by omega, by match es, hn with | [], _ => rfl | _ :: _, _ => rfl, H⟩ (sl1 rfl) ?_
  rintro q ρ1 w1 ⟨hqn, hu, H⟩
  show CW _ _ _ _ (updL (ovr _ _ ρ1) [(3, .int .i64 ((q + 1 : Nat) : Int))]) w1
  refine Zs<|Zs<|Zr<|Zl (Yi rfl)<|Zl (Ys rfl)<|Zl (lenS_r len_Lint rfl) ?_
  refine lwD (lss_r rfl rfl) rfl rfl rfl (fun h13 => ?_) (fun h13 => ?_)
  ·
   obtain ⟨a, ha⟩ : ∃ a, es[q]? = some a := ⟨_, List.getElem?_eq_getElem (by omega)⟩
   obtain ⟨x, hx⟩ : ∃ x, es[q + 1]? = some x := ⟨_, List.getElem?_eq_getElem (by omega)⟩
   have hst := uniq_step ha hx
   refine Zn<|ZT rfl<|Zk<|Zs<|Zb<|Zs ?_
     
   refine cw_draw mixed [0, 1, 2, 3, 4, 5, 6, 7, 8, 9] [] [] [0, 1, 2, 4, 5, 6, 7, 9] (sp []) (by kernel_rfl) (by kernel_rfl) (by kernel_rfl) (by kernel_rfl) (fun _ _ _ h => h) (sp_st _) ?_
   refine aw rfl rfl rfl rfl rfl (fun w' hw' => Ys rfl)<|aw rfl rfl rfl rfl rfl (fun w' hw' => Yi rfl)<|aw rfl rfl rfl rfl rfl (fun w' hw' => ixR_r sl_Lint rfl rfl (by first | omega | (simp only [List.length_set]; omega)))<|aw rfl rfl rfl rfl rfl (fun w' hw' => ldR_r one_int row hx 0 rfl ((H.later hw').ent (i := 0) rfl) rfl)<|aw rfl rfl rfl rfl rfl (fun w' hw' => Ys rfl)<|aw rfl rfl rfl rfl rfl (fun w' hw' => Yi rfl)<|aw rfl rfl rfl rfl rfl (fun w' hw' => subE_r ((q : Nat) : Int) rfl rfl (by omega) (by omega) (by omega))<|aw rfl rfl rfl rfl rfl (fun w' hw' => ixR_r sl_Lint rfl rfl (by first | omega | (simp only [List.length_set]; omega)))<|aw rfl rfl rfl rfl rfl (fun w' hw' => ldR_r one_int row ha 0 rfl ((H.later hw').ent (i := 0) rfl) rfl) ?_
   refine awD rfl rfl rfl rfl rfl (fun w' hw' => eql_r rfl rfl) (fun h25 => ?_) (fun h25 => ?_)
   ·
    refine aw_nil ?_
    intro w2 hw' hF
    replace H := H.later hw'; clear hw' hF
    refine Zn<|ZT rfl<|Zs<|Zr<|Zl (Ys rfl)<|Zl (Yi rfl)<|sliLo (A := some ⟨g, 0, none⟩) (len := n) (cap := c) (i := ((q + 1 : Nat) : Int)) sl_Lint rfl rfl (by omega) (by omega) (by omega) rfl fun A28 hA28 => ?_
    obtain rfl := From.at0 hA28 (show q + 1 < n by omega)
    show LW _ _ _ _ _ (upd _ _ (.slice (some ⟨g, (q + 1) * 1, none⟩) (n - (q + 1)) (c - (q + 1)))) _
    refine Zl (Ws rfl)<|Zn<|Zs<|Zs<|Zr<|Zl (Wi rfl)<|Zn<|Zb ?_
    refine cw_loop (τ := Nat × Nat × List Int × Array Value) [3, 5, 29, 30, 31, 32, 33, 34, 35, 36, 37, 38, 39, 40, 41, 42, 43, 44, 45, 46, 47, 48, 49, 50, 51, 52, 53] (fun (r, kk, _, _) => [(5, .int .i64 ((r + 1 : Nat) : Int)), (3, .int .i64 (kk : Nat))]) (fun (r, kk, m, u1) w' => r + 1 ≤ n - (q + 1) ∧ 1 ≤ kk ∧ kk ≤ q + 1 + r ∧ m.length = n ∧ m.drop (q + 1 + r) = es.drop (q + 1 + r) ∧ m.take kk = uniq (es.take (q + 1 + r + 1)) ∧ Row intL m c u1 ∧ Hp w0 w' ((g, .cells u1 T_int (0, 0)) :: M) F) (fun (r, _, _, _) => n - r) (0, q + 1, es, u) ⟨by omega, by omega, by omega, hn.symm, rfl, by rw [show q + 1 + 0 + 1 = q + 2 by omega, hst, if_pos h25.symm, hu], row, H⟩ (sl2 rfl rfl) ?_
    rintro ⟨r, kk, m, u1⟩ ρ2 w3 ⟨hrn, hk1, hkq, hml, hdr, htk, row2, H⟩
    show CW _ _ _ _ (updL (ovr _ _ ρ2) [(5, .int .i64 ((r + 1 : Nat) : Int)), (3, .int .i64 (kk : Nat))]) w3
    refine Zs<|Zs<|Zr<|Zl (Yi rfl)<|Zl (Ys rfl)<|Zl (lenS_r (l := n - (q + 1)) len_Lint rfl) ?_
    refine lwD (lss_r rfl rfl) rfl rfl rfl (fun h32 => ?_) (fun h32 => ?_)
    ·
     obtain ⟨b, hb⟩ : ∃ b, es[q + 1 + r]? = some b := ⟨_, List.getElem?_eq_getElem (by omega)⟩
     obtain ⟨y, hy⟩ : ∃ y, es[q + 1 + r + 1]? = some y := ⟨_, List.getElem?_eq_getElem (by omega)⟩
     have hst2 := uniq_step hb hy
     have hmb : m[q + 1 + r]? = some b := by rw [drop_get hdr (Nat.le_refl _)]; exact hb
     have hmy : m[q + 1 + r + 1]? = some y := by rw [drop_get hdr (by omega)]; exact hy
     refine Zn<|ZT rfl<|Zk<|Zs<|Zb<|Zs ?_
         
     refine cw_draw mixed [0, 1, 2, 3, 4, 5, 6, 7, 8, 9] [] [] [0, 1, 2, 4, 5, 6, 7, 9] (sp []) (by kernel_rfl) (by kernel_rfl) (by kernel_rfl) (by kernel_rfl) (fun _ _ _ h => h) (sp_st _) ?_
     refine aw rfl rfl rfl rfl rfl (fun w' hw' => Ys rfl)<|aw rfl rfl rfl rfl rfl (fun w' hw' => Yi rfl)<|aw rfl rfl rfl rfl rfl (fun w' hw' => ixa_r (b := g) (o := (q + 1) * 1) (l := n - (q + 1)) (c := c - (q + 1)) (i := ((r + 1 : Nat) : Int)) sl_Lint rfl rfl (by omega) (by omega))<|aw rfl rfl rfl rfl rfl (fun w' hw' => ld_r one_int rfl (cellE ((H.later hw').ent (i := 0) rfl) (rowS row2 hmy (by omega))))<|aw rfl rfl rfl rfl rfl (fun w' hw' => Ys rfl)<|aw rfl rfl rfl rfl rfl (fun w' hw' => Yi rfl)<|aw rfl rfl rfl rfl rfl (fun w' hw' => subE_r ((r : Nat) : Int) rfl rfl (by omega) (by omega) (by omega))<|aw rfl rfl rfl rfl rfl (fun w' hw' => ixa_r (b := g) (o := (q + 1) * 1) (l := n - (q + 1)) (c := c - (q + 1)) (i := ((r : Nat) : Int)) sl_Lint rfl rfl (by omega) (by omega))<|aw rfl rfl rfl rfl rfl (fun w' hw' => ld_r one_int rfl (cellE ((H.later hw').ent (i := 0) rfl) (rowS row2 hmb (by omega)))) ?_
     refine awND rfl rfl rfl rfl rfl (fun w' hw' => neq_r rfl rfl) (fun h44 => ?_) (fun h44 => ?_)
     ·
      refine aw_nil ?_
      intro w4 hw' hF
      replace H := H.later hw'; clear hw' hF
      refine Zn<|ZT rfl<|Zs<|Zr<|Zl (Ys rfl)<|Zl (Yi rfl)<|Zl (Ys rfl)<|Zl (Yi rfl)<|Zl (ixa_r (b := g) (o := (q + 1) * 1) (l := n - (q + 1)) (c := c - (q + 1)) (i := ((r + 1 : Nat) : Int)) sl_Lint rfl rfl (by omega) (by omega))<|Zl (ld_r one_int rfl (cellE (H.ent (i := 0) rfl) (rowS row2 hmy (by omega))))<|Zl (ixR_r sl_Lint rfl rfl (by first | omega | (simp only [List.length_set]; omega))) ?_
      obtain ⟨x51, hx51⟩ : ∃ x, m[kk]? = some x := ⟨_, List.getElem?_eq_getElem (by first | omega | (simp only [List.length_set]; omega))⟩
      refine stR H 0 (y) siz_int row2 hx51 0 rfl rfl rfl rfl rfl rfl (by kernel_rfl) fun w6 cur5 row5 H => ?_
      have hs7 : (m.set kk (y))[kk]? = some (y) := List.getElem?_set_self (getE hx51).1
      refine Zn<|Zr<|Zl (Yi rfl)<|Zl (add_r rfl rfl (by omega) (by omega))<|Zl (Wi rfl)<|Zn<|Zr<|Zl (Yi rfl)<|Zl (add_r rfl rfl (by omega) (by omega))<|Zl (Wi rfl)<|Zn ?_
      exact ⟨(r + 1, kk + 1, m.set kk y, _), ⟨by omega, by omega, by omega, by simp [hml], by rw [List.drop_set_of_lt (by omega)]; exact drop_more hdr (by omega), by rw [take_set (by omega), htk, show q + 1 + (r + 1) + 1 = q + 1 + r + 2 by omega, hst2, if_neg (fun h => h44 h.symm)], row5, H⟩, sl2 rfl rfl, by repeat (first | exact Agr.refl _ _ | exact agr_ovr | refine agr_upd rfl ?_ | refine agr_updL _ rfl ?_ | refine agr_ovr2 rfl ?_), by show n - (r + 1) < n - r; omega⟩
     ·
      refine aw_nil ?_
      intro w8 hw' hF
      replace H := H.later hw'; clear hw' hF
      refine Zn<|ZF rfl<|Zk<|Zr<|Zl (Yi rfl)<|Zl (add_r rfl rfl (by omega) (by omega))<|Zl (Wi rfl)<|Zn ?_
      exact ⟨(r + 1, kk, m, u1), ⟨by omega, hk1, by omega, hml, drop_more hdr (by omega), by rw [htk, show q + 1 + (r + 1) + 1 = q + 1 + r + 2 by omega, hst2, if_pos (by omega)], row2, H⟩, sl2 rfl rfl, by repeat (first | exact Agr.refl _ _ | exact agr_ovr | refine agr_upd rfl ?_ | refine agr_updL _ rfl ?_ | refine agr_ovr2 rfl ?_), by show n - (r + 1) < n - r; omega⟩
    ·
     refine Zn<|ZF rfl<|Zx<|Zs<|Zr<|Zl (Ys rfl)<|Zl (Yi rfl)<|sliLo (A := some ⟨g, 0, none⟩) (len := n) (cap := c) (i := ((kk : Nat) : Int)) sl_Lint rfl rfl (by omega) (by omega) (by omega) rfl fun A56 hA56 => ?_
     obtain rfl := From.at0 hA56 (show kk < n by omega)
     show LW _ _ _ _ _ (upd _ _ (.slice (some ⟨g, kk * 1, none⟩) (n - kk) (c - kk))) _
     have hsz := row2.size
     have hzl : (Builtin.zeroCells (Value.cells (.int .i64 0)) (n - kk)).toList.length = n - kk := by rw [Array.length_toList, size_zeroCells]; exact Nat.mul_one _
     refine clW (K := []) (M := M) (o := kk * 1) (z := .int .i64 0) sl_Lint (by kernel_rfl) rfl rfl H rfl (fun _ => rfl) (by rw [hsz]; show kk * 1 + (n - kk) * 1 ≤ c * 1; omega) fun w9 H => ?_
     have row3 := Row.clr row2 (k := kk) (o := kk * 1) (zs := (Builtin.zeroCells (Value.cells (.int .i64 0)) (n - kk)).toList) (by omega) (Nat.le_refl _) (by rw [hzl, hsz]; show kk * 1 + (n - kk) ≤ c * 1; omega)
     refine Zn<|Zs<|Zr<|Zl (Ys rfl)<|Zl (Yi rfl)<|sliHi (A := some ⟨g, 0, none⟩) (len := n) (cap := c) (i := ((kk : Nat) : Int)) sl_Lint rfl rfl (by omega) (by omega) rfl fun A59 hA59 => ?_
     obtain rfl := hA59 (by omega)
     show LW _ _ _ _ _ (upd _ _ (.slice (some ⟨g, 0, none⟩) kk c)) _
     refine Zl (Ws rfl)<|Zn<|Zt ?_
     have hfin : m.take kk = uniq es := by rw [htk, show q + 1 + r + 1 = es.length by omega, List.take_length]
     have hfl : kk = (uniq es).length := by rw [← hfin, List.length_take]; omega
     exact fin1 (v := .slice (some ⟨g, 0, none⟩) kk c) rfl rfl ⟨_, by rw [← hfl], hfin ▸ row3, H⟩
   ·
    refine aw_nil ?_
    intro w10 hw' hF
    replace H := H.later hw'; clear hw' hF
    refine Zn<|ZF rfl<|Zk<|Zr<|Zl (Yi rfl)<|Zl (add_r rfl rfl (by omega) (by omega))<|Zl (Wi rfl)<|Zn ?_
    refine ⟨q + 1, ⟨by omega, ?_, H⟩, sl1 rfl, by repeat (first | exact Agr.refl _ _ | exact agr_ovr | refine agr_upd rfl ?_ | refine agr_updL _ rfl ?_ | refine agr_ovr2 rfl ?_), by show n - (q + 1) < n - q; omega⟩
    rw [hst, if_neg (fun h => h25 h.symm), hu, take_snoc hx]
  ·
   have hq : q + 1 = n := by omega
   rw [hq, hn, List.take_length] at hu
   refine Zn<|ZF rfl<|Zx<|Zs<|Zr<|Zl (Ys rfl)<|Zl (Ws rfl)<|Zn<|Zt ?_
   exact fin1 (v := .slice (some ⟨g, 0, none⟩) n c) rfl rfl ⟨u, by rw [hu, ← hn], by rw [hu]; exact row, H⟩
end Go.Proofs.Ytemnchkebhclpaa
end

section
namespace Go.Proofs.Ytemnchkebhclpaa
open Go Go.Eng Go.RowKit
set_option linter.unusedSimpArgs false
theorem strict_ext : ∀ {a b : List Int}, a.Pairwise (· < ·) → b.Pairwise (· < ·) → (∀ x, x ∈ a ↔ x ∈ b) → a = b
 | [], [], _, _, _ => rfl
 | [], y :: b, _, _, h => absurd ((h y).2 (List.mem_cons_self ..)) (by simp)
 | x :: a, [], _, _, h => absurd ((h x).1 (List.mem_cons_self ..)) (by simp)
 | x :: a, y :: b, ha, hb, h => by
  obtain ⟨a1, a2⟩ := List.pairwise_cons.1 ha
  obtain ⟨b1, b2⟩ := List.pairwise_cons.1 hb
  have hxy : x = y := by
   have hx := (h x).1 (List.mem_cons_self ..)
   have hy := (h y).2 (List.mem_cons_self ..)
   rcases List.mem_cons.1 hx with hx | hx
   ·
    exact hx
   ·
    rcases List.mem_cons.1 hy with hy | hy
    ·
     exact hy.symm
    ·
     have := b1 x hx; have := a1 y hy; omega
  subst hxy
  congr 1
  refine strict_ext a2 b2 fun z => ⟨fun hz => ?_, fun hz => ?_⟩
  ·
   have hlt := a1 z hz
   rcases List.mem_cons.1 ((h z).1 (List.mem_cons_of_mem _ hz)) with rfl | h
   ·
    omega
   ·
    exact h
  ·
   have hlt := b1 z hz
   rcases List.mem_cons.1 ((h z).2 (List.mem_cons_of_mem _ hz)) with rfl | h
   ·
    omega
   ·
    exact h
theorem uniq_mem : ∀ (l : List Int) (x : Int), x ∈ uniq l ↔ x ∈ l
 | [], x => Iff.rfl
 | [_], x => Iff.rfl
 | a :: b :: l, x => by
  unfold uniq
  split
  ·
   rename_i h
   rw [uniq_mem, h]; simp
  ·
   rw [List.mem_cons, uniq_mem, List.mem_cons, List.mem_cons, List.mem_cons]
theorem uniq_strict : ∀ {l : List Int}, l.Pairwise (· ≤ ·) → (uniq l).Pairwise (· < ·)
 | [], _ => List.Pairwise.nil
 | [_], _ => by simp [uniq]
 | a :: b :: l, h => by
  obtain ⟨h1, h2⟩ := List.pairwise_cons.1 h
  have ih := uniq_strict h2
  unfold uniq
  split
  ·
   exact ih
  ·
   rename_i hab
   refine List.pairwise_cons.2 ⟨fun x hx => ?_, ih⟩
   have hx := (uniq_mem _ _).1 hx
   have hb := h1 b (List.mem_cons_self ..)
   rcases List.mem_cons.1 hx with rfl | hx
   ·
    omega
   ·
    have := (List.pairwise_cons.1 h2).1 x hx; omega
/-- sorted, each once: the list that rises -/
theorem sorted_once (l : List Int) {r : List Int} (hr : r.Pairwise (· < ·)) (hm : ∀ x, x ∈ r ↔ x ∈ l) : uniq (isortN ltI l.length l) = r := by
 obtain ⟨h1, h2⟩ := isort_all (lt := ltI) (fun a b h => by simp [ltI] at *; omega) (fun a b c h g => by simp [ltI] at *; omega) l
 refine strict_ext (uniq_strict (h2.imp fun h => by simp [ltI] at h; omega)) hr fun x => ?_
 rw [uniq_mem, h1.mem_iff, hm]
theorem addParts_mem {l : List Int} {p x : Int} : x ∈ addParts l p ↔ x ∈ l ∨ x = p := by
 unfold addParts
 split
 ·
  rename_i h
  exact ⟨.inl, fun hx => hx.elim id fun hx => hx ▸ h⟩
 ·
  simp only [List.mem_append, List.mem_filter, List.mem_singleton, decide_eq_true_eq]
  constructor
  ·
   rintro ((⟨h, _⟩ | h) | ⟨h, _⟩)
   ·
    exact .inl h
   ·
    exact .inr h
   ·
    exact .inl h
  ·
   rintro (h | h)
   ·
    by_cases hx : x < p
    ·
     exact .inl (.inl ⟨h, hx⟩)
    ·
     exact .inr ⟨h, by omega⟩
   ·
    exact .inl (.inr h)
/-- parts that were added, one behind the other -/
def addAll (ps : List Int) : List Int := ps.foldl addParts []
theorem addAll_snoc (ps : List Int) (p : Int) : addAll (ps ++ [p]) = addParts (addAll ps) p := by unfold addAll; rw [List.foldl_append]; rfl
theorem foldl_mem : ∀ (ps l : List Int) (x : Int), x ∈ ps.foldl addParts l ↔ x ∈ l ∨ x ∈ ps
 | [], l, x => by simp
 | p :: ps, l, x => by
  rw [List.foldl_cons, foldl_mem, addParts_mem, List.mem_cons]
  constructor
  ·
   rintro ((h | h) | h)
   ·
    exact .inl h
   ·
    exact .inr (.inl h)
   ·
    exact .inr (.inr h)
  ·
   rintro (h | h | h)
   ·
    exact .inl (.inl h)
   ·
    exact .inl (.inr h)
   ·
    exact .inr h
theorem addAll_mem (ps : List Int) (x : Int) : x ∈ addAll ps ↔ x ∈ ps := by unfold addAll; rw [foldl_mem]; simp
set_option maxHeartbeats 4000000 in
set_option maxRecDepth 10000 in
theorem insSort_nil (A : Option Addr) (c : Nat) (w : World) : Ret Try.prog i_slices_insertionSortOrdered_int [.slice A 0 c, .int .i64 0, .int .i64 0] w fun v w2 => v = .tuple #[] ∧ Below w.heap.size w w2 := by
 refine ret_of fn_slices_insertionSortOrdered_int rfl rfl ?_
 have H := Hp.start w
 refine Zs<|Zr<|Zl (Yi rfl)<|Zl (add_r rfl rfl (by omega) (by omega))<|Zl (Wi rfl)<|Zn<|Zb ?_
 refine cw_loop (τ := Unit) [6, 7, 10, 11, 12, 13, 14, 15, 16, 17, 18, 19, 20, 21, 22, 23, 24, 25, 26, 27, 28, 29, 30, 31, 32, 33, 34, 35, 36, 37, 38, 39, 40, 41, 42, 43, 44, 45, 46, 47, 48] (fun _ => [(6, .int .i64 1)]) (fun _ w' => w' = w) (fun _ => 0) () rfl (sl1 rfl) ?_
 rintro _ ρ1 _ rfl
 show CW _ _ _ _ (updL (ovr _ _ ρ1) [(6, .int .i64 1)]) _
 refine Zs<|Zs<|Zr<|Zl (Yi rfl)<|Zl (Yi rfl)<|Zl (lssF_r rfl rfl (by omega))<|Zn<|ZF rfl<|Zx ?_
 dsimp only [thn, Rnd, iblk, Nat.beq, cond]
 exact fin0 rfl ⟨rfl, H.below⟩
set_option maxHeartbeats 4000000 in
set_option maxRecDepth 10000 in
theorem pdq_nil (A : Option Addr) (c : Nat) (k : Int) (w : World) : Ret Try.prog i_slices_pdqsortOrdered_int [.slice A 0 c, .int .i64 0, .int .i64 0, .int .i64 k] w fun v w2 => v = .tuple #[] ∧ Below w.heap.size w w2 := by
 refine ret_of fn_slices_pdqsortOrdered_int rfl rfl ?_
 have H := Hp.start w
 refine Zs<|Zr<|Zl (Wb rfl)<|Zn<|Zs<|Zr<|Zl (Wb rfl)<|Zn<|Zb ?_
 refine cw_loop (τ := Unit) [1, 2, 3, 8, 9, 10, 11, 12, 13, 14, 15, 16, 17, 18, 19, 20, 21, 22, 23, 24, 25, 26, 27, 28, 29, 30, 31, 32, 33, 34, 35, 36, 37, 38, 39, 40, 41, 42, 43, 44, 45, 46, 47, 48, 49, 50, 51, 52, 53, 54, 55, 56, 57, 58, 59, 60, 61, 62, 63, 64, 65, 66, 67, 68, 69, 70, 71, 72, 73, 74, 75, 76, 77, 78, 79, 80, 81, 82, 83, 84, 85, 86, 87, 88, 89, 90, 91, 92, 93, 94, 95, 96, 97, 98, 99, 100, 101, 102, 103, 104, 105, 106, 107, 108, 109, 110, 111, 112, 113, 114, 115, 116, 117, 118, 119, 120, 121, 122, 123, 124, 125, 126, 127, 128, 129, 130, 131, 132, 133] (fun _ => [(1, .int .i64 0), (2, .int .i64 0), (3, .int .i64 k)]) (fun _ w' => w' = w) (fun _ => 0) () rfl (sl3 rfl rfl rfl) ?_
 rintro _ ρ1 _ rfl
 show CW _ _ _ _ (updL (ovr _ _ ρ1) [(1, .int .i64 0), (2, .int .i64 0), (3, .int .i64 k)]) _
 refine Zb<|Zs<|Zr<|Zl (Yi rfl)<|Zl (Yi rfl)<|Zl (subE_r 0 rfl rfl (by omega) (by omega) (by omega))<|Zl (Wi rfl)<|Zn<|Zs<|Zs<|Zr<|Zl (Yi rfl)<|Zl (leqT_r rfl rfl (by omega))<|Zn ?_
 refine ZT rfl<|Zs<|Zr<|Zl (Ys rfl)<|Zl (Yi rfl)<|Zl (Yi rfl)<|cal cb_slices_insertionSortOrdered_int (insSort_nil A c _) rfl rfl ?_
 rintro _ w1 ⟨rfl, hb⟩; replace H := H.later hb; clear hb
 refine Zn<|Zt ?_
 dsimp only [thn, Rnd, iblk]
 exact fin0r rfl ⟨rfl, H.below⟩
set_option maxHeartbeats 4000000 in
set_option maxRecDepth 10000 in
theorem sort_nil (A : Option Addr) (c : Nat) (w : World) : Ret Try.prog i_slices_Sort_Lint_int [.slice A 0 c] w fun v w2 => v = .tuple #[] ∧ Below w.heap.size w w2 := by
 refine ret_of fn_slices_Sort_Lint_int rfl rfl ?_
 have H := Hp.start w
 refine Zs<|Zr<|Zl (Ys rfl)<|Zl (lenS_r len_Lint rfl)<|Zl (Wi rfl)<|Zn<|Zr<|Zl (Ys rfl)<|Zl (Yi rfl)<|Zl (Yi rfl)<|Zl (cvI_r (b := ((0 : Nat) : Int)) int_int int_uint rfl rfl)<|cal cb_math_bits_Len (len_ok 0 _ (by omega)) rfl rfl ?_
 rintro _ w1 ⟨k, rfl, hb⟩; replace H := H.later hb; clear hb
 refine cal cb_slices_pdqsortOrdered_int (pdq_nil A c k _) rfl rfl ?_
 rintro _ w2 ⟨rfl, hb⟩; replace H := H.later hb; clear hb
 refine Zn ?_
 show Fin Try.prog Try.f100 _ .normal _ _
 exact fin0 rfl ⟨rfl, H.below⟩
set_option maxHeartbeats 4000000 in
set_option maxRecDepth 10000 in
theorem compact_nil (A : Option Addr) (c : Nat) (w : World) : Ret Try.prog i_slices_Compact_Lint_int [.slice A 0 c] w fun v w2 => v = .slice A 0 c ∧ Below w.heap.size w w2 := by
 refine ret_of fn_slices_Compact_Lint_int rfl rfl ?_
 have H := Hp.start w
 refine Zs<|Zr<|Zl (Ws rfl)<|Zn<|Zs<|Zs<|Zr<|Zl (Ys rfl)<|Zl (lenS_r len_Lint rfl)<|Zl (lssT_r rfl rfl (by show ((0 : Nat) : Int) < 2; omega))<|Zn<|ZT rfl<|Zs<|Zr ?_
 refine Zl (Ys rfl)<|Zl (Ws rfl)<|Zn<|Zt ?_
 exact fin1 rfl rfl ⟨rfl, H.below⟩
/-- slices.Sort and slices.Compact, of a row of the caller's own -/
theorem sortO_ok {w0 w : World} {K M Lt : List (Nat × Obj)} {F : List Fact} {es : List Int} {c : Nat} {A : Option Addr} (H : Hp w0 w (K ++ Lt ++ M) F) (ho : Own intL (.slice A es.length c) T_int es Lt) (h12 : es.length ≤ 12) :
  Ret Try.prog i_slices_Sort_Lint_int [.slice A es.length c] w fun v w2 => ∃ L', v = .tuple #[] ∧ Own intL (.slice A es.length c) T_int (isortN ltI es.length es) L' ∧ Hp w0 w2 (K ++ L' ++ M) F := by
 by_cases h0 : es.length = 0
 ·
  have := List.eq_nil_of_length_eq_zero h0
  subst this
  exact (sort_nil A c w).mono fun v w2 ⟨h1, h2⟩ => ⟨Lt, h1, ho, H.later h2⟩
 ·
  obtain ⟨g, cur, rfl, rfl, row⟩ := ho.row (by omega)
  have hp : (K ++ [(g, Obj.cells cur T_int (0, 0))] ++ M).Perm ((g, Obj.cells cur T_int (0, 0)) :: (K ++ M)) := by rw [List.append_assoc]; exact List.perm_middle
  refine (sort_row es c (H.perm hp.symm) row rfl h12).mono fun v w2 ⟨u2, h1, h2, h3⟩ => ⟨[(g, .cells u2 T_int (0, 0))], h1, ?_, ?_⟩
  ·
   have := Row.own (g := g) (e := T_int) h2
   rwa [isortN_len] at this
  ·
   exact h3.perm (by rw [List.append_assoc]; exact List.perm_middle)
theorem compactO_ok {w0 w : World} {K M Lt : List (Nat × Obj)} {F : List Fact} {es : List Int} {c : Nat} {A : Option Addr} (H : Hp w0 w (K ++ Lt ++ M) F) (ho : Own intL (.slice A es.length c) T_int es Lt) (h12 : es.length ≤ 1000) :
  Ret Try.prog i_slices_Compact_Lint_int [.slice A es.length c] w fun v w2 => ∃ L', v = .slice A (uniq es).length c ∧ Own intL (.slice A (uniq es).length c) T_int (uniq es) L' ∧ Hp w0 w2 (K ++ L' ++ M) F := by
 by_cases h0 : es.length = 0
 ·
  have := List.eq_nil_of_length_eq_zero h0
  subst this
  exact (compact_nil A c w).mono fun v w2 ⟨h1, h2⟩ => ⟨Lt, h1, ho, H.later h2⟩
 ·
  obtain ⟨g, cur, rfl, rfl, row⟩ := ho.row (by omega)
  have hp : (K ++ [(g, Obj.cells cur T_int (0, 0))] ++ M).Perm ((g, Obj.cells cur T_int (0, 0)) :: (K ++ M)) := by rw [List.append_assoc]; exact List.perm_middle
  refine (compact_ok es c (H.perm hp.symm) row rfl h12).mono fun v w2 ⟨u2, h1, h2, h3⟩ => ⟨_, h1, Row.own (g := g) (e := T_int) h2, ?_⟩
  exact h3.perm (by rw [List.append_assoc]; exact List.perm_middle)
end Go.Proofs.Ytemnchkebhclpaa
end

section
namespace Go.Proofs.Ytemnchkebhclpaa
open Go Go.Eng Go.RowKit
set_option linter.unusedSimpArgs false
set_option maxHeartbeats 4000000 in
set_option maxRecDepth 10000 in
theorem eq_int_ok (es fs : List Int) (A B : Option Addr) (c d : Nat) (w : World) (hr : Rd intL 0 w.heap.size A es w) (hs : Rd intL 0 w.heap.size B fs w) (hb : es.length ≤ 1000000000000) :
  Ret Try.prog i_slices_Equal_Lint_int [.slice A es.length c, .slice B fs.length d] w fun v w2 => v = .bool (decide (es = fs)) ∧ Below w.heap.size w w2 := by
 refine ret_of fn_slices_Equal_Lint_int rfl rfl ?_
 have H := (Hp.startRd hr).learnOld (FRd intL 0 w.heap.size B fs) hs (Nat.le_refl _)
 refine Zs<|Zr<|Zl (Wb rfl)<|Zn<|Zs<|Zs<|Zr<|Zl (Ys rfl)<|Zl (lenS_r len_Lint rfl)<|Zl (Ys rfl)<|Zl (lenS_r len_Lint rfl) ?_
 refine lwND (neq_r rfl rfl) rfl rfl rfl (fun h10 => ?_) (fun h10 => ?_)
 ·
  have hne : es ≠ fs := fun h => h10 (by rw [h])
  refine Zn<|ZT rfl<|Zs<|Zr<|Zl (Wb rfl)<|Zn<|Zt ?_
  exact fin1 (v := .bool false) rfl rfl ⟨by rw [decide_eq_false hne], H.below⟩
 ·
  have hlen : es.length = fs.length := by omega
  refine Zn<|ZF rfl<|Zk<|Zs<|Zs<|Zr<|Zl (Ys rfl)<|Zl (lenS_r len_Lint rfl)<|Zl (Yi rfl)<|Zn<|Zb ?_
  refine cw_loop (τ := Nat) [4, 5, 13, 14, 15, 16, 17, 18, 19, 20, 21, 22, 23, 24, 25] (fun k => [(13, .int .i64 (k : Nat))]) (fun k w' => k ≤ es.length ∧ es.take k = fs.take k ∧ Hp w w' [] [FRd intL 0 w.heap.size B fs, FRd intL 0 w.heap.size A es]) (fun k => es.length - k) 0 ⟨by omega, rfl, H⟩ (sl1 rfl) ?_
  rintro k ρ1 w1 ⟨hk, heq, H⟩
  show CW _ _ _ _ (updL (ovr _ _ ρ1) [(13, .int .i64 (k : Nat))]) w1
  refine Zs<|Zr ?_
  refine lwD (lss_r rfl rfl) rfl rfl rfl (fun h14 => ?_) (fun h14 => ?_)
  ·
   refine Zn<|Zs<|ZT rfl<|Zk<|Zs<|Zb<|Zs<|Zr<|Zl (Yi rfl)<|Zl (Wi rfl)<|Zn<|Zs ?_
     
   refine cw_draw mixed [0, 1, 2, 3, 4, 5, 6, 7, 8] [] [] [0, 1, 2, 4, 5, 6, 8] (sp []) (by kernel_rfl) (by kernel_rfl) (by kernel_rfl) (by kernel_rfl) (fun _ _ _ h => h) (sp_st _) ?_
   refine aw rfl rfl rfl rfl rfl (fun w' hw' => Ys rfl)<|aw rfl rfl rfl rfl rfl (fun w' hw' => Yi rfl)<|awIxF H 1 rfl rfl rfl rfl rfl sl_Lint rfl rfl (by omega) (by omega) fun b2 o2 x2 e2 =>aw rfl rfl rfl rfl rfl (fun w' hw' => ld_r one_int rfl (e2.later hw' 0 _ rfl))<|aw rfl rfl rfl rfl rfl (fun w' hw' => Ys rfl)<|aw rfl rfl rfl rfl rfl (fun w' hw' => Yi rfl)<|awIxF H 0 rfl rfl rfl rfl rfl sl_Lint rfl rfl (by omega) (by omega) fun b3 o3 x3 e3 =>aw rfl rfl rfl rfl rfl (fun w' hw' => ld_r one_int rfl (e3.later hw' 0 _ rfl)) ?_
   refine awND rfl rfl rfl rfl rfl (fun w' hw' => neq_r rfl rfl) (fun h24 => ?_) (fun h24 => ?_)
   ·
    refine aw_nil ?_
    intro w4 hw' hF
    replace H := H.later hw'; clear hw' hF
    refine Zn<|ZT rfl<|Zs<|Zr<|Zl (Wb rfl)<|Zn<|Zt ?_
    have hne : es ≠ fs := fun h => by subst h; have h1 := e2.at_; rw [e3.at_] at h1; injection h1 with h1; exact h24 h1.symm
    exact fin1 (v := .bool false) rfl rfl ⟨by rw [decide_eq_false hne], H.below⟩
   ·
    refine aw_nil ?_
    intro w5 hw' hF
    replace H := H.later hw'; clear hw' hF
    refine Zn<|ZF rfl<|Zk<|Zr<|Zl (add_r rfl rfl (by omega) (by omega))<|Zl (Yi rfl)<|Zn ?_
    refine ⟨k + 1, ⟨by omega, by rw [take_snoc e2.at_, take_snoc e3.at_, heq, h24], H⟩, sl1 rfl, by repeat (first | exact Agr.refl _ _ | exact agr_ovr | refine agr_upd rfl ?_ | refine agr_updL _ rfl ?_ | refine agr_ovr2 rfl ?_), by show es.length - (k + 1) < es.length - k; omega⟩
  ·
   refine Zn<|Zs<|ZF rfl<|Zx<|Zs<|Zr<|Zl (Wb rfl)<|Zn<|Zt ?_
   have hke : k = es.length := by omega
   subst hke
   rw [List.take_length, hlen, List.take_length] at heq
   exact fin1 (v := .bool true) rfl rfl ⟨by rw [decide_eq_true heq], H.below⟩
end Go.Proofs.Ytemnchkebhclpaa
end

section
namespace Go.Proofs.Ytemnchkebhclpaa
open Go Go.Eng Go.RowKit
set_option linter.unusedSimpArgs false
/-- a row of the call's own that is not written any more -/
theorem Hp.sealO {α : Type} {Y : Lay α} {e : TypeId} {w0 w : World} {K L M : List (Nat × Obj)} {F : List Fact} {A : Option Addr} {es : List α} {c : Nat} (H : Hp w0 w (K ++ L ++ M) F) (ho : Own Y (.slice A es.length c) e es L) : ∃ lo hi, Hp w0 w (K ++ M) (FRd Y lo hi A es :: F) := by
 have H1 : Hp w0 w (K ++ M) F := H.forget (by rw [List.append_assoc]; exact (List.Sublist.refl K).append (List.sublist_append_right L M)) (fun _ h => h)
 by_cases h0 : es.length = 0
 ·
  have := List.eq_nil_of_length_eq_zero h0
  subst this
  refine ⟨0, 0, H1.below, H1.ents, H1.nodup, fun f hf => ?_⟩
  rcases List.mem_cons.1 hf with rfl | hf
  ·
   exact ⟨Rd.nil, Nat.zero_le _, fun x _ => .inr (Nat.zero_le _)⟩
  ·
   exact H1.facts f hf
 ·
  obtain ⟨g, cur, rfl, rfl, row⟩ := ho.row (by omega)
  have hg := H.ents (g, .cells cur e (0, 0)) (by simp)
  refine ⟨g, g + 1, H1.below, H1.ents, H1.nodup, fun f hf => ?_⟩
  rcases List.mem_cons.1 hf with rfl | hf
  ·
   refine ⟨row.rd hg.1, lt_of_heap hg.1, fun x hx => ?_⟩
   have hne : x.1 ≠ g := fun h => by
    have hn := H.nodup
    rw [List.append_assoc, List.map_append, List.map_append, List.nodup_append] at hn
    obtain ⟨n1, n2, n3⟩ := hn
    rcases List.mem_append.1 hx with hx | hx
    ·
     exact n3 x.1 (List.mem_map_of_mem hx) g (by simp) h
    ·
     have := (List.nodup_cons.1 n2).1
     have hm := List.mem_map_of_mem (f := _root_.Prod.fst) hx
     rw [h] at hm
     exact this hm
   show x.1 < g ∨ g + 1 ≤ x.1
   omega
  ·
   exact H1.facts f hf
/-- dee's transaction: parts that were added -/
def DeeA (c : Co) (pid : Int) (ps : List Int) : Prop := ∃ i t, findTx c dee = some (i, t) ∧ t.pid = pid ∧ t.ver = 0 ∧ t.parts = addAll ps ∧ t.state = (if ps = [] then 1 else 2) ∧ t.done = 0
/-- dee's transaction, ended: parts whose markers are on their way -/
def DeeM (c : Co) (pid w : Int) (l : List Int) : Prop := ∃ i t, findTx c dee = some (i, t) ∧ t.name = dee ∧ t.pid = pid ∧ t.ver = 0 ∧ t.parts = l ∧ (l ≠ [] → t.state = w) ∧ (l = [] → t.state = 1 ∧ t.done = w)
theorem dee_a {c : Co} (h : findTx c dee = none) : DeeA (coWith c dee) c.next [] := ⟨_, _, find_with h, rfl, rfl, rfl, rfl, rfl⟩
theorem DeeA.add {c : Co} {pid : Int} {ps : List Int} (h : DeeA c pid ps) (p : Int) : (addS c dee 0 p).2 = 0 ∧ DeeA (addS c dee 0 p).1 pid (ps ++ [p]) := by
 obtain ⟨i, t, hf, h1, h2, h3, h4, h5⟩ := h
 have hs : t.state = 1 ∨ t.state = 2 := by rw [h4]; split <;> simp
 have he : addS c dee 0 p = (setTx c i (addTx c.clock p t), 0) := by
  unfold addS
  rw [hf]
  dsimp only
  rw [if_neg (fun h => h h2), if_pos hs]
 rw [he]
 refine ⟨rfl, i, _, find_set hf (by unfold addTx; split <;> rfl), ?_, ?_, ?_, ?_, ?_⟩
 ·
  unfold addTx; split <;> exact h1
 ·
  unfold addTx; split <;> exact h2
 ·
  rw [addAll_snoc, ← h3]; unfold addTx; split <;> rfl
 ·
  rw [if_neg (by simp)]
  unfold addTx
  split
  ·
   rfl
  ·
   rename_i h; exact hs.resolve_left h
 ·
  unfold addTx; split <;> exact h5
theorem addAll_nil {ps : List Int} : addAll ps = [] ↔ ps = [] := by
 constructor
 ·
  intro h
  cases ps with
  | nil => rfl
  | cons p l => have := (addAll_mem (p :: l) p).2 (List.mem_cons_self ..); rw [h] at this; cases this
 ·
  rintro rfl; rfl
theorem deeA_parts {c : Co} {pid : Int} {ps : List Int} (hok : coOk c = true) (h : DeeA c pid ps) : partsOk (-1) (addAll ps) = true := by
 obtain ⟨i, t, hf, h1, h2, h3, h4, h5⟩ := h
 rw [← h3]
 exact (txOk_iff.1 ((coOk_iff2.1 hok).2.1 t (List.mem_of_getElem? (find_some hf).2.1))).2.2.2.2.2.2.2.2.2.1
theorem DeeA.end_ {c : Co} {pid : Int} {ps : List Int} (h : DeeA c pid ps) (b : Bool) : (endS c dee 0 b).2 = 0 ∧ DeeM (endS c dee 0 b).1 pid (wantOf b) (addAll ps) := by
 obtain ⟨i, t, hf, h1, h2, h3, h4, h5⟩ := h
 have hn := (find_some hf).2.2
 unfold endS
 rw [hf]
 dsimp only
 rw [if_neg (fun h => h h2)]
 by_cases hp : ps = []
 ·
  rw [if_pos hp] at h4
  have he : endTx (wantOf b) t = some { t with done := wantOf b } := by
   unfold endTx
   rw [if_neg (by omega), if_pos ⟨h4, h5⟩]
  rw [he]
  exact ⟨rfl, i, _, find_set hf rfl, hn, h1, h2, h3, fun h => absurd (addAll_nil.2 hp) h, fun _ => ⟨h4, rfl⟩⟩
 ·
  rw [if_neg hp] at h4
  have he : endTx (wantOf b) t = some { t with state := wantOf b } := by
   unfold endTx
   rw [if_pos h4]
  rw [he]
  exact ⟨rfl, i, _, find_set hf rfl, hn, h1, h2, h3, fun _ => rfl, fun h => absurd (addAll_nil.1 h) hp⟩
theorem DeeM.again {c : Co} {pid : Int} {l : List Int} {b : Bool} (h : DeeM c pid (wantOf b) l) : (endS c dee 0 b).2 = 0 ∧ (endS c dee 0 (!b)).2 = 12 := by
 obtain ⟨i, t, hf, h0, h1, h2, h3, h4, h5⟩ := h
 unfold endS
 rw [hf]
 dsimp only
 rw [if_neg (fun h => h h2), if_neg (fun h => h h2)]
 have hw := wantOf_34 b
 have hnw : wantOf (!b) ≠ wantOf b ∧ (wantOf (!b) = 3 ∨ wantOf (!b) = 4) := by cases b <;> simp [wantOf]
 have e1 : endTx (wantOf b) t = some t := by
  unfold endTx
  by_cases hl : l = []
  ·
   obtain ⟨a1, a2⟩ := h5 hl
   rw [if_neg (by omega), if_neg (by omega), if_pos (.inr ⟨a1, a2⟩)]
  ·
   have a1 := h4 hl
   rw [if_neg (by omega), if_neg (by omega), if_pos (.inl a1)]
 have e2 : endTx (wantOf (!b)) t = none := by
  unfold endTx
  by_cases hl : l = []
  ·
   obtain ⟨a1, a2⟩ := h5 hl
   rw [if_neg (by omega), if_neg (by omega), if_neg (by omega)]
  ·
   have a1 := h4 hl
   rw [if_neg (by omega), if_neg (by omega), if_neg (by omega)]
 rw [e1, e2]
 exact ⟨rfl, rfl⟩
/-- the n-th that is ended is dee: what is told of it -/
theorem DeeM.next {c : Co} {pid : Int} {l : List Int} {b : Bool} {n : Nat} (h : DeeM c pid (wantOf b) l) (hok : coOk c = true) (he : nextE (nthEnd c.txs n) = 0) (hn : nextNm (nthEnd c.txs n) = dee) :
  ∃ p l' i t, l = p :: l' ∧ nextPt (nthEnd c.txs n) = p ∧ nextPid (nthEnd c.txs n) = pid ∧ nextVer (nthEnd c.txs n) = 0 ∧ (decide (nextKd (nthEnd c.txs n) = 2) = b) ∧ nextB (nthEnd c.txs n) = true ∧ findTx c dee = some (i, t) ∧ (t.state = 3 ∨ t.state = 4) ∧ p ∈ t.parts ∧ (doneS c dee p).2 = 0 ∧ DeeM (doneS c dee p).1 pid (wantOf b) l' := by
 obtain ⟨t', ht'⟩ := nextE_some he
 obtain ⟨⟨i', hf'⟩, h34, hpm, -⟩ := next_done hok ht'
 rw [ht'] at hn ⊢
 have hn' : t'.name = dee := hn
 rw [hn'] at hf'
 obtain ⟨i, t, hf, h0, h1, h2, h3, h4, h5⟩ := h
 rw [hf] at hf'
 injection hf' with hf'
 obtain ⟨rfl, rfl⟩ : i = i' ∧ t = t' := by injection hf' with a b; exact ⟨a, b⟩
 have hl : l ≠ [] := by rintro rfl; rw [h3] at hpm; cases hpm
 obtain ⟨p, l', rfl⟩ := List.exists_cons_of_ne_nil hl
 have hst := h4 hl
 have hhd : t.parts.headD 0 = p := by rw [h3]; rfl
 have hpp : p ∈ t.parts := by rw [h3]; exact List.mem_cons_self ..
 have hx := txOk_iff.1 ((coOk_iff2.1 hok).2.1 t (List.mem_of_getElem? (find_some hf).2.1))
 have hr := (partsOk_rise hx.2.2.2.2.2.2.2.2.2.1).1
 rw [h3] at hr
 obtain ⟨r1, r2⟩ := List.pairwise_cons.1 hr
 have hfl : (t.parts.filter fun q => decide (q ≠ p)) = l' := by
  rw [h3, List.filter_cons_of_neg (by simp), List.filter_eq_self.2 fun q hq => by have := r1 q hq; simp; omega]
 have hd : doneS c dee p = (setTx c i (doneTx p t), 0) := by
  unfold doneS
  rw [hf]
  dsimp only
  rw [if_pos h34, if_pos hpp]
 have hw := wantOf_34 b
 refine ⟨p, l', i, t, rfl, hhd, h1, h2, ?_, rfl, hf, h34, hpp, by rw [hd], ?_⟩
 ·
  show decide ((if t.state = 4 then (3 : Int) else 2) = 2) = b
  rw [hst]
  cases b <;> simp [wantOf]
 ·
  rw [hd]
  refine ⟨i, _, find_set hf (by unfold doneTx; split <;> rfl), ?_, ?_, ?_, ?_, ?_, ?_⟩
  ·
   unfold doneTx; split <;> exact h0
  ·
   unfold doneTx; split <;> exact h1
  ·
   unfold doneTx; split <;> exact h2
  ·
   unfold doneTx
   rw [hfl]
   split
   ·
    rename_i h; exact (List.eq_nil_of_length_eq_zero h).symm
   ·
    rfl
  ·
   intro hl'
   unfold doneTx
   rw [hfl, if_neg (fun h => hl' (List.eq_nil_of_length_eq_zero h))]
   exact hst
  ·
   rintro rfl
   unfold doneTx
   rw [hfl]
   exact ⟨rfl, hst⟩
/-- while markers are on their way, dee is among the ended -/
theorem DeeM.seen {c : Co} {pid : Int} {l : List Int} {b : Bool} (h : DeeM c pid (wantOf b) l) (hok : coOk c = true) (hno : ∀ n, n < 8 → ¬ (nextE (nthEnd c.txs n) = 0 ∧ nextNm (nthEnd c.txs n) = dee)) : l = [] := by
 obtain ⟨i, t, hf, h0, h1, h2, h3, h4, h5⟩ := h
 refine Classical.byContradiction fun hl => ?_
 have hst := h4 hl
 have hm := List.mem_of_getElem? (find_some hf).2.1
 have hw := wantOf_34 b
 have he : ending t = true := by unfold ending; simp; omega
 obtain ⟨n, hn⟩ := List.mem_iff_getElem?.1 (List.mem_filter.2 ⟨hm, he⟩)
 have hlt := (getE hn).1
 have := List.length_filter_le ending c.txs
 have := (coOk_parts hok).1
 exact hno n (by omega) ⟨by unfold nthEnd; rw [hn]; rfl, by unfold nthEnd; rw [hn]; exact h0⟩
set_option maxHeartbeats 4000000 in
set_option maxRecDepth 10000 in
theorem coordStays_ok (l : List Raw) (A : Option Addr) (c0 : Nat) (commit : Bool) (xs : List Int) (B : Option Addr) (bc : Nat) (w : World) (hr : Rd rawL 0 w.heap.size A l w) (hok : ∀ r ∈ l, r.ok) (hl : l.length ≤ 9223372036854775807) (hrB : Rd intL 0 w.heap.size B xs w) (hokB : ∀ x ∈ xs, i64 x) (hlB : xs.length ≤ 9223372036854775807) :
  Ret Try.prog i_tailracekeep_CoordStays [.slice A l.length c0, .bool commit, .slice B xs.length bc] w fun v w2 => v = .bool true ∧ Below w.heap.size w w2 := by
 refine ret_of fn_tailracekeep_CoordStays rfl rfl ?_
 have H := (Hp.startRd hr).learnOld (FRd intL 0 w.heap.size B xs) hrB (Nat.le_refl _)
 refine Zs<|Zr<|Zl (Wb rfl)<|Zn<|Zs<|Zr<|Zl (Ys rfl)<|cal cb_tailracekeep_coordinated (coordinated_ok l A c0 30 _ (H.rd0 1 rfl) hok hl (by omega)) rfl rfl ?_
 rintro _ w1 ⟨c, rfl, hci, hnc⟩; replace H := H.learn hnc.2 (FCo w.heap.size w1.heap.size c) hnc.1 (Nat.le_refl _) (Nat.le_refl _); clear hnc
 refine Zl (Yu rfl)<|Zl (Xa rfl rfl)<|Zl (Xb rfl rfl)<|alo H z_Coord rfl fun w2 b7 H =>stN H 0 (#[.int .i64 (c.clock), .int .i64 (c.next), .int .i64 (c.wait), .slice c.A c.txs.length c.cap]) siz_Coord rfl rfl rfl rfl rfl (by kernel_rfl) (by kernel_rfl) fun w3 H =>Zl (Wb rfl)<|Zn<|Zs<|Zr<|Zl (Zw agg_Coord H 0 rfl rfl rfl)<|cal cb_coord_Init (initS_ok c dee 30 _ (Hp.co H 0 rfl) hci.1 (by omega) dee_ok) rfl rfl ?_
 have hI := dee_init hci
 have hN := dee_none hci
 have hb0 := init_ok (s := dee) hci.1.a (by omega) dee_ok (by rw [hI])
 rintro _ w4 ⟨q0, rfl, haq0, hnq0⟩; replace H := H.learn hnq0.2 (FCo w3.heap.size w4.heap.size q0) hnq0.1 (Nat.le_refl _) (Nat.le_refl _); clear hnq0
 rw [hI] at haq0 hb0 ⊢
 replace hb0 : CoB 31 q0 := CoB.of_a (haq0 ▸ hb0)
 obtain ⟨pid, hpid⟩ : ∃ n, c.a.next = n := ⟨_, rfl⟩
 have hD0 : DeeA q0.a pid [] := by rw [haq0, ← hpid]; exact dee_a hN
 dsimp only
 rw [hpid]
 refine Zl (Yu rfl)<|Zl (Xa rfl rfl)<|Zl (Xi rfl rfl)<|Zl (Xi rfl rfl)<|Zl (Xi rfl rfl)<|stN H 0 (#[.int .i64 (q0.clock), .int .i64 (q0.next), .int .i64 (q0.wait), .slice q0.A q0.txs.length q0.cap]) siz_Coord rfl rfl rfl rfl rfl (by kernel_rfl) (by kernel_rfl) fun w5 H =>Zl (Wi rfl)<|Zl (Wi rfl)<|Zl (Wi rfl)<|Zn<|Zs<|Zr<|bs0 H sl_Lint rfl fun w6 b44 H =>Zl (Ws rfl) ?_
 refine Zn<|Zs<|Zs<|Zr<|Zl (Wi rfl)<|Zn<|Zb ?_
 refine cw_loop (τ := Nat × Co × List Int × Option Addr × Nat × Nat × Nat) [6, 12, 13, 14, 15, 16, 45, 46, 47, 48, 49, 50, 51, 52, 53, 54, 55, 56, 57, 58, 59, 60, 61, 62, 63, 64, 65, 66, 67, 68, 69, 70, 71, 72, 73] (fun (j, _, ps, W0, wc0, _, _) => [(13, .int .i64 (j : Nat)), (12, .slice W0 ps.length wc0)]) (fun (j, p, ps, W0, wc0, lo, hi) w' => j ≤ xs.length ∧ j ≤ 6 ∧ ps.length = j ∧ CoB (31 + j) p ∧ DeeA p.a pid ps ∧ ∃ L1, Own intL (.slice W0 ps.length wc0) T_int ps L1 ∧ Hp w w' ([(b7, .cells #[.int .i64 (p.clock), .int .i64 (p.next), .int .i64 (p.wait), .slice p.A p.txs.length p.cap] T_Coord (0, 0))] ++ L1 ++ []) [FCo lo hi p, FRd intL 0 w.heap.size B xs, FRd rawL 0 w.heap.size A l]) (fun (j, _) => xs.length - j) (0, q0, [], some ⟨b44, 0, none⟩, 0, w3.heap.size, w4.heap.size) ⟨by omega, by omega, rfl, hb0, hD0, [(b44, _)], OwnE.lit (by decide) (by rfl), (H.perm (List.Perm.swap _ _ _)).forget (List.Sublist.refl _) (fun f hf => by simp only [List.mem_cons] at hf ⊢; grind)⟩ (sl2 rfl rfl) ?_
 rintro ⟨j, p, ps, W0, wc0, lo, hi⟩ ρ1 w7 ⟨hjx, hj6, hpl, hbp, hDp, L1, ho, H⟩
 show CW _ _ _ _ (updL (ovr _ _ ρ1) [(13, .int .i64 (j : Nat)), (12, .slice W0 ps.length wc0)]) w7
 refine Zs<|Zs<|Zr<|Zl (Yi rfl)<|Zl (Ys rfl)<|Zl (lenS_r len_Lint rfl) ?_
 refine lwD (lss_r rfl rfl) rfl rfl rfl (fun h48 => ?_) (fun h48 => ?_)
 ·
  refine Zl (Yb rfl)<|ZG<|Zl (Yi rfl)<|ZG ?_
  refine lwD (lss_r rfl rfl) rfl rfl rfl (fun h51 => ?_) (fun h51 => ?_)
  ·
   refine Zl (Kt rfl rfl)<|Zn<|ZT rfl<|Zk<|Zs<|Zb<|Zs ?_
   obtain ⟨x, hx⟩ : ∃ x, xs[j]? = some x := ⟨_, List.getElem?_eq_getElem (by omega)⟩
   have hx64 := hokB x (List.mem_of_getElem? hx)
   refine Zr<|Zl (Ys rfl)<|Zl (Yi rfl)<|ixF H 1 rfl sl_Lint rfl rfl (by omega) (by omega) rfl fun bq8 o8 x8 e8 => ?_
   obtain rfl : x = x8 := by have := e8.at_; rw [hx] at this; exact Option.some.inj this
   refine Zl (ld_r one_int rfl (e8.cl 0 _ rfl))<|cal cb_tailracekeep_picked (picked_ok x (4) _ hx64.1 hx64.2 (by omega) (by omega)) rfl rfl ?_
   rintro _ w9 ⟨rfl, hb⟩; replace H := H.later hb; clear hb
   have hp4 := pk_lt x (show 0 < 4 by omega)
   refine Zl (Wi rfl)<|Zn<|Zs<|Zr<|Zl (Zw agg_Coord H 0 rfl rfl rfl)<|Zl (Yi rfl)<|Zl (Yi rfl)<|cal cb_coord_Add (addSc_ok p dee 0 (pk x 4) (31 + j) _ (Hp.co H 0 rfl) hbp dee_ok (by omega) (by omega)) rfl rfl ?_
   have hA := hDp.add (pk x 4)
   have hbq := addS_ok (s := dee) (ver := 0) (p := (pk x 4 : Nat)) hbp.a (by omega) (by omega) hA.1
   rintro _ w10 ⟨q, rfl, haq, hnq⟩; replace H := H.learn hnq.2 (FCo w9.heap.size w10.heap.size q) hnq.1 (Nat.le_refl _) (Nat.le_refl _); clear hnq
   have hDq := hA.2
   rw [← haq] at hDq hbq
   replace hbq : CoB (31 + j + 1) q := CoB.of_a hbq
   refine Zl (Yu rfl)<|Zl (Xa rfl rfl)<|Zl (Xi rfl rfl)<|alo H z_Coord rfl fun w11 b15 H =>stN H 0 (#[.int .i64 (q.clock), .int .i64 (q.next), .int .i64 (q.wait), .slice q.A q.txs.length q.cap]) siz_Coord rfl rfl rfl rfl rfl (by kernel_rfl) (by kernel_rfl) fun w12 H =>Zl (Wi rfl)<|Zn<|Zs<|Zs<|Zr<|Zl (Yi rfl)<|Zl (neqF_r rfl rfl hA.1)<|Zn<|ZF rfl ?_
   refine Zk<|Zs<|Zr<|Zl (Zw agg_Coord H 0 rfl rfl rfl)<|stN H 1 (#[.int .i64 (q.clock), .int .i64 (q.next), .int .i64 (q.wait), .slice q.A q.txs.length q.cap]) siz_Coord rfl rfl rfl rfl rfl (by kernel_rfl) (by kernel_rfl) fun w13 H =>Zn<|Zr<|Zl (Ys rfl)<|Zl (Yi rfl)<|bsv (vs := [.int .i64 (((pk x 4 : Nat) : Int))]) H sl_Lint z_int rfl rfl rfl rfl rfl rfl fun w14 b72 H =>apO (Y := intL) ap_Lint (K := [(b72, _), (b15, _), (b7, _)]) (L := L1) (M := []) H ho (news := [((pk x 4 : Nat) : Int)]) rfl rfl rfl (Src.row (m := 1) (sz := intL.sz) (H.ent (i := 0) rfl) rfl) (by simp only [List.length_singleton]; omega) rfl ?_
   intro A73 c73 w15 L73 h73 _ ho73 H
   refine Zl (Ws rfl)<|Zn<|Zr<|Zl (Yi rfl)<|Zl (add_r rfl rfl (by omega) (by omega))<|Zl (Wi rfl)<|Zn ?_
   exact ⟨(j + 1, q, ps ++ [((pk x 4 : Nat) : Int)], A73, c73, w9.heap.size, w10.heap.size), ⟨by omega, by omega, by rw [List.length_append, hpl]; rfl, hbq, hDq, L73, ho73, H.forget (.cons _ (.cons _ (List.Sublist.refl _))) (fun f hf => by simp only [List.mem_cons] at hf ⊢; grind)⟩, sl2 rfl rfl, by repeat (first | exact Agr.refl _ _ | exact agr_ovr | refine agr_upd rfl ?_ | refine agr_updL _ rfl ?_ | refine agr_ovr2 rfl ?_), by show xs.length - (j + 1) < xs.length - j; omega⟩
  ·
   refine Zl (Kt rfl rfl)<|Zn<|ZF rfl<|Zx<|Zs ?_
   obtain ⟨R, hRd⟩ : ∃ R, addAll ps = R := ⟨_, rfl⟩
   have hR : uniq (isortN ltI ps.length ps) = R := sorted_once ps (hRd ▸ (partsOk_rise (deeA_parts hbp.a.ok hDp)).1) (fun x => by rw [← hRd]; exact addAll_mem ps x)
   have hR4 : R.length ≤ 4 := by rw [← hRd]; exact partsOk_len (deeA_parts hbp.a.ok hDp)
   refine Zr<|Zl (Ys rfl)<|cal cb_slices_Sort_Lint_int (sortO_ok (K := [_]) (M := []) H ho (by omega)) rfl rfl ?_
   rintro _ w16 ⟨L2, rfl, ho2, H⟩
   refine Zn<|Zs<|Zr<|Zl (Ys rfl)<|cal cb_slices_Compact_Lint_int (by have hA := compactO_ok (K := [_]) (M := []) (es := isortN ltI ps.length ps) (c := wc0) (A := W0) H (by rw [isortN_len]; exact ho2) (by rw [isortN_len]; omega); rw [isortN_len] at hA; exact hA) rfl rfl ?_
   rintro _ w17 ⟨L3, rfl, ho3, H⟩
   rw [hR] at ho3 ⊢
   obtain ⟨lo3, hi3, H⟩ := Hp.sealO (K := [_]) (M := []) H ho3
   have hRc : R.length ≤ wc0 := by obtain ⟨_, _, e, h, _⟩ := ho3.form; injection e with _ _ e; omega
   refine Zl (Ws rfl)<|Zn<|Zs<|Zr<|Zl (Zw agg_Coord H 0 rfl rfl rfl)<|Zl (Yi rfl)<|Zl (Yb rfl)<|cal cb_coord_End (endSc_ok p dee 0 commit 37 _ (Hp.co H 1 rfl) (hbp.more (by omega)) dee_ok) rfl rfl ?_
   have hE := hDp.end_ commit
   have hbe := endS_ok (s := dee) (ver := 0) (b := commit) (hbp.a.more (show 31 + j ≤ 37 by omega)) hE.1
   rintro _ w18 ⟨e0, rfl, hae0, hne0⟩; replace H := H.learn hne0.2 (FCo w17.heap.size w18.heap.size e0) hne0.1 (Nat.le_refl _) (Nat.le_refl _); clear hne0
   have hDe := hE.2
   rw [← hae0] at hDe hbe
   rw [hE.1]
   rw [hRd] at hDe
   replace hbe : CoB 38 e0 := CoB.of_a hbe
   have hag := hDe.again
   refine Zl (Yu rfl)<|Zl (Xa rfl rfl)<|Zl (Xi rfl rfl)<|stN H 0 (#[.int .i64 (e0.clock), .int .i64 (e0.next), .int .i64 (e0.wait), .slice e0.A e0.txs.length e0.cap]) siz_Coord rfl rfl rfl rfl rfl (by kernel_rfl) (by kernel_rfl) fun w19 H =>Zl (Wi rfl)<|Zn<|Zs<|Zr<|Zl (Zw agg_Coord H 0 rfl rfl rfl)<|Zl (Yi rfl)<|Zl (Yb rfl)<|cal cb_coord_End (endSc_ok e0 dee 0 commit 38 _ (Hp.co H 0 rfl) hbe dee_ok) rfl rfl ?_
   rintro _ w20 ⟨e1, rfl, hae1, hne1⟩; replace H := H.learn hne1.2 (FCo w19.heap.size w20.heap.size e1) hne1.1 (Nat.le_refl _) (Nat.le_refl _); clear hne1
   rw [hag.1]
   refine Zl (Yu rfl)<|Zl (Xa rfl rfl)<|Zl (Xi rfl rfl)<|alo H z_Coord rfl fun w21 b18 H =>stN H 0 (#[.int .i64 (e1.clock), .int .i64 (e1.next), .int .i64 (e1.wait), .slice e1.A e1.txs.length e1.cap]) siz_Coord rfl rfl rfl rfl rfl (by kernel_rfl) (by kernel_rfl) fun w22 H =>Zl (Wi rfl)<|Zn<|Zs<|Zr<|Zl (Zw agg_Coord H 1 rfl rfl rfl)<|Zl (Yi rfl)<|Zl (Yb rfl)<|Zl (not_r rfl)<|cal cb_coord_End (endSc_ok e0 dee 0 (!commit) 38 _ (Hp.co H 1 rfl) hbe dee_ok) rfl rfl ?_
   rintro _ w23 ⟨e2, rfl, hae2, hne2⟩; replace H := H.learn hne2.2 (FCo w22.heap.size w23.heap.size e2) hne2.1 (Nat.le_refl _) (Nat.le_refl _); clear hne2
   rw [hag.2]
   refine Zl (Yu rfl)<|Zl (Xa rfl rfl)<|Zl (Xi rfl rfl)<|alo H z_Coord rfl fun w24 b20 H =>stN H 0 (#[.int .i64 (e2.clock), .int .i64 (e2.next), .int .i64 (e2.wait), .slice e2.A e2.txs.length e2.cap]) siz_Coord rfl rfl rfl rfl rfl (by kernel_rfl) (by kernel_rfl) fun w25 H =>Zl (Wi rfl)<|Zn<|Zs<|Zs<|Zr<|Zl (Yb rfl)<|Zl (not_r rfl)<|Zl (Yb rfl)<|ZG ?_
   refine Zl (Yi rfl)<|ZG<|Zl (neqF_r rfl rfl rfl)<|Zl (Kf rfl rfl)<|Zl (Yb rfl)<|ZG<|Zl (Yi rfl)<|ZG<|Zl (neqF_r rfl rfl rfl)<|Zl (Kf rfl rfl)<|Zl (Yb rfl)<|ZG<|Zl (Yi rfl)<|ZG ?_
   refine Zl (neqF_r rfl rfl rfl)<|Zl (Kf rfl rfl)<|Zl (Yb rfl)<|ZG<|Zl (Yi rfl)<|ZG<|Zl (neqF_r rfl rfl rfl)<|Zl (Kf rfl rfl)<|Zn<|ZF rfl<|Zk<|Zs<|Zr<|Zl (Ws rfl) ?_
   refine Zn<|Zs<|Zs<|Zr<|Zl (Yi rfl)<|Zn<|Zb ?_
   refine cw_loop (τ := Nat × Co × List Int × List Int × Option Addr × Nat × Nat × Nat) [6, 22, 23, 24, 25, 26, 27, 118, 119, 120, 121, 122, 123, 124, 125, 126, 127, 128, 129, 130, 131, 132, 133, 134, 135, 136, 137, 138, 139, 140, 141, 142, 143, 144, 145, 146, 147, 148, 149, 150, 151, 152, 153, 154, 155, 156, 157, 158, 159, 160, 161, 162, 163, 164, 165, 166, 167, 168, 169, 170, 171, 172, 173] (fun (k, _, mk, _, W, wc, _, _) => [(118, .int .i64 (k : Nat)), (22, .slice W mk.length wc)]) (fun (k, p, mk, P, W, wc, lo, hi) w' => k ≤ 60 ∧ mk ++ P = R ∧ (P = [] ∨ P.length + k ≤ R.length) ∧ CoB (38 + k) p ∧ DeeM p.a pid (wantOf commit) P ∧ ∃ L1, Own intL (.slice W mk.length wc) T_int mk L1 ∧ Hp w w' ([(b20, .cells #[.int .i64 (e2.clock), .int .i64 (e2.next), .int .i64 (e2.wait), .slice e2.A e2.txs.length e2.cap] T_Coord (0, 0)), (b18, .cells #[.int .i64 (e1.clock), .int .i64 (e1.next), .int .i64 (e1.wait), .slice e1.A e1.txs.length e1.cap] T_Coord (0, 0)), (b7, .cells #[.int .i64 (p.clock), .int .i64 (p.next), .int .i64 (p.wait), .slice p.A p.txs.length p.cap] T_Coord (0, 0))] ++ L1 ++ []) [FCo lo hi p, FRd intL lo3 hi3 W0 R]) (fun (k, _) => 60 - k) (0, e0, [], R, none, 0, w17.heap.size, w18.heap.size) ⟨by omega, rfl, .inr (by omega), hbe, hDe, [], Own.nil, H.forget (List.Sublist.refl _) (fun f hf => by simp only [List.mem_cons] at hf ⊢; grind)⟩ (sl2 rfl rfl) ?_
   rintro ⟨k, p, mk, P, W, wc, lo, hi⟩ ρ1 w26 ⟨hk60, hmk, hPk, hbp, hDp, L1, ho, H⟩
   show CW _ _ _ _ (updL (ovr _ _ ρ1) [(118, .int .i64 (k : Nat)), (22, .slice W mk.length wc)]) w26
   refine Zs<|Zr ?_
   refine lwD (lss_r rfl rfl) rfl rfl rfl (fun h119 => ?_) (fun h119 => ?_)
   ·
    refine Zn<|Zs<|ZT rfl<|Zk<|Zs<|Zb<|Zs<|Zr<|Zl (Yi rfl)<|Zn<|Zb ?_
    refine cw_loop (τ := Nat) [6, 22, 23, 24, 25, 26, 27, 120, 121, 122, 123, 124, 125, 126, 127, 128, 129, 130, 131, 132, 133, 134, 135, 136, 137, 138, 139, 140, 141, 142, 143, 144, 145, 146, 147, 148, 149, 150, 151, 152, 153, 154, 155, 156, 157, 158, 159, 160, 161, 162, 163, 164, 165, 166, 167, 168, 169, 170, 171, 172] (fun n => [(120, .int .i64 (n : Nat)), (22, .slice W mk.length wc)]) (fun n w' => n ≤ 8 ∧ (∀ m, m < n → ¬ (nextE (nthEnd p.a.txs m) = 0 ∧ nextNm (nthEnd p.a.txs m) = dee)) ∧ Hp w w' ([(b20, .cells #[.int .i64 (e2.clock), .int .i64 (e2.next), .int .i64 (e2.wait), .slice e2.A e2.txs.length e2.cap] T_Coord (0, 0)), (b18, .cells #[.int .i64 (e1.clock), .int .i64 (e1.next), .int .i64 (e1.wait), .slice e1.A e1.txs.length e1.cap] T_Coord (0, 0)), (b7, .cells #[.int .i64 (p.clock), .int .i64 (p.next), .int .i64 (p.wait), .slice p.A p.txs.length p.cap] T_Coord (0, 0))] ++ L1 ++ []) [FCo lo hi p, FRd intL lo3 hi3 W0 R]) (fun n => 8 - n) 0 ⟨by omega, by intro m hm; omega, H⟩ (sl2 rfl rfl) ?_
    rintro n ρ2 w27 ⟨hn8, hno, H⟩
    show CW _ _ _ _ (updL (ovr _ _ ρ2) [(120, .int .i64 (n : Nat)), (22, .slice W mk.length wc)]) w27
    refine Zs<|Zr ?_
    refine lwD (lss_r rfl rfl) rfl rfl rfl (fun h121 => ?_) (fun h121 => ?_)
    ·
     refine Zn<|Zs<|ZT rfl<|Zk<|Zs<|Zb<|Zs<|Zr<|Zl (Yi rfl)<|Zl (Wi rfl)<|Zn<|Zs<|Zr<|Zl (Zw agg_Coord H 2 rfl rfl rfl) ?_
     refine Zl (Yi rfl)<|cal cb_coord_Next (nextT_ok p n _ (Hp.co H 0 rfl) hbp.ok (by omega)) rfl rfl ?_
     rintro _ w28 ⟨rfl, hb⟩; replace H := H.later hb; clear hb
     refine Zl (Yu rfl)<|Zl (exT_r rfl rfl)<|Zl (Xi rfl rfl)<|Zl (Xa rfl rfl)<|Zl (Xi rfl rfl)<|alo H z_Entry rfl fun w29 b26 H =>Zl (Wt rfl)<|Zl (Wi rfl)<|stN H 0 (#[.int .i64 (0), .int .i64 (nextPid (nthEnd p.a.txs n)), .int .i64 (nextVer (nthEnd p.a.txs n)), .int .i64 (0), .int .i64 (nextKd (nthEnd p.a.txs n)), .bool (nextB (nthEnd p.a.txs n)), .string (⟨#[]⟩)]) siz_Entry rfl rfl rfl rfl rfl (by kernel_rfl) (by kernel_rfl) fun w30 H =>Zl (Wi rfl)<|Zn<|Zs<|Zs<|Zr ?_
     refine Zl (Yi rfl) ?_
     refine lwND (neq_r rfl rfl) rfl rfl rfl (fun h132 => ?_) (fun h132 => ?_)
     ·
      refine Zl (Yb rfl)<|ZN<|ZN<|Zl (Kt rfl rfl)<|Zn<|ZT rfl<|Zx<|Zr<|Zl (add_r rfl rfl (by omega) (by omega))<|Zl (Yi rfl)<|Zn ?_
      exact ⟨n + 1, ⟨by omega, (fun m hm => if hmn : m < n then hno m hmn else (by obtain rfl : m = n := (by omega); exact fun hh => h132 hh.1)), H.forget (.cons _ (List.Sublist.refl _)) (fun _ h => h)⟩, sl2 rfl rfl, by repeat (first | exact Agr.refl _ _ | exact agr_ovr | refine agr_upd rfl ?_ | refine agr_updL _ rfl ?_ | refine agr_ovr2 rfl ?_), by show 8 - (n + 1) < 8 - n; omega⟩
     ·
      refine Zl (Yb rfl)<|ZG<|Zl (Yt rfl)<|ZG ?_
      refine lwND (sneq_r rfl rfl) rfl rfl rfl (fun h135 => ?_) (fun h135 => ?_)
      ·
       refine Zl (Kf rfl rfl)<|Zn<|ZT rfl<|Zx<|Zr<|Zl (add_r rfl rfl (by omega) (by omega))<|Zl (Yi rfl)<|Zn ?_
       exact ⟨n + 1, ⟨by omega, (fun m hm => if hmn : m < n then hno m hmn else (by obtain rfl : m = n := (by omega); exact fun hh => h135 hh.2)), H.forget (.cons _ (List.Sublist.refl _)) (fun _ h => h)⟩, sl2 rfl rfl, by repeat (first | exact Agr.refl _ _ | exact agr_ovr | refine agr_upd rfl ?_ | refine agr_updL _ rfl ?_ | refine agr_ovr2 rfl ?_), by show 8 - (n + 1) < 8 - n; omega⟩
      ·
       obtain ⟨p0, P2, ix, tx, rfl, hpt, hpi, hve, hkd, hbb, hfx, hst, hpp, hd0, hDq⟩ := hDp.next hbp.a.ok h132 h135
       have hnm : nextNm (nthEnd p.a.txs n) = dee := h135
       rw [hbb] at H
       refine Zl (Kf rfl rfl)<|Zn<|ZF rfl<|Zk<|Zs<|Zs<|Zr<|Zl (Zf fd_Entry_1 rfl)<|Zl (Zd one_int H 0 rfl rfl rfl)<|Zl (Yi rfl)<|Zl (neqF_r rfl rfl hpi)<|Zl (Yb rfl)<|ZG<|Zl (Zf fd_Entry_2 rfl) ?_
       refine ZG<|Zl (Zd one_int H 0 rfl rfl rfl)<|ZG<|Zl (Yi rfl)<|ZG<|Zl (neqF_r rfl rfl hve)<|Zl (Kf rfl rfl)<|Zl (Yb rfl)<|ZG<|Zl (Zf fd_Entry_4 rfl)<|ZG<|Zl (Zd one_int H 0 rfl rfl rfl)<|ZG<|Zl (eql_r rfl rfl) ?_
       refine ZG<|Zl (Yb rfl)<|ZG<|Zl (bneqC_r (r := false) und_bool rfl rfl (by rw [hkd]; simp))<|Zl (Kf rfl rfl)<|Zl (Yb rfl)<|ZG<|Zl (Zf fd_Entry_5 rfl)<|ZG<|Zl (Zd one_bool H 0 rfl rfl rfl)<|ZG<|Zl (not_r rfl)<|Zl (Kf rfl rfl)<|Zn ?_
       refine ZF rfl<|Zk<|Zs<|Zr<|Zl (Zw agg_Coord H 3 rfl rfl rfl)<|Zl (Yt rfl)<|Zl (Yi rfl)<|cal cb_coord_Done (doneSc_ok p (nextNm (nthEnd p.a.txs n)) (nextPt (nthEnd p.a.txs n)) (38 + k) ix tx _ (Hp.co H 0 rfl) hbp (by rw [hnm]; exact dee_ok) (by rw [hnm]; exact hfx) hst (by rw [hpt]; exact hpp)) rfl rfl ?_
       have hbq := doneS_ok (s := dee) (p := p0) hbp.a hd0
       rintro _ w31 ⟨q, rfl, haq, hnq⟩; replace H := H.learn hnq.2 (FCo w30.heap.size w31.heap.size q) hnq.1 (Nat.le_refl _) (Nat.le_refl _); clear hnq
       rw [hnm, hpt] at haq
       rw [← haq] at hDq hbq
       replace hbq : CoB (38 + k + 1) q := CoB.of_a hbq
       refine Zl (Yu rfl)<|Zl (Xa rfl rfl)<|Zl (Xi rfl rfl)<|stN H 3 (#[.int .i64 (q.clock), .int .i64 (q.next), .int .i64 (q.wait), .slice q.A q.txs.length q.cap]) siz_Coord rfl rfl rfl rfl rfl (by kernel_rfl) (by kernel_rfl) fun w32 H =>Zl (Wi rfl)<|Zn<|Zs<|Zs<|Zr<|Zl (Yi rfl)<|Zl (neqF_r rfl rfl rfl)<|Zn<|ZF rfl<|Zk ?_
       refine Zs ?_
       have hmkl := congrArg List.length hmk
       simp only [List.length_append, List.length_cons] at hmkl
       refine Zr<|Zl (Ys rfl)<|Zl (Yi rfl)<|bsv (vs := [.int .i64 (nextPt (nthEnd p.a.txs n))]) H sl_Lint z_int rfl rfl rfl rfl rfl rfl fun w33 b170 H =>apO (Y := intL) ap_Lint (K := [(b170, _), (b26, _), (b20, _), (b18, _), (b7, _)]) (L := L1) (M := []) H ho (news := [nextPt (nthEnd p.a.txs n)]) rfl rfl rfl (Src.row (m := 1) (sz := intL.sz) (H.ent (i := 0) rfl) rfl) (by simp only [List.length_singleton]; omega) rfl ?_
       intro A171 c171 w34 L171 h171 _ ho171 H
       refine Zl (Ws rfl)<|Zn<|Zx<|Zr<|Zl (add_r rfl rfl (by omega) (by omega))<|Zl (Yi rfl)<|Zn ?_
       exact ⟨(k + 1, q, mk ++ [nextPt (nthEnd p.a.txs n)], P2, A171, c171, w30.heap.size, w31.heap.size), ⟨by omega, by rw [hpt, List.append_assoc]; exact hmk, .inr (by have := hPk.resolve_left (by simp); simp only [List.length_cons] at this; omega), hbq, hDq, L171, ho171, H.forget (.cons _ (.cons _ (List.Sublist.refl _))) (fun f hf => by simp only [List.mem_cons] at hf ⊢; grind)⟩, sl2 rfl rfl, by repeat (first | exact Agr.refl _ _ | exact agr_ovr | refine agr_upd rfl ?_ | refine agr_updL _ rfl ?_ | refine agr_ovr2 rfl ?_), by show 60 - (k + 1) < 60 - k; omega⟩
    ·
     refine Zn<|Zs<|ZF rfl<|Zx<|Zr<|Zl (add_r rfl rfl (by omega) (by omega))<|Zl (Yi rfl)<|Zn ?_
     have hP := hDp.seen hbp.a.ok (fun m hm => hno m (by omega))
     exact ⟨(k + 1, p, mk, P, W, wc, lo, hi), ⟨by omega, hmk, .inl hP, hbp.more (by omega), hDp, L1, ho, H⟩, sl2 rfl rfl, by repeat (first | exact Agr.refl _ _ | exact agr_ovr | refine agr_upd rfl ?_ | refine agr_updL _ rfl ?_ | refine agr_ovr2 rfl ?_), by show 60 - (k + 1) < 60 - k; omega⟩
   ·
    have hmkl := congrArg List.length hmk
    simp only [List.length_append] at hmkl
    have hP : P = [] := by rcases hPk with h | h; exact h; omega
    subst hP
    rw [List.append_nil] at hmk
    have hag2 := hDp.again
    refine Zn<|Zs<|ZF rfl<|Zx<|Zs<|Zr<|Zl (Zw agg_Coord H 2 rfl rfl rfl)<|Zl (Yi rfl)<|Zl (Yb rfl)<|cal cb_coord_End (endSc_ok p dee 0 commit 98 _ (Hp.co H 0 rfl) (hbp.more (by omega)) dee_ok) rfl rfl ?_
    rintro _ w35 ⟨e3, rfl, hae3, hne3⟩; replace H := H.learn hne3.2 (FCo w26.heap.size w35.heap.size e3) hne3.1 (Nat.le_refl _) (Nat.le_refl _); clear hne3
    rw [hag2.1]
    refine Zl (Yu rfl)<|Zl (Xa rfl rfl)<|Zl (Xi rfl rfl)<|alo H z_Coord rfl fun w36 b28 H =>stN H 0 (#[.int .i64 (e3.clock), .int .i64 (e3.next), .int .i64 (e3.wait), .slice e3.A e3.txs.length e3.cap]) siz_Coord rfl rfl rfl rfl rfl (by kernel_rfl) (by kernel_rfl) fun w37 H =>Zl (Wi rfl)<|Zn<|Zs<|Zr<|Zl (Zw agg_Coord H 3 rfl rfl rfl)<|Zl (Yi rfl)<|Zl (Yb rfl)<|Zl (not_r rfl)<|cal cb_coord_End (endSc_ok p dee 0 (!commit) 98 _ (Hp.co H 1 rfl) (hbp.more (by omega)) dee_ok) rfl rfl ?_
    rintro _ w38 ⟨e4, rfl, hae4, hne4⟩; replace H := H.learn hne4.2 (FCo w37.heap.size w38.heap.size e4) hne4.1 (Nat.le_refl _) (Nat.le_refl _); clear hne4
    rw [hag2.2]
    refine Zl (Yu rfl)<|Zl (Xa rfl rfl)<|Zl (Xi rfl rfl)<|alo H z_Coord rfl fun w39 b30 H =>stN H 0 (#[.int .i64 (e4.clock), .int .i64 (e4.next), .int .i64 (e4.wait), .slice e4.A e4.txs.length e4.cap]) siz_Coord rfl rfl rfl rfl rfl (by kernel_rfl) (by kernel_rfl) fun w40 H =>Zl (Wi rfl)<|Zn<|Zs<|Zr<|Zl (Ys rfl)<|Zl (Ys rfl)<|cal cb_slices_Equal_Lint_int (eq_int_ok mk R _ _ _ _ _ ((ho.rd (K := [_, _, _, _, _]) (M := []) H).mono (Nat.zero_le _) (Nat.le_refl _)) (H.rd0 3 rfl) (by omega)) rfl rfl ?_
    rintro _ w41 ⟨rfl, hb⟩; replace H := H.later hb; clear hb
    rw [decide_eq_true hmk]
    refine Zl (Yb rfl)<|ZG<|Zl (Yi rfl)<|ZG<|Zl (eqlT_r rfl rfl rfl)<|Zl (Kt rfl rfl)<|Zl (Yb rfl)<|ZG<|Zl (Yi rfl)<|ZG<|Zl (eqlT_r rfl rfl rfl)<|Zl (Kt rfl rfl)<|Zl (Wb rfl)<|Zn ?_
    refine Zt ?_
    exact fin1 (v := .bool true) rfl rfl ⟨rfl, H.below⟩
 ·
  refine Zl (Yb rfl)<|ZN<|ZN<|Zl (Kf rfl rfl)<|Zn<|ZF rfl<|Zx<|Zs ?_
  obtain ⟨R, hRd⟩ : ∃ R, addAll ps = R := ⟨_, rfl⟩
  have hR : uniq (isortN ltI ps.length ps) = R := sorted_once ps (hRd ▸ (partsOk_rise (deeA_parts hbp.a.ok hDp)).1) (fun x => by rw [← hRd]; exact addAll_mem ps x)
  have hR4 : R.length ≤ 4 := by rw [← hRd]; exact partsOk_len (deeA_parts hbp.a.ok hDp)
  refine Zr<|Zl (Ys rfl)<|cal cb_slices_Sort_Lint_int (sortO_ok (K := [_]) (M := []) H ho (by omega)) rfl rfl ?_
  rintro _ w42 ⟨L2, rfl, ho2, H⟩
  refine Zn<|Zs<|Zr<|Zl (Ys rfl)<|cal cb_slices_Compact_Lint_int (by have hA := compactO_ok (K := [_]) (M := []) (es := isortN ltI ps.length ps) (c := wc0) (A := W0) H (by rw [isortN_len]; exact ho2) (by rw [isortN_len]; omega); rw [isortN_len] at hA; exact hA) rfl rfl ?_
  rintro _ w43 ⟨L3, rfl, ho3, H⟩
  rw [hR] at ho3 ⊢
  obtain ⟨lo3, hi3, H⟩ := Hp.sealO (K := [_]) (M := []) H ho3
  have hRc : R.length ≤ wc0 := by obtain ⟨_, _, e, h, _⟩ := ho3.form; injection e with _ _ e; omega
  refine Zl (Ws rfl)<|Zn<|Zs<|Zr<|Zl (Zw agg_Coord H 0 rfl rfl rfl)<|Zl (Yi rfl)<|Zl (Yb rfl)<|cal cb_coord_End (endSc_ok p dee 0 commit 37 _ (Hp.co H 1 rfl) (hbp.more (by omega)) dee_ok) rfl rfl ?_
  have hE := hDp.end_ commit
  have hbe := endS_ok (s := dee) (ver := 0) (b := commit) (hbp.a.more (show 31 + j ≤ 37 by omega)) hE.1
  rintro _ w44 ⟨e0, rfl, hae0, hne0⟩; replace H := H.learn hne0.2 (FCo w43.heap.size w44.heap.size e0) hne0.1 (Nat.le_refl _) (Nat.le_refl _); clear hne0
  have hDe := hE.2
  rw [← hae0] at hDe hbe
  rw [hE.1]
  rw [hRd] at hDe
  replace hbe : CoB 38 e0 := CoB.of_a hbe
  have hag := hDe.again
  refine Zl (Yu rfl)<|Zl (Xa rfl rfl)<|Zl (Xi rfl rfl)<|stN H 0 (#[.int .i64 (e0.clock), .int .i64 (e0.next), .int .i64 (e0.wait), .slice e0.A e0.txs.length e0.cap]) siz_Coord rfl rfl rfl rfl rfl (by kernel_rfl) (by kernel_rfl) fun w45 H =>Zl (Wi rfl)<|Zn<|Zs<|Zr<|Zl (Zw agg_Coord H 0 rfl rfl rfl)<|Zl (Yi rfl)<|Zl (Yb rfl)<|cal cb_coord_End (endSc_ok e0 dee 0 commit 38 _ (Hp.co H 0 rfl) hbe dee_ok) rfl rfl ?_
  rintro _ w46 ⟨e1, rfl, hae1, hne1⟩; replace H := H.learn hne1.2 (FCo w45.heap.size w46.heap.size e1) hne1.1 (Nat.le_refl _) (Nat.le_refl _); clear hne1
  rw [hag.1]
  refine Zl (Yu rfl)<|Zl (Xa rfl rfl)<|Zl (Xi rfl rfl)<|alo H z_Coord rfl fun w47 b18 H =>stN H 0 (#[.int .i64 (e1.clock), .int .i64 (e1.next), .int .i64 (e1.wait), .slice e1.A e1.txs.length e1.cap]) siz_Coord rfl rfl rfl rfl rfl (by kernel_rfl) (by kernel_rfl) fun w48 H =>Zl (Wi rfl)<|Zn<|Zs<|Zr<|Zl (Zw agg_Coord H 1 rfl rfl rfl)<|Zl (Yi rfl)<|Zl (Yb rfl)<|Zl (not_r rfl)<|cal cb_coord_End (endSc_ok e0 dee 0 (!commit) 38 _ (Hp.co H 1 rfl) hbe dee_ok) rfl rfl ?_
  rintro _ w49 ⟨e2, rfl, hae2, hne2⟩; replace H := H.learn hne2.2 (FCo w48.heap.size w49.heap.size e2) hne2.1 (Nat.le_refl _) (Nat.le_refl _); clear hne2
  rw [hag.2]
  refine Zl (Yu rfl)<|Zl (Xa rfl rfl)<|Zl (Xi rfl rfl)<|alo H z_Coord rfl fun w50 b20 H =>stN H 0 (#[.int .i64 (e2.clock), .int .i64 (e2.next), .int .i64 (e2.wait), .slice e2.A e2.txs.length e2.cap]) siz_Coord rfl rfl rfl rfl rfl (by kernel_rfl) (by kernel_rfl) fun w51 H =>Zl (Wi rfl)<|Zn<|Zs<|Zs<|Zr<|Zl (Yb rfl)<|Zl (not_r rfl)<|Zl (Yb rfl)<|ZG ?_
  refine Zl (Yi rfl)<|ZG<|Zl (neqF_r rfl rfl rfl)<|Zl (Kf rfl rfl)<|Zl (Yb rfl)<|ZG<|Zl (Yi rfl)<|ZG<|Zl (neqF_r rfl rfl rfl)<|Zl (Kf rfl rfl)<|Zl (Yb rfl)<|ZG<|Zl (Yi rfl)<|ZG ?_
  refine Zl (neqF_r rfl rfl rfl)<|Zl (Kf rfl rfl)<|Zl (Yb rfl)<|ZG<|Zl (Yi rfl)<|ZG<|Zl (neqF_r rfl rfl rfl)<|Zl (Kf rfl rfl)<|Zn<|ZF rfl<|Zk<|Zs<|Zr<|Zl (Ws rfl) ?_
  refine Zn<|Zs<|Zs<|Zr<|Zl (Yi rfl)<|Zn<|Zb ?_
  refine cw_loop (τ := Nat × Co × List Int × List Int × Option Addr × Nat × Nat × Nat) [6, 22, 23, 24, 25, 26, 27, 118, 119, 120, 121, 122, 123, 124, 125, 126, 127, 128, 129, 130, 131, 132, 133, 134, 135, 136, 137, 138, 139, 140, 141, 142, 143, 144, 145, 146, 147, 148, 149, 150, 151, 152, 153, 154, 155, 156, 157, 158, 159, 160, 161, 162, 163, 164, 165, 166, 167, 168, 169, 170, 171, 172, 173] (fun (k, _, mk, _, W, wc, _, _) => [(118, .int .i64 (k : Nat)), (22, .slice W mk.length wc)]) (fun (k, p, mk, P, W, wc, lo, hi) w' => k ≤ 60 ∧ mk ++ P = R ∧ (P = [] ∨ P.length + k ≤ R.length) ∧ CoB (38 + k) p ∧ DeeM p.a pid (wantOf commit) P ∧ ∃ L1, Own intL (.slice W mk.length wc) T_int mk L1 ∧ Hp w w' ([(b20, .cells #[.int .i64 (e2.clock), .int .i64 (e2.next), .int .i64 (e2.wait), .slice e2.A e2.txs.length e2.cap] T_Coord (0, 0)), (b18, .cells #[.int .i64 (e1.clock), .int .i64 (e1.next), .int .i64 (e1.wait), .slice e1.A e1.txs.length e1.cap] T_Coord (0, 0)), (b7, .cells #[.int .i64 (p.clock), .int .i64 (p.next), .int .i64 (p.wait), .slice p.A p.txs.length p.cap] T_Coord (0, 0))] ++ L1 ++ []) [FCo lo hi p, FRd intL lo3 hi3 W0 R]) (fun (k, _) => 60 - k) (0, e0, [], R, none, 0, w43.heap.size, w44.heap.size) ⟨by omega, rfl, .inr (by omega), hbe, hDe, [], Own.nil, H.forget (List.Sublist.refl _) (fun f hf => by simp only [List.mem_cons] at hf ⊢; grind)⟩ (sl2 rfl rfl) ?_
  rintro ⟨k, p, mk, P, W, wc, lo, hi⟩ ρ1 w52 ⟨hk60, hmk, hPk, hbp, hDp, L1, ho, H⟩
  show CW _ _ _ _ (updL (ovr _ _ ρ1) [(118, .int .i64 (k : Nat)), (22, .slice W mk.length wc)]) w52
  refine Zs<|Zr ?_
  refine lwD (lss_r rfl rfl) rfl rfl rfl (fun h119 => ?_) (fun h119 => ?_)
  ·
   refine Zn<|Zs<|ZT rfl<|Zk<|Zs<|Zb<|Zs<|Zr<|Zl (Yi rfl)<|Zn<|Zb ?_
   refine cw_loop (τ := Nat) [6, 22, 23, 24, 25, 26, 27, 120, 121, 122, 123, 124, 125, 126, 127, 128, 129, 130, 131, 132, 133, 134, 135, 136, 137, 138, 139, 140, 141, 142, 143, 144, 145, 146, 147, 148, 149, 150, 151, 152, 153, 154, 155, 156, 157, 158, 159, 160, 161, 162, 163, 164, 165, 166, 167, 168, 169, 170, 171, 172] (fun n => [(120, .int .i64 (n : Nat)), (22, .slice W mk.length wc)]) (fun n w' => n ≤ 8 ∧ (∀ m, m < n → ¬ (nextE (nthEnd p.a.txs m) = 0 ∧ nextNm (nthEnd p.a.txs m) = dee)) ∧ Hp w w' ([(b20, .cells #[.int .i64 (e2.clock), .int .i64 (e2.next), .int .i64 (e2.wait), .slice e2.A e2.txs.length e2.cap] T_Coord (0, 0)), (b18, .cells #[.int .i64 (e1.clock), .int .i64 (e1.next), .int .i64 (e1.wait), .slice e1.A e1.txs.length e1.cap] T_Coord (0, 0)), (b7, .cells #[.int .i64 (p.clock), .int .i64 (p.next), .int .i64 (p.wait), .slice p.A p.txs.length p.cap] T_Coord (0, 0))] ++ L1 ++ []) [FCo lo hi p, FRd intL lo3 hi3 W0 R]) (fun n => 8 - n) 0 ⟨by omega, by intro m hm; omega, H⟩ (sl2 rfl rfl) ?_
   rintro n ρ2 w53 ⟨hn8, hno, H⟩
   show CW _ _ _ _ (updL (ovr _ _ ρ2) [(120, .int .i64 (n : Nat)), (22, .slice W mk.length wc)]) w53
   refine Zs<|Zr ?_
   refine lwD (lss_r rfl rfl) rfl rfl rfl (fun h121 => ?_) (fun h121 => ?_)
   ·
    refine Zn<|Zs<|ZT rfl<|Zk<|Zs<|Zb<|Zs<|Zr<|Zl (Yi rfl)<|Zl (Wi rfl)<|Zn<|Zs<|Zr<|Zl (Zw agg_Coord H 2 rfl rfl rfl) ?_
    refine Zl (Yi rfl)<|cal cb_coord_Next (nextT_ok p n _ (Hp.co H 0 rfl) hbp.ok (by omega)) rfl rfl ?_
    rintro _ w54 ⟨rfl, hb⟩; replace H := H.later hb; clear hb
    refine Zl (Yu rfl)<|Zl (exT_r rfl rfl)<|Zl (Xi rfl rfl)<|Zl (Xa rfl rfl)<|Zl (Xi rfl rfl)<|alo H z_Entry rfl fun w55 b26 H =>Zl (Wt rfl)<|Zl (Wi rfl)<|stN H 0 (#[.int .i64 (0), .int .i64 (nextPid (nthEnd p.a.txs n)), .int .i64 (nextVer (nthEnd p.a.txs n)), .int .i64 (0), .int .i64 (nextKd (nthEnd p.a.txs n)), .bool (nextB (nthEnd p.a.txs n)), .string (⟨#[]⟩)]) siz_Entry rfl rfl rfl rfl rfl (by kernel_rfl) (by kernel_rfl) fun w56 H =>Zl (Wi rfl)<|Zn<|Zs<|Zs<|Zr ?_
    refine Zl (Yi rfl) ?_
    refine lwND (neq_r rfl rfl) rfl rfl rfl (fun h132 => ?_) (fun h132 => ?_)
    ·
     refine Zl (Yb rfl)<|ZN<|ZN<|Zl (Kt rfl rfl)<|Zn<|ZT rfl<|Zx<|Zr<|Zl (add_r rfl rfl (by omega) (by omega))<|Zl (Yi rfl)<|Zn ?_
     exact ⟨n + 1, ⟨by omega, (fun m hm => if hmn : m < n then hno m hmn else (by obtain rfl : m = n := (by omega); exact fun hh => h132 hh.1)), H.forget (.cons _ (List.Sublist.refl _)) (fun _ h => h)⟩, sl2 rfl rfl, by repeat (first | exact Agr.refl _ _ | exact agr_ovr | refine agr_upd rfl ?_ | refine agr_updL _ rfl ?_ | refine agr_ovr2 rfl ?_), by show 8 - (n + 1) < 8 - n; omega⟩
    ·
     refine Zl (Yb rfl)<|ZG<|Zl (Yt rfl)<|ZG ?_
     refine lwND (sneq_r rfl rfl) rfl rfl rfl (fun h135 => ?_) (fun h135 => ?_)
     ·
      refine Zl (Kf rfl rfl)<|Zn<|ZT rfl<|Zx<|Zr<|Zl (add_r rfl rfl (by omega) (by omega))<|Zl (Yi rfl)<|Zn ?_
      exact ⟨n + 1, ⟨by omega, (fun m hm => if hmn : m < n then hno m hmn else (by obtain rfl : m = n := (by omega); exact fun hh => h135 hh.2)), H.forget (.cons _ (List.Sublist.refl _)) (fun _ h => h)⟩, sl2 rfl rfl, by repeat (first | exact Agr.refl _ _ | exact agr_ovr | refine agr_upd rfl ?_ | refine agr_updL _ rfl ?_ | refine agr_ovr2 rfl ?_), by show 8 - (n + 1) < 8 - n; omega⟩
     ·
      obtain ⟨p0, P2, ix, tx, rfl, hpt, hpi, hve, hkd, hbb, hfx, hst, hpp, hd0, hDq⟩ := hDp.next hbp.a.ok h132 h135
      have hnm : nextNm (nthEnd p.a.txs n) = dee := h135
      rw [hbb] at H
      refine Zl (Kf rfl rfl)<|Zn<|ZF rfl<|Zk<|Zs<|Zs<|Zr<|Zl (Zf fd_Entry_1 rfl)<|Zl (Zd one_int H 0 rfl rfl rfl)<|Zl (Yi rfl)<|Zl (neqF_r rfl rfl hpi)<|Zl (Yb rfl)<|ZG<|Zl (Zf fd_Entry_2 rfl) ?_
      refine ZG<|Zl (Zd one_int H 0 rfl rfl rfl)<|ZG<|Zl (Yi rfl)<|ZG<|Zl (neqF_r rfl rfl hve)<|Zl (Kf rfl rfl)<|Zl (Yb rfl)<|ZG<|Zl (Zf fd_Entry_4 rfl)<|ZG<|Zl (Zd one_int H 0 rfl rfl rfl)<|ZG<|Zl (eql_r rfl rfl) ?_
      refine ZG<|Zl (Yb rfl)<|ZG<|Zl (bneqC_r (r := false) und_bool rfl rfl (by rw [hkd]; simp))<|Zl (Kf rfl rfl)<|Zl (Yb rfl)<|ZG<|Zl (Zf fd_Entry_5 rfl)<|ZG<|Zl (Zd one_bool H 0 rfl rfl rfl)<|ZG<|Zl (not_r rfl)<|Zl (Kf rfl rfl)<|Zn ?_
      refine ZF rfl<|Zk<|Zs<|Zr<|Zl (Zw agg_Coord H 3 rfl rfl rfl)<|Zl (Yt rfl)<|Zl (Yi rfl)<|cal cb_coord_Done (doneSc_ok p (nextNm (nthEnd p.a.txs n)) (nextPt (nthEnd p.a.txs n)) (38 + k) ix tx _ (Hp.co H 0 rfl) hbp (by rw [hnm]; exact dee_ok) (by rw [hnm]; exact hfx) hst (by rw [hpt]; exact hpp)) rfl rfl ?_
      have hbq := doneS_ok (s := dee) (p := p0) hbp.a hd0
      rintro _ w57 ⟨q, rfl, haq, hnq⟩; replace H := H.learn hnq.2 (FCo w56.heap.size w57.heap.size q) hnq.1 (Nat.le_refl _) (Nat.le_refl _); clear hnq
      rw [hnm, hpt] at haq
      rw [← haq] at hDq hbq
      replace hbq : CoB (38 + k + 1) q := CoB.of_a hbq
      refine Zl (Yu rfl)<|Zl (Xa rfl rfl)<|Zl (Xi rfl rfl)<|stN H 3 (#[.int .i64 (q.clock), .int .i64 (q.next), .int .i64 (q.wait), .slice q.A q.txs.length q.cap]) siz_Coord rfl rfl rfl rfl rfl (by kernel_rfl) (by kernel_rfl) fun w58 H =>Zl (Wi rfl)<|Zn<|Zs<|Zs<|Zr<|Zl (Yi rfl)<|Zl (neqF_r rfl rfl rfl)<|Zn<|ZF rfl<|Zk ?_
      refine Zs ?_
      have hmkl := congrArg List.length hmk
      simp only [List.length_append, List.length_cons] at hmkl
      refine Zr<|Zl (Ys rfl)<|Zl (Yi rfl)<|bsv (vs := [.int .i64 (nextPt (nthEnd p.a.txs n))]) H sl_Lint z_int rfl rfl rfl rfl rfl rfl fun w59 b170 H =>apO (Y := intL) ap_Lint (K := [(b170, _), (b26, _), (b20, _), (b18, _), (b7, _)]) (L := L1) (M := []) H ho (news := [nextPt (nthEnd p.a.txs n)]) rfl rfl rfl (Src.row (m := 1) (sz := intL.sz) (H.ent (i := 0) rfl) rfl) (by simp only [List.length_singleton]; omega) rfl ?_
      intro A171 c171 w60 L171 h171 _ ho171 H
      refine Zl (Ws rfl)<|Zn<|Zx<|Zr<|Zl (add_r rfl rfl (by omega) (by omega))<|Zl (Yi rfl)<|Zn ?_
      exact ⟨(k + 1, q, mk ++ [nextPt (nthEnd p.a.txs n)], P2, A171, c171, w56.heap.size, w57.heap.size), ⟨by omega, by rw [hpt, List.append_assoc]; exact hmk, .inr (by have := hPk.resolve_left (by simp); simp only [List.length_cons] at this; omega), hbq, hDq, L171, ho171, H.forget (.cons _ (.cons _ (List.Sublist.refl _))) (fun f hf => by simp only [List.mem_cons] at hf ⊢; grind)⟩, sl2 rfl rfl, by repeat (first | exact Agr.refl _ _ | exact agr_ovr | refine agr_upd rfl ?_ | refine agr_updL _ rfl ?_ | refine agr_ovr2 rfl ?_), by show 60 - (k + 1) < 60 - k; omega⟩
   ·
    refine Zn<|Zs<|ZF rfl<|Zx<|Zr<|Zl (add_r rfl rfl (by omega) (by omega))<|Zl (Yi rfl)<|Zn ?_
    have hP := hDp.seen hbp.a.ok (fun m hm => hno m (by omega))
    exact ⟨(k + 1, p, mk, P, W, wc, lo, hi), ⟨by omega, hmk, .inl hP, hbp.more (by omega), hDp, L1, ho, H⟩, sl2 rfl rfl, by repeat (first | exact Agr.refl _ _ | exact agr_ovr | refine agr_upd rfl ?_ | refine agr_updL _ rfl ?_ | refine agr_ovr2 rfl ?_), by show 60 - (k + 1) < 60 - k; omega⟩
  ·
   have hmkl := congrArg List.length hmk
   simp only [List.length_append] at hmkl
   have hP : P = [] := by rcases hPk with h | h; exact h; omega
   subst hP
   rw [List.append_nil] at hmk
   have hag2 := hDp.again
   refine Zn<|Zs<|ZF rfl<|Zx<|Zs<|Zr<|Zl (Zw agg_Coord H 2 rfl rfl rfl)<|Zl (Yi rfl)<|Zl (Yb rfl)<|cal cb_coord_End (endSc_ok p dee 0 commit 98 _ (Hp.co H 0 rfl) (hbp.more (by omega)) dee_ok) rfl rfl ?_
   rintro _ w61 ⟨e3, rfl, hae3, hne3⟩; replace H := H.learn hne3.2 (FCo w52.heap.size w61.heap.size e3) hne3.1 (Nat.le_refl _) (Nat.le_refl _); clear hne3
   rw [hag2.1]
   refine Zl (Yu rfl)<|Zl (Xa rfl rfl)<|Zl (Xi rfl rfl)<|alo H z_Coord rfl fun w62 b28 H =>stN H 0 (#[.int .i64 (e3.clock), .int .i64 (e3.next), .int .i64 (e3.wait), .slice e3.A e3.txs.length e3.cap]) siz_Coord rfl rfl rfl rfl rfl (by kernel_rfl) (by kernel_rfl) fun w63 H =>Zl (Wi rfl)<|Zn<|Zs<|Zr<|Zl (Zw agg_Coord H 3 rfl rfl rfl)<|Zl (Yi rfl)<|Zl (Yb rfl)<|Zl (not_r rfl)<|cal cb_coord_End (endSc_ok p dee 0 (!commit) 98 _ (Hp.co H 1 rfl) (hbp.more (by omega)) dee_ok) rfl rfl ?_
   rintro _ w64 ⟨e4, rfl, hae4, hne4⟩; replace H := H.learn hne4.2 (FCo w63.heap.size w64.heap.size e4) hne4.1 (Nat.le_refl _) (Nat.le_refl _); clear hne4
   rw [hag2.2]
   refine Zl (Yu rfl)<|Zl (Xa rfl rfl)<|Zl (Xi rfl rfl)<|alo H z_Coord rfl fun w65 b30 H =>stN H 0 (#[.int .i64 (e4.clock), .int .i64 (e4.next), .int .i64 (e4.wait), .slice e4.A e4.txs.length e4.cap]) siz_Coord rfl rfl rfl rfl rfl (by kernel_rfl) (by kernel_rfl) fun w66 H =>Zl (Wi rfl)<|Zn<|Zs<|Zr<|Zl (Ys rfl)<|Zl (Ys rfl)<|cal cb_slices_Equal_Lint_int (eq_int_ok mk R _ _ _ _ _ ((ho.rd (K := [_, _, _, _, _]) (M := []) H).mono (Nat.zero_le _) (Nat.le_refl _)) (H.rd0 3 rfl) (by omega)) rfl rfl ?_
   rintro _ w67 ⟨rfl, hb⟩; replace H := H.later hb; clear hb
   rw [decide_eq_true hmk]
   refine Zl (Yb rfl)<|ZG<|Zl (Yi rfl)<|ZG<|Zl (eqlT_r rfl rfl rfl)<|Zl (Kt rfl rfl)<|Zl (Yb rfl)<|ZG<|Zl (Yi rfl)<|ZG<|Zl (eqlT_r rfl rfl rfl)<|Zl (Kt rfl rfl)<|Zl (Wb rfl)<|Zn ?_
   refine Zt ?_
   exact fin1 (v := .bool true) rfl rfl ⟨rfl, H.below⟩
end Go.Proofs.Ytemnchkebhclpaa
end
