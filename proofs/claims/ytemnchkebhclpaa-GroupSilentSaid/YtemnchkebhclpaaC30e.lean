/- C30e: a part of the proofs over this seat: what stands in its theorems holds for every input that they name. -/
import Derived.Test.YtemnchkebhclpaaGF
import Derived.Test.YtemnchkebhclpaaEngZ
open Go.Eng renaming lw_nil → Zn, cw_seq → Zs, cw_region → Zr, cw_skip → Zk, cw_ret → Zt, cw_block → Zb, cw_exit → Zx, mvI_r → Yi, mvB_r → Yb, mvS_r → Ys, mvP_r → Yp, mvT_r → Yt, mvU_r → Yu, mvA_r → Ya, asI_r → Wi, asB_r → Wb, asS_r → Ws, asP_r → Wp, asT_r → Wt, fad_r → Zf, exI_r → Xi, exA_r → Xa, exB_r → Xb, exS_r → Xs, pkTB_r → Kt, pkFB_r → Kf, cw_true → ZT, cw_false → ZF
namespace Go.Proofs.Ytemnchkebhclpaa
open Go Go.Eng Go.RowKit
set_option linter.unusedSimpArgs false
set_option maxHeartbeats 4000000 in
set_option maxRecDepth 10000 in
theorem eq_int_ok (es fs : List Int) (A B : Option Addr) (c d : Nat) (w : World) (hr : Rd intL 0 w.heap.size A es w) (hs : Rd intL 0 w.heap.size B fs w) (hb : es.length ≤ 1000000000000) :
  Ret Try.prog i_slices_Equal_Lint_int [.slice A es.length c, .slice B fs.length d] w fun v w2 => v = .bool (decide (es = fs)) ∧ Below w.heap.size w w2 := by
 refine ret_of fn_slices_Equal_Lint_int rfl rfl ?_
 have H := (Hp.startRd hr).learnOld (FRd intL 0 w.heap.size B fs) hs (Nat.le_refl _)
 refine Zs<|Zr<|Zl (Wb rfl)<|Zn<|Zs<|Zs<|Zr<|Zl (Ys rfl)<|Zl (lenS_r len_Lint rfl)<|Zl (Ys rfl)<|Zl (lenS_r len_Lint rfl) ?_
 refine lwND (neq_r rfl rfl) rfl rfl rfl (fun h10 => ?_) (fun h10 => ?_)
 ·
  have hne : es ≠ fs := fun h => h10 (by rw [h])
  refine Zn<|ZT rfl<|Zs<|Zr<|Zl (Wb rfl)<|Zn<|Zt ?_
  exact fin1 (v := .bool false) rfl rfl ⟨by rw [decide_eq_false hne], H.below⟩
 ·
  have hlen : es.length = fs.length := by omega
  refine Zn<|ZF rfl<|Zk<|Zs<|Zs<|Zr<|Zl (Ys rfl)<|Zl (lenS_r len_Lint rfl)<|Zl (Yi rfl)<|Zn<|Zb ?_
  refine cw_loop (τ := Nat) [4, 5, 13, 14, 15, 16, 17, 18, 19, 20, 21, 22, 23, 24, 25] (fun k => [(13, .int .i64 (k : Nat))]) (fun k w' => k ≤ es.length ∧ es.take k = fs.take k ∧ Hp w w' [] [FRd intL 0 w.heap.size B fs, FRd intL 0 w.heap.size A es]) (fun k => es.length - k) 0 ⟨by omega, rfl, H⟩ (sl1 rfl) ?_
  rintro k ρ1 w1 ⟨hk, heq, H⟩
  show CW _ _ _ _ (updL (ovr _ _ ρ1) [(13, .int .i64 (k : Nat))]) w1
  refine Zs<|Zr ?_
  refine lwD (lss_r rfl rfl) rfl rfl rfl (fun h14 => ?_) (fun h14 => ?_)
  ·
   refine Zn<|Zs<|ZT rfl<|Zk<|Zs<|Zb<|Zs<|Zr<|Zl (Yi rfl)<|Zl (Wi rfl)<|Zn<|Zs ?_
     
   refine cw_draw mixed [0, 1, 2, 3, 4, 5, 6, 7, 8] [] [] [0, 1, 2, 4, 5, 6, 8] (sp []) (by kernel_rfl) (by kernel_rfl) (by kernel_rfl) (by kernel_rfl) (fun _ _ _ h => h) (sp_st _) ?_
   refine aw rfl rfl rfl rfl rfl (fun w' hw' => Ys rfl)<|aw rfl rfl rfl rfl rfl (fun w' hw' => Yi rfl)<|awIxF H 1 rfl rfl rfl rfl rfl sl_Lint rfl rfl (by omega) (by omega) fun b2 o2 x2 e2 =>aw rfl rfl rfl rfl rfl (fun w' hw' => ld_r one_int rfl (e2.later hw' 0 _ rfl))<|aw rfl rfl rfl rfl rfl (fun w' hw' => Ys rfl)<|aw rfl rfl rfl rfl rfl (fun w' hw' => Yi rfl)<|awIxF H 0 rfl rfl rfl rfl rfl sl_Lint rfl rfl (by omega) (by omega) fun b3 o3 x3 e3 =>aw rfl rfl rfl rfl rfl (fun w' hw' => ld_r one_int rfl (e3.later hw' 0 _ rfl)) ?_
   refine awND rfl rfl rfl rfl rfl (fun w' hw' => neq_r rfl rfl) (fun h24 => ?_) (fun h24 => ?_)
   ·
    refine aw_nil ?_
    intro w4 hw' hF
    replace H := H.later hw'; clear hw' hF
    refine Zn<|ZT rfl<|Zs<|Zr<|Zl (Wb rfl)<|Zn<|Zt ?_
    have hne : es ≠ fs := fun h => by subst h; have h1 := e2.at_; rw [e3.at_] at h1; injection h1 with h1; exact h24 h1.symm
    exact fin1 (v := .bool false) rfl rfl ⟨by rw [decide_eq_false hne], H.below⟩
   ·
    refine aw_nil ?_
    intro w5 hw' hF
    replace H := H.later hw'; clear hw' hF
    refine Zn<|ZF rfl<|Zk<|Zr<|Zl (add_r rfl rfl (by omega) (by omega))<|Zl (Yi rfl)<|Zn ?_
    refine ⟨k + 1, ⟨by omega, by rw [take_snoc e2.at_, take_snoc e3.at_, heq, h24], H⟩, sl1 rfl, by repeat (first | exact Agr.refl _ _ | exact agr_ovr | refine agr_upd rfl ?_ | refine agr_updL _ rfl ?_ | refine agr_ovr2 rfl ?_), by show es.length - (k + 1) < es.length - k; omega⟩
  ·
   refine Zn<|Zs<|ZF rfl<|Zx<|Zs<|Zr<|Zl (Wb rfl)<|Zn<|Zt ?_
   have hke : k = es.length := by omega
   subst hke
   rw [List.take_length, hlen, List.take_length] at heq
   exact fin1 (v := .bool true) rfl rfl ⟨by rw [decide_eq_true heq], H.below⟩
end Go.Proofs.Ytemnchkebhclpaa
