/- V11: a part of the proofs over this seat: what stands in its theorems holds for every input that they name. -/
import Derived.Test.YtemnchkebhclpaaGU
namespace Go.Proofs.Ytemnchkebhclpaa
open Go Go.Eng Go.RowKit
set_option linter.unusedSimpArgs false
set_option maxHeartbeats 4000000 in
set_option maxRecDepth 10000 in
theorem eq_string_ok (es fs : List ByteArray) (A B : Option Addr) (c d : Nat) (w : World) (hr : Rd strL 0 w.heap.size A es w) (hs : Rd strL 0 w.heap.size B fs w) (hb : es.length ≤ 1000000000000) :
    Ret Try.prog i_slices_Equal_Lstring_string [.slice A es.length c, .slice B fs.length d] w fun v w2 => v = .bool (decide (es = fs)) ∧ Below w.heap.size w w2 := by
  refine ret_of fn_slices_Equal_Lstring_string rfl rfl ?_
  have H := (Hp.startRd hr).learnOld (FRd strL 0 w.heap.size B fs) hs (Nat.le_refl _)
  refine cw_seq ?_
  refine cw_region ?_ -- region 0 slices.go:20
  refine l1 (asB_r rfl) rfl rfl rfl ?_
  refine lw_nil ?_
  refine cw_seq ?_
  refine cw_seq ?_
  refine cw_region ?_ -- region 1 slices.go:21
  refine l1 (mvS_r rfl) rfl rfl rfl ?_
  refine l1 (lenS_r len_Lstring rfl) rfl rfl rfl ?_
  refine l1 (mvS_r rfl) rfl rfl rfl ?_
  refine l1 (lenS_r len_Lstring rfl) rfl rfl rfl ?_
  refine lwND (neq_r rfl rfl) rfl rfl rfl (fun h10 => ?_) (fun h10 => ?_)
  · -- slot 10 True
    have hne : es ≠ fs := fun h => h10 (by rw [h])
    refine lw_nil ?_
    refine cw_true rfl ?_
    refine cw_seq ?_
    refine cw_region ?_ -- region 2 slices.go:22
    refine l1 (asB_r rfl) rfl rfl rfl ?_
    refine lw_nil ?_
    refine cw_ret ?_
    exact fin1 (v := .bool false) rfl rfl ⟨by rw [decide_eq_false hne], H.below⟩
  · -- slot 10 False
    have hlen : es.length = fs.length := by omega
    refine lw_nil ?_
    refine cw_false rfl ?_
    refine cw_skip ?_
    refine cw_seq ?_
    refine cw_seq ?_
    refine cw_region ?_ -- region 3 slices.go:24
    refine l1 (mvS_r rfl) rfl rfl rfl ?_
    refine l1 (lenS_r len_Lstring rfl) rfl rfl rfl ?_
    refine l1 (mvI_r rfl) rfl rfl rfl ?_
    refine lw_nil ?_
    refine cw_block ?_ -- block 0
    refine cw_loop (τ := Nat) [4, 5, 13, 14, 15, 16, 17, 18, 19, 20, 21, 22, 23, 24, 25] (fun k => [(13, .int .i64 (k : Nat))]) (fun k w' => k ≤ es.length ∧ es.take k = fs.take k ∧ Hp w w' [] [FRd strL 0 w.heap.size B fs, FRd strL 0 w.heap.size A es]) (fun k => es.length - k) 0 ⟨by omega, rfl, H⟩ (sl1 rfl) ?_ -- LOOP 0
    rintro k ρ1 w1 ⟨hk, heq, H⟩
    show CW _ _ _ _ (updL (ovr _ _ ρ1) [(13, .int .i64 (k : Nat))]) w1
    refine cw_seq ?_
    refine cw_region ?_ -- region 4 slices.go:24
    refine lwD (lss_r rfl rfl) rfl rfl rfl (fun h14 => ?_) (fun h14 => ?_)
    · -- slot 14 True
      refine lw_nil ?_
      refine cw_seq ?_
      refine cw_true rfl ?_
      refine cw_skip ?_
      refine cw_seq ?_
      refine cw_block ?_ -- block 1
      refine cw_seq ?_
      refine cw_region ?_ -- region 5 slices.go:24
      refine l1 (mvI_r rfl) rfl rfl rfl ?_
      refine l1 (asI_r rfl) rfl rfl rfl ?_
      refine lw_nil ?_
      refine cw_seq ?_
      -- region 6 draws
      refine cw_draw mixed [0, 1, 2, 3, 4, 5, 6, 7, 8] [] [] [0, 1, 2, 4, 5, 6, 8] (sp []) (by kernel_rfl) (by kernel_rfl) (by kernel_rfl) (by kernel_rfl) (fun _ _ _ h => h) (sp_st _) ?_
      refine aw rfl rfl rfl rfl rfl (fun w' hw' => mvS_r rfl) ?_
      refine aw rfl rfl rfl rfl rfl (fun w' hw' => mvI_r rfl) ?_
      refine awIxF H 1 rfl rfl rfl rfl rfl sl_Lstring rfl rfl (by omega) (by omega) ?_; intro b2 o2 x2 e2
      refine aw rfl rfl rfl rfl rfl (fun w' hw' => ld_r one_string rfl (e2.later hw' 0 _ rfl)) ?_
      refine aw rfl rfl rfl rfl rfl (fun w' hw' => mvS_r rfl) ?_
      refine aw rfl rfl rfl rfl rfl (fun w' hw' => mvI_r rfl) ?_
      refine awIxF H 0 rfl rfl rfl rfl rfl sl_Lstring rfl rfl (by omega) (by omega) ?_; intro b3 o3 x3 e3
      refine aw rfl rfl rfl rfl rfl (fun w' hw' => ld_r one_string rfl (e3.later hw' 0 _ rfl)) ?_
      refine awND rfl rfl rfl rfl rfl (fun w' hw' => sneq_r rfl rfl) (fun h24 => ?_) (fun h24 => ?_)
      · -- slot 24 True
        refine aw_nil ?_
        intro w4 hw' hF
        replace H := H.later hw'; clear hw' hF
        refine lw_nil ?_
        refine cw_true rfl ?_
        refine cw_seq ?_
        refine cw_region ?_ -- region 7 slices.go:26
        refine l1 (asB_r rfl) rfl rfl rfl ?_
        refine lw_nil ?_
        refine cw_ret ?_
        have hne : es ≠ fs := fun h => by subst h; have h1 := e2.at_; rw [e3.at_] at h1; injection h1 with h1; exact h24 h1.symm
        exact fin1 (v := .bool false) rfl rfl ⟨by rw [decide_eq_false hne], H.below⟩
      · -- slot 24 False
        refine aw_nil ?_
        intro w5 hw' hF
        replace H := H.later hw'; clear hw' hF
        refine lw_nil ?_
        refine cw_false rfl ?_
        refine cw_skip ?_
        refine cw_region ?_ -- region 8 slices.go:24
        refine l1 (add_r rfl rfl (by omega) (by omega)) rfl rfl rfl ?_
        refine l1 (mvI_r rfl) rfl rfl rfl ?_
        refine lw_nil ?_
        refine ⟨k + 1, ⟨by omega, by rw [take_snoc e2.at_, take_snoc e3.at_, heq, h24], H⟩, sl1 rfl, by repeat (first | exact Agr.refl _ _ | exact agr_ovr | refine agr_upd rfl ?_ | refine agr_updL _ rfl ?_ | refine agr_ovr2 rfl ?_), by show es.length - (k + 1) < es.length - k; omega⟩
    · -- slot 14 False
      refine lw_nil ?_
      refine cw_seq ?_
      refine cw_false rfl ?_
      refine cw_exit ?_ -- 0
      refine cw_seq ?_
      refine cw_region ?_ -- region 9 slices.go:29
      refine l1 (asB_r rfl) rfl rfl rfl ?_
      refine lw_nil ?_
      refine cw_ret ?_
      have hke : k = es.length := by omega
      subst hke
      rw [List.take_length, hlen, List.take_length] at heq
      exact fin1 (v := .bool true) rfl rfl ⟨by rw [decide_eq_true heq], H.below⟩
set_option maxHeartbeats 4000000 in
set_option maxRecDepth 10000 in
theorem eq_int_ok (es fs : List Int) (A B : Option Addr) (c d : Nat) (w : World) (hr : Rd intL 0 w.heap.size A es w) (hs : Rd intL 0 w.heap.size B fs w) (hb : es.length ≤ 1000000000000) :
    Ret Try.prog i_slices_Equal_Lint_int [.slice A es.length c, .slice B fs.length d] w fun v w2 => v = .bool (decide (es = fs)) ∧ Below w.heap.size w w2 := by
  refine ret_of fn_slices_Equal_Lint_int rfl rfl ?_
  have H := (Hp.startRd hr).learnOld (FRd intL 0 w.heap.size B fs) hs (Nat.le_refl _)
  refine cw_seq ?_
  refine cw_region ?_ -- region 0 slices.go:20
  refine l1 (asB_r rfl) rfl rfl rfl ?_
  refine lw_nil ?_
  refine cw_seq ?_
  refine cw_seq ?_
  refine cw_region ?_ -- region 1 slices.go:21
  refine l1 (mvS_r rfl) rfl rfl rfl ?_
  refine l1 (lenS_r len_Lint rfl) rfl rfl rfl ?_
  refine l1 (mvS_r rfl) rfl rfl rfl ?_
  refine l1 (lenS_r len_Lint rfl) rfl rfl rfl ?_
  refine lwND (neq_r rfl rfl) rfl rfl rfl (fun h10 => ?_) (fun h10 => ?_)
  · -- slot 10 True
    have hne : es ≠ fs := fun h => h10 (by rw [h])
    refine lw_nil ?_
    refine cw_true rfl ?_
    refine cw_seq ?_
    refine cw_region ?_ -- region 2 slices.go:22
    refine l1 (asB_r rfl) rfl rfl rfl ?_
    refine lw_nil ?_
    refine cw_ret ?_
    exact fin1 (v := .bool false) rfl rfl ⟨by rw [decide_eq_false hne], H.below⟩
  · -- slot 10 False
    have hlen : es.length = fs.length := by omega
    refine lw_nil ?_
    refine cw_false rfl ?_
    refine cw_skip ?_
    refine cw_seq ?_
    refine cw_seq ?_
    refine cw_region ?_ -- region 3 slices.go:24
    refine l1 (mvS_r rfl) rfl rfl rfl ?_
    refine l1 (lenS_r len_Lint rfl) rfl rfl rfl ?_
    refine l1 (mvI_r rfl) rfl rfl rfl ?_
    refine lw_nil ?_
    refine cw_block ?_ -- block 0
    refine cw_loop (τ := Nat) [4, 5, 13, 14, 15, 16, 17, 18, 19, 20, 21, 22, 23, 24, 25] (fun k => [(13, .int .i64 (k : Nat))]) (fun k w' => k ≤ es.length ∧ es.take k = fs.take k ∧ Hp w w' [] [FRd intL 0 w.heap.size B fs, FRd intL 0 w.heap.size A es]) (fun k => es.length - k) 0 ⟨by omega, rfl, H⟩ (sl1 rfl) ?_ -- LOOP 0
    rintro k ρ1 w1 ⟨hk, heq, H⟩
    show CW _ _ _ _ (updL (ovr _ _ ρ1) [(13, .int .i64 (k : Nat))]) w1
    refine cw_seq ?_
    refine cw_region ?_ -- region 4 slices.go:24
    refine lwD (lss_r rfl rfl) rfl rfl rfl (fun h14 => ?_) (fun h14 => ?_)
    · -- slot 14 True
      refine lw_nil ?_
      refine cw_seq ?_
      refine cw_true rfl ?_
      refine cw_skip ?_
      refine cw_seq ?_
      refine cw_block ?_ -- block 1
      refine cw_seq ?_
      refine cw_region ?_ -- region 5 slices.go:24
      refine l1 (mvI_r rfl) rfl rfl rfl ?_
      refine l1 (asI_r rfl) rfl rfl rfl ?_
      refine lw_nil ?_
      refine cw_seq ?_
      -- region 6 draws
      refine cw_draw mixed [0, 1, 2, 3, 4, 5, 6, 7, 8] [] [] [0, 1, 2, 4, 5, 6, 8] (sp []) (by kernel_rfl) (by kernel_rfl) (by kernel_rfl) (by kernel_rfl) (fun _ _ _ h => h) (sp_st _) ?_
      refine aw rfl rfl rfl rfl rfl (fun w' hw' => mvS_r rfl) ?_
      refine aw rfl rfl rfl rfl rfl (fun w' hw' => mvI_r rfl) ?_
      refine awIxF H 1 rfl rfl rfl rfl rfl sl_Lint rfl rfl (by omega) (by omega) ?_; intro b2 o2 x2 e2
      refine aw rfl rfl rfl rfl rfl (fun w' hw' => ld_r one_int rfl (e2.later hw' 0 _ rfl)) ?_
      refine aw rfl rfl rfl rfl rfl (fun w' hw' => mvS_r rfl) ?_
      refine aw rfl rfl rfl rfl rfl (fun w' hw' => mvI_r rfl) ?_
      refine awIxF H 0 rfl rfl rfl rfl rfl sl_Lint rfl rfl (by omega) (by omega) ?_; intro b3 o3 x3 e3
      refine aw rfl rfl rfl rfl rfl (fun w' hw' => ld_r one_int rfl (e3.later hw' 0 _ rfl)) ?_
      refine awND rfl rfl rfl rfl rfl (fun w' hw' => neq_r rfl rfl) (fun h24 => ?_) (fun h24 => ?_)
      · -- slot 24 True
        refine aw_nil ?_
        intro w4 hw' hF
        replace H := H.later hw'; clear hw' hF
        refine lw_nil ?_
        refine cw_true rfl ?_
        refine cw_seq ?_
        refine cw_region ?_ -- region 7 slices.go:26
        refine l1 (asB_r rfl) rfl rfl rfl ?_
        refine lw_nil ?_
        refine cw_ret ?_
        have hne : es ≠ fs := fun h => by subst h; have h1 := e2.at_; rw [e3.at_] at h1; injection h1 with h1; exact h24 h1.symm
        exact fin1 (v := .bool false) rfl rfl ⟨by rw [decide_eq_false hne], H.below⟩
      · -- slot 24 False
        refine aw_nil ?_
        intro w5 hw' hF
        replace H := H.later hw'; clear hw' hF
        refine lw_nil ?_
        refine cw_false rfl ?_
        refine cw_skip ?_
        refine cw_region ?_ -- region 8 slices.go:24
        refine l1 (add_r rfl rfl (by omega) (by omega)) rfl rfl rfl ?_
        refine l1 (mvI_r rfl) rfl rfl rfl ?_
        refine lw_nil ?_
        refine ⟨k + 1, ⟨by omega, by rw [take_snoc e2.at_, take_snoc e3.at_, heq, h24], H⟩, sl1 rfl, by repeat (first | exact Agr.refl _ _ | exact agr_ovr | refine agr_upd rfl ?_ | refine agr_updL _ rfl ?_ | refine agr_ovr2 rfl ?_), by show es.length - (k + 1) < es.length - k; omega⟩
    · -- slot 14 False
      refine lw_nil ?_
      refine cw_seq ?_
      refine cw_false rfl ?_
      refine cw_exit ?_ -- 0
      refine cw_seq ?_
      refine cw_region ?_ -- region 9 slices.go:29
      refine l1 (asB_r rfl) rfl rfl rfl ?_
      refine lw_nil ?_
      refine cw_ret ?_
      have hke : k = es.length := by omega
      subst hke
      rw [List.take_length, hlen, List.take_length] at heq
      exact fin1 (v := .bool true) rfl rfl ⟨by rw [decide_eq_true heq], H.below⟩
end Go.Proofs.Ytemnchkebhclpaa
