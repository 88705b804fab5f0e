/- R6: a part of the proofs over this seat: what stands in its theorems holds for every input that they name. -/
import Derived.Test.YtemnchkebhclpaaR3
import Derived.Test.YtemnchkebhclpaaQ7
namespace Go.Proofs.Ytemnchkebhclpaa
open Go Go.Eng Go.RowKit
set_option linter.unusedSimpArgs false
set_option maxHeartbeats 4000000 in
set_option maxRecDepth 10000 in
theorem partFew_ok (n_ few_ : Int) (w : World) (ha : i64 n_) (hb : i64 few_) : Ret Try.prog i_tailracekeep_PartFew [.int .i64 n_, .int .i64 few_] w fun v w2 => v = .bool true ∧ Below w.heap.size w w2 := by
 refine ret_of fn_tailracekeep_PartFew rfl rfl ?_
 have H := Hp.start w
 refine cw_seq ?_
 refine cw_region ?_
 refine l1 (asB_r rfl) rfl rfl rfl ?_
 refine lw_nil ?_
 refine cw_seq ?_
 refine cw_region ?_
 refine l1 (mvI_r rfl) rfl rfl rfl ?_
 refine cal cb_tailracekeep_picked (picked_ok n_ (4) _ ha.1 ha.2 (by omega) (by omega)) rfl rfl ?_
 rintro _ w1 ⟨rfl, hb⟩; replace H := H.later hb; clear hb
 have hpkk := pk_lt n_ (show 0 < 4 by omega)
 refine l1 (add_r rfl rfl (by omega) (by omega)) rfl rfl rfl ?_
 obtain ⟨k, hk, hk1, hk4⟩ : ∃ k : Nat, (2 : Int) + ((pk n_ (4) : Nat) : Int) = (k : Nat) ∧ 2 ≤ k ∧ k ≤ 4 + 1 := ⟨2 + pk n_ (4), by omega, by omega, by omega⟩
 rw [hk]
 refine l1 (asI_r rfl) rfl rfl rfl ?_
 refine lw_nil ?_
 refine cw_seq ?_
 refine cw_region ?_
 refine l1 (mvI_r rfl) rfl rfl rfl ?_
 refine l1 (mvI_r rfl) rfl rfl rfl ?_
 refine cal cb_tailracekeep_picked (picked_ok few_ (k) _ hb.1 hb.2 (by omega) (by omega)) rfl rfl ?_
 rintro _ w2 ⟨rfl, hb⟩; replace H := H.later hb; clear hb
 have hpkm := pk_lt few_ (show 0 < k by omega)
 refine l1 (add_r rfl rfl (by omega) (by omega)) rfl rfl rfl ?_
 obtain ⟨m, hm, hm1, hm4⟩ : ∃ m : Nat, (1 : Int) + ((pk few_ (k) : Nat) : Int) = (m : Nat) ∧ 1 ≤ m ∧ m ≤ k := ⟨1 + pk few_ (k), by omega, by omega, by omega⟩
 rw [hm]
 refine l1 (asI_r rfl) rfl rfl rfl ?_
 refine lw_nil ?_
 refine cw_seq ?_
 refine cw_region ?_
 refine l1 (mvI_r rfl) rfl rfl rfl ?_
 refine l1 (mvI_r rfl) rfl rfl rfl ?_
 refine cal cb_part_New (pNew_ok k m _ (by omega) (by omega) hm1 hm4) rfl rfl ?_
 rintro _ w3 ⟨p0, rfl, hap0, hnp0⟩; replace H := H.learn hnp0.2 (FPa w2.heap.size w3.heap.size p0) hnp0.1 (Nat.le_refl _) (Nat.le_refl _); clear hnp0
 refine l1 (mvU_r rfl) rfl rfl rfl ?_
 refine l1 (exA_r rfl rfl) rfl rfl rfl ?_
 refine l1 (exI_r rfl rfl) rfl rfl rfl ?_
 refine alo H z_Part rfl ?_; intro w4 b7 H
 refine stN H 0 (#[.int .i64 (p0.epoch), .int .i64 (p0.leader), .slice p0.iA p0.isr.length p0.iC, .slice p0.kA p0.known.length p0.kC, .slice p0.rA p0.reps.length p0.rC, .int .i64 (p0.few), .int .i64 (p0.base)]) siz_Part rfl rfl rfl rfl rfl (by kernel_rfl) (by kernel_rfl) ?_; intro w5 H
 refine l1 (asI_r rfl) rfl rfl rfl ?_
 refine lw_nil ?_
 refine cw_seq ?_
 refine cw_region ?_
 refine l1 (ldW_r agg_Part rfl (H.ent (i := 0) rfl) rfl) rfl rfl rfl ?_
 refine cal cb_part_Elect (pElect_ok p0 0 _ (Hp.pa H 0 rfl) (by rw [hap0]; exact (new_gd (Φ := Plain) (by omega) (by omega) hm1 hm4).ok) (by rw [reps_len hap0]; simp [newA]; omega)) rfl rfl ?_
 rintro _ w6 ⟨q0, rfl, haq0, hnq0⟩; replace H := H.learn hnq0.2 (FPa w5.heap.size w6.heap.size q0) hnq0.1 (Nat.le_refl _) (Nat.le_refl _); clear hnq0
 rw [hap0, elect0 (by omega)]
 rw [hap0] at haq0
 obtain ⟨K0, -, hg0⟩ := elect_gd (new_gd (Φ := Plain) (n := k) (few := m) (by omega) (by omega) hm1 hm4) (elect0 (by omega))
 rw [← haq0] at hg0
 rw [few_elect hk1 (by omega)] at haq0
 refine l1 (mvU_r rfl) rfl rfl rfl ?_
 refine l1 (exA_r rfl rfl) rfl rfl rfl ?_
 refine l1 (exI_r rfl rfl) rfl rfl rfl ?_
 refine stN H 0 (#[.int .i64 (q0.epoch), .int .i64 (q0.leader), .slice q0.iA q0.isr.length q0.iC, .slice q0.kA q0.known.length q0.kC, .slice q0.rA q0.reps.length q0.rC, .int .i64 (q0.few), .int .i64 (q0.base)]) siz_Part rfl rfl rfl rfl rfl (by kernel_rfl) (by kernel_rfl) ?_; intro w7 H
 refine l1 (asI_r rfl) rfl rfl rfl ?_
 refine lw_nil ?_
 refine cw_seq ?_
 refine cw_seq ?_
 refine cw_region ?_
 refine l1 (asI_r rfl) rfl rfl rfl ?_
 refine lw_nil ?_
 refine cw_block ?_
 refine cw_loop (τ := Nat × Pa × Nat × Nat) [4, 9, 10, 11, 12, 13, 14, 38, 39, 40, 41, 42, 43, 44, 45, 46, 47, 48, 49, 50, 51, 52, 53, 54, 55, 56, 57, 58, 59, 60, 61, 62, 63, 64, 65, 66, 67, 68, 69, 70, 71, 72, 73, 74, 75] (fun (r, _) => [(10, .int .i64 (r : Nat))]) (fun (r, p, lo, hi) w' => 1 ≤ r ∧ r ≤ k ∧ p.a = fewS k m r ∧ (∃ K, Gd Plain K 0 k m p.a) ∧ Hp w w' [(b7, .cells #[.int .i64 (p.epoch), .int .i64 (p.leader), .slice p.iA p.isr.length p.iC, .slice p.kA p.known.length p.kC, .slice p.rA p.reps.length p.rC, .int .i64 (p.few), .int .i64 (p.base)] T_Part (0, 0))] [FPa lo hi p]) (fun (r, _) => k - r) (1, q0, w5.heap.size, w6.heap.size) ⟨by omega, by omega, haq0, ⟨K0, hg0⟩, H.forget (List.Sublist.refl _) (by simp)⟩ (sl1 rfl) ?_
 rintro ⟨r, p, lo, hi⟩ ρ1 w8 ⟨hr1, hrk, hap, ⟨K, hgd⟩, H⟩
 show CW _ _ _ _ (updL (ovr _ _ ρ1) [(10, .int .i64 (r : Nat))]) w8
 refine cw_seq ?_
 refine cw_seq ?_
 refine cw_region ?_
 refine l1 (mvI_r rfl) rfl rfl rfl ?_
 refine l1 (mvI_r rfl) rfl rfl rfl ?_
 refine lwD (lss_r rfl rfl) rfl rfl rfl (fun h40 => ?_) (fun h40 => ?_)
 ·
  refine lw_nil ?_
  refine cw_true rfl ?_
  refine cw_skip ?_
  refine cw_seq ?_
  refine cw_block ?_
  refine cw_seq ?_
  refine cw_region ?_
  refine l1 (mvI_r rfl) rfl rfl rfl ?_
  refine l1 (mvI_r rfl) rfl rfl rfl ?_
  refine l1 (sub_r rfl rfl (by omega) (by omega)) rfl rfl rfl ?_
  refine l1 (add_r rfl rfl (by omega) (by omega)) rfl rfl rfl ?_
  refine l1 (asI_r rfl) rfl rfl rfl ?_
  refine lw_nil ?_
  refine cw_seq ?_
  refine cw_region ?_
  refine l1 (ldW_r agg_Part rfl (H.ent (i := 0) rfl) rfl) rfl rfl rfl ?_
  refine l1 (bld_r (cs := #[.int .i64 (0), .int .i64 (0), .int .i64 (0), .int .i64 (0), .int .i64 (1), .bool (false), .string (⟨#[]⟩)]) st_Entry z_Entry (by kernel_rfl)) rfl rfl rfl ?_
  rcases Int.lt_or_le (((k : Nat) : Int) - r + 1) m with hlt | hlt
  ·
   refine cal cb_part_Put (pPut_ok p eD _ (Hp.pa H 0 rfl) hgd.ok (hgd.room (by omega))) rfl rfl ?_
   rintro _ w9 ⟨q1, rfl, haq1, hnq1⟩; replace H := H.learn hnq1.2 (FPa w8.heap.size w9.heap.size q1) hnq1.1 (Nat.le_refl _) (Nat.le_refl _); clear hnq1
   rw [hap, few_put hk1 (by omega) hr1 hrk, if_pos (by omega)]
   refine l1 (mvU_r rfl) rfl rfl rfl ?_
   refine l1 (exA_r rfl rfl) rfl rfl rfl ?_
   refine l1 (exI_r rfl rfl) rfl rfl rfl ?_
   refine l1 (exI_r rfl rfl) rfl rfl rfl ?_
   refine alo H z_Part rfl ?_; intro w10 b12 H
   refine stN H 0 (#[.int .i64 (q1.epoch), .int .i64 (q1.leader), .slice q1.iA q1.isr.length q1.iC, .slice q1.kA q1.known.length q1.kC, .slice q1.rA q1.reps.length q1.rC, .int .i64 (q1.few), .int .i64 (q1.base)]) siz_Part rfl rfl rfl rfl rfl (by kernel_rfl) (by kernel_rfl) ?_; intro w11 H
   refine l1 (asI_r rfl) rfl rfl rfl ?_
   refine l1 (asI_r rfl) rfl rfl rfl ?_
   refine lw_nil ?_
   refine cw_seq ?_
   refine cw_seq ?_
   refine cw_region ?_
   refine l1 (mvI_r rfl) rfl rfl rfl ?_
   refine l1 (eqlF_r rfl rfl (by decide)) rfl rfl rfl ?_
   refine l1 (mvI_r rfl) rfl rfl rfl ?_
   refine l1 (mvI_r rfl) rfl rfl rfl ?_
   refine l1 (geqF_r rfl rfl (by omega)) rfl rfl rfl ?_
   refine l1 (bneqC_r (r := false) und_bool rfl rfl rfl) rfl rfl rfl ?_
   refine l1 (mvB_r rfl) rfl rfl rfl ?_
   refine lwG rfl ?_
   refine l1 (mvI_r rfl) rfl rfl rfl ?_
   refine lwG rfl ?_
   refine l1 (neqT_r rfl rfl (by decide)) rfl rfl rfl ?_
   refine lwG rfl ?_
   refine l1 (mvB_r rfl) rfl rfl rfl ?_
   refine lwG rfl ?_
   refine l1 (mvI_r rfl) rfl rfl rfl ?_
   refine lwG rfl ?_
   refine l1 (neqF_r rfl rfl rfl) rfl rfl rfl ?_
   refine lwG rfl ?_
   refine l1 (pkTB_r rfl rfl) rfl rfl rfl ?_
   refine l1 (pkFB_r rfl rfl) rfl rfl rfl ?_
   refine lw_nil ?_
   refine cw_false rfl ?_
   refine cw_skip ?_
   refine cw_seq ?_
   refine cw_region ?_
   refine l1 (ldW_r agg_Part rfl (H.ent (i := 1) rfl) rfl) rfl rfl rfl ?_
   refine l1 (mvI_r rfl) rfl rfl rfl ?_
   refine cal cb_part_Crash (pCrash_ok p r 0 _ (Hp.pa H 1 rfl) hgd.ok (by have := hgd.len; simp [Pa.a] at this; omega) (by omega)) rfl rfl ?_
   have hcr := few_crash (few := m) hk1 (show k ≤ 5 by omega) hr1 (show r < k by omega)
   have hgc := crash_gd (r := r) (keep := 0) hgd (by rw [hap, hcr])
   rintro _ w12 ⟨q, rfl, haq, hnq⟩; replace H := H.learn hnq.2 (FPa w11.heap.size w12.heap.size q) hnq.1 (Nat.le_refl _) (Nat.le_refl _); clear hnq
   rw [hap, hcr]
   rw [hap, hcr] at haq
   obtain ⟨K2, -, hgd2⟩ := hgc
   rw [hap, hcr, ← haq] at hgd2
   refine l1 (mvU_r rfl) rfl rfl rfl ?_
   refine l1 (exA_r rfl rfl) rfl rfl rfl ?_
   refine l1 (exI_r rfl rfl) rfl rfl rfl ?_
   refine stN H 1 (#[.int .i64 (q.epoch), .int .i64 (q.leader), .slice q.iA q.isr.length q.iC, .slice q.kA q.known.length q.kC, .slice q.rA q.reps.length q.rC, .int .i64 (q.few), .int .i64 (q.base)]) siz_Part rfl rfl rfl rfl rfl (by kernel_rfl) (by kernel_rfl) ?_; intro w13 H
   refine l1 (asI_r rfl) rfl rfl rfl ?_
   refine lw_nil ?_
   refine cw_seq ?_
   refine cw_region ?_
   refine l1 (mvI_r rfl) rfl rfl rfl ?_
   refine l1 (neqF_r rfl rfl rfl) rfl rfl rfl ?_
   refine lw_nil ?_
   refine cw_false rfl ?_
   refine cw_skip ?_
   refine cw_region ?_
   refine l1 (mvI_r rfl) rfl rfl rfl ?_
   refine l1 (add_r rfl rfl (by omega) (by omega)) rfl rfl rfl ?_
   refine l1 (asI_r rfl) rfl rfl rfl ?_
   refine lw_nil ?_
   refine ⟨(r + 1, q, w11.heap.size, w12.heap.size), ⟨by omega, by omega, haq, ⟨K2, hgd2⟩, H.forget (.cons _ (List.Sublist.refl _)) (by simp)⟩, sl1 rfl, by repeat (first | exact Agr.refl _ _ | exact agr_ovr | refine agr_upd rfl ?_ | refine agr_updL _ rfl ?_ | refine agr_ovr2 rfl ?_), by show k - (r + 1) < k - r; omega⟩
  ·
   refine cal cb_part_Put (pPut_ok p eD _ (Hp.pa H 0 rfl) hgd.ok (hgd.room (by omega))) rfl rfl ?_
   rintro _ w14 ⟨q1, rfl, haq1, hnq1⟩; replace H := H.learn hnq1.2 (FPa w8.heap.size w14.heap.size q1) hnq1.1 (Nat.le_refl _) (Nat.le_refl _); clear hnq1
   rw [hap, few_put hk1 (by omega) hr1 hrk, if_neg (by omega)]
   refine l1 (mvU_r rfl) rfl rfl rfl ?_
   refine l1 (exA_r rfl rfl) rfl rfl rfl ?_
   refine l1 (exI_r rfl rfl) rfl rfl rfl ?_
   refine l1 (exI_r rfl rfl) rfl rfl rfl ?_
   refine alo H z_Part rfl ?_; intro w15 b12 H
   refine stN H 0 (#[.int .i64 (q1.epoch), .int .i64 (q1.leader), .slice q1.iA q1.isr.length q1.iC, .slice q1.kA q1.known.length q1.kC, .slice q1.rA q1.reps.length q1.rC, .int .i64 (q1.few), .int .i64 (q1.base)]) siz_Part rfl rfl rfl rfl rfl (by kernel_rfl) (by kernel_rfl) ?_; intro w16 H
   refine l1 (asI_r rfl) rfl rfl rfl ?_
   refine l1 (asI_r rfl) rfl rfl rfl ?_
   refine lw_nil ?_
   refine cw_seq ?_
   refine cw_seq ?_
   refine cw_region ?_
   refine l1 (mvI_r rfl) rfl rfl rfl ?_
   refine l1 (eqlT_r rfl rfl rfl) rfl rfl rfl ?_
   refine l1 (mvI_r rfl) rfl rfl rfl ?_
   refine l1 (mvI_r rfl) rfl rfl rfl ?_
   refine l1 (geqT_r rfl rfl (by omega)) rfl rfl rfl ?_
   refine l1 (bneqC_r (r := false) und_bool rfl rfl rfl) rfl rfl rfl ?_
   refine l1 (mvB_r rfl) rfl rfl rfl ?_
   refine lwG rfl ?_
   refine l1 (mvI_r rfl) rfl rfl rfl ?_
   refine lwG rfl ?_
   refine l1 (neqF_r rfl rfl rfl) rfl rfl rfl ?_
   refine lwG rfl ?_
   refine l1 (mvB_r rfl) rfl rfl rfl ?_
   refine lwN rfl rfl rfl ?_
   refine lwN rfl rfl rfl ?_
   refine lwG rfl ?_
   refine l1 (pkFB_r rfl rfl) rfl rfl rfl ?_
   refine l1 (pkFB_r rfl rfl) rfl rfl rfl ?_
   refine lw_nil ?_
   refine cw_false rfl ?_
   refine cw_skip ?_
   refine cw_seq ?_
   refine cw_region ?_
   refine l1 (ldW_r agg_Part rfl (H.ent (i := 1) rfl) rfl) rfl rfl rfl ?_
   refine l1 (mvI_r rfl) rfl rfl rfl ?_
   refine cal cb_part_Crash (pCrash_ok p r 0 _ (Hp.pa H 1 rfl) hgd.ok (by have := hgd.len; simp [Pa.a] at this; omega) (by omega)) rfl rfl ?_
   have hcr := few_crash (few := m) hk1 (show k ≤ 5 by omega) hr1 (show r < k by omega)
   have hgc := crash_gd (r := r) (keep := 0) hgd (by rw [hap, hcr])
   rintro _ w17 ⟨q, rfl, haq, hnq⟩; replace H := H.learn hnq.2 (FPa w16.heap.size w17.heap.size q) hnq.1 (Nat.le_refl _) (Nat.le_refl _); clear hnq
   rw [hap, hcr]
   rw [hap, hcr] at haq
   obtain ⟨K2, -, hgd2⟩ := hgc
   rw [hap, hcr, ← haq] at hgd2
   refine l1 (mvU_r rfl) rfl rfl rfl ?_
   refine l1 (exA_r rfl rfl) rfl rfl rfl ?_
   refine l1 (exI_r rfl rfl) rfl rfl rfl ?_
   refine stN H 1 (#[.int .i64 (q.epoch), .int .i64 (q.leader), .slice q.iA q.isr.length q.iC, .slice q.kA q.known.length q.kC, .slice q.rA q.reps.length q.rC, .int .i64 (q.few), .int .i64 (q.base)]) siz_Part rfl rfl rfl rfl rfl (by kernel_rfl) (by kernel_rfl) ?_; intro w18 H
   refine l1 (asI_r rfl) rfl rfl rfl ?_
   refine lw_nil ?_
   refine cw_seq ?_
   refine cw_region ?_
   refine l1 (mvI_r rfl) rfl rfl rfl ?_
   refine l1 (neqF_r rfl rfl rfl) rfl rfl rfl ?_
   refine lw_nil ?_
   refine cw_false rfl ?_
   refine cw_skip ?_
   refine cw_region ?_
   refine l1 (mvI_r rfl) rfl rfl rfl ?_
   refine l1 (add_r rfl rfl (by omega) (by omega)) rfl rfl rfl ?_
   refine l1 (asI_r rfl) rfl rfl rfl ?_
   refine lw_nil ?_
   refine ⟨(r + 1, q, w16.heap.size, w17.heap.size), ⟨by omega, by omega, haq, ⟨K2, hgd2⟩, H.forget (.cons _ (List.Sublist.refl _)) (by simp)⟩, sl1 rfl, by repeat (first | exact Agr.refl _ _ | exact agr_ovr | refine agr_upd rfl ?_ | refine agr_updL _ rfl ?_ | refine agr_ovr2 rfl ?_), by show k - (r + 1) < k - r; omega⟩
 ·
  refine lw_nil ?_
  refine cw_false rfl ?_
  refine cw_exit ?_
  refine cw_seq ?_
  refine cw_region ?_
  refine l1 (ldW_r agg_Part rfl (H.ent (i := 0) rfl) rfl) rfl rfl rfl ?_
  refine l1 (bld_r (cs := #[.int .i64 (0), .int .i64 (0), .int .i64 (0), .int .i64 (0), .int .i64 (1), .bool (false), .string (⟨#[]⟩)]) st_Entry z_Entry (by kernel_rfl)) rfl rfl rfl ?_
  rcases Int.lt_or_le (((k : Nat) : Int) - r + 1) m with hlt | hlt
  ·
   refine cal cb_part_Put (pPut_ok p eD _ (Hp.pa H 0 rfl) hgd.ok (hgd.room (by omega))) rfl rfl ?_
   rintro _ w19 ⟨q2, rfl, haq2, hnq2⟩; replace H := H.learn hnq2.2 (FPa w8.heap.size w19.heap.size q2) hnq2.1 (Nat.le_refl _) (Nat.le_refl _); clear hnq2
   have hrk2 : r = k := by omega
   subst hrk2
   rw [hap, few_put hk1 (by omega) hr1 hrk, if_pos (by omega)]
   refine l1 (mvU_r rfl) rfl rfl rfl ?_
   refine l1 (exA_r rfl rfl) rfl rfl rfl ?_
   refine l1 (exI_r rfl rfl) rfl rfl rfl ?_
   refine l1 (exI_r rfl rfl) rfl rfl rfl ?_
   refine alo H z_Part rfl ?_; intro w20 b15 H
   refine stN H 0 (#[.int .i64 (q2.epoch), .int .i64 (q2.leader), .slice q2.iA q2.isr.length q2.iC, .slice q2.kA q2.known.length q2.kC, .slice q2.rA q2.reps.length q2.rC, .int .i64 (q2.few), .int .i64 (q2.base)]) siz_Part rfl rfl rfl rfl rfl (by kernel_rfl) (by kernel_rfl) ?_; intro w21 H
   refine l1 (asI_r rfl) rfl rfl rfl ?_
   refine l1 (asI_r rfl) rfl rfl rfl ?_
   refine lw_nil ?_
   refine cw_seq ?_
   refine cw_region ?_
   refine l1 (mvI_r rfl) rfl rfl rfl ?_
   refine l1 (mvI_r rfl) rfl rfl rfl ?_
   refine l1 (add_r rfl rfl (by omega) (by omega)) rfl rfl rfl ?_
   refine cal cb_part_New (pNew_bad ((r : Nat) : Int) (((r : Nat) : Int) + 1) _ (by omega)) rfl rfl ?_
   rintro _ w22 ⟨rfl, hb⟩; replace H := H.later hb; clear hb
   refine l1 (mvU_r rfl) rfl rfl rfl ?_
   refine l1 (exA_r rfl rfl) rfl rfl rfl ?_
   refine l1 (exI_r rfl rfl) rfl rfl rfl ?_
   refine alo H z_Part rfl ?_; intro w23 b18 H
   refine stN H 0 (#[.int .i64 (0), .int .i64 (0), .slice none 0 0, .slice none 0 0, .slice none 0 0, .int .i64 (0), .int .i64 (0)]) siz_Part rfl rfl rfl rfl rfl (by kernel_rfl) (by kernel_rfl) ?_; intro w24 H
   refine l1 (asI_r rfl) rfl rfl rfl ?_
   refine lw_nil ?_
   refine cw_seq ?_
   refine cw_region ?_
   refine l1 (mvI_r rfl) rfl rfl rfl ?_
   refine l1 (eqlT_r rfl rfl rfl) rfl rfl rfl ?_
   refine l1 (mvB_r rfl) rfl rfl rfl ?_
   refine lwG rfl ?_
   refine l1 (mvI_r rfl) rfl rfl rfl ?_
   refine lwG rfl ?_
   refine l1 (eqlF_r rfl rfl (by decide)) rfl rfl rfl ?_
   refine lwG rfl ?_
   refine l1 (mvI_r rfl) rfl rfl rfl ?_
   refine lwG rfl ?_
   refine l1 (eqlF_r rfl rfl (by omega)) rfl rfl rfl ?_
   refine lwG rfl ?_
   refine l1 (beqlC_r (r := true) und_bool rfl rfl rfl) rfl rfl rfl ?_
   refine l1 (pkTB_r rfl rfl) rfl rfl rfl ?_
   refine l1 (mvB_r rfl) rfl rfl rfl ?_
   refine lwG rfl ?_
   refine l1 (mvI_r rfl) rfl rfl rfl ?_
   refine lwG rfl ?_
   refine l1 (eqlT_r rfl rfl rfl) rfl rfl rfl ?_
   refine l1 (pkTB_r rfl rfl) rfl rfl rfl ?_
   refine l1 (asB_r rfl) rfl rfl rfl ?_
   refine lw_nil ?_
   refine cw_ret ?_
   exact fin1 (v := .bool true) rfl rfl ⟨rfl, H.below⟩
  ·
   refine cal cb_part_Put (pPut_ok p eD _ (Hp.pa H 0 rfl) hgd.ok (hgd.room (by omega))) rfl rfl ?_
   rintro _ w25 ⟨q2, rfl, haq2, hnq2⟩; replace H := H.learn hnq2.2 (FPa w8.heap.size w25.heap.size q2) hnq2.1 (Nat.le_refl _) (Nat.le_refl _); clear hnq2
   have hrk2 : r = k := by omega
   subst hrk2
   rw [hap, few_put hk1 (by omega) hr1 hrk, if_neg (by omega)]
   refine l1 (mvU_r rfl) rfl rfl rfl ?_
   refine l1 (exA_r rfl rfl) rfl rfl rfl ?_
   refine l1 (exI_r rfl rfl) rfl rfl rfl ?_
   refine l1 (exI_r rfl rfl) rfl rfl rfl ?_
   refine alo H z_Part rfl ?_; intro w26 b15 H
   refine stN H 0 (#[.int .i64 (q2.epoch), .int .i64 (q2.leader), .slice q2.iA q2.isr.length q2.iC, .slice q2.kA q2.known.length q2.kC, .slice q2.rA q2.reps.length q2.rC, .int .i64 (q2.few), .int .i64 (q2.base)]) siz_Part rfl rfl rfl rfl rfl (by kernel_rfl) (by kernel_rfl) ?_; intro w27 H
   refine l1 (asI_r rfl) rfl rfl rfl ?_
   refine l1 (asI_r rfl) rfl rfl rfl ?_
   refine lw_nil ?_
   refine cw_seq ?_
   refine cw_region ?_
   refine l1 (mvI_r rfl) rfl rfl rfl ?_
   refine l1 (mvI_r rfl) rfl rfl rfl ?_
   refine l1 (add_r rfl rfl (by omega) (by omega)) rfl rfl rfl ?_
   refine cal cb_part_New (pNew_bad ((r : Nat) : Int) (((r : Nat) : Int) + 1) _ (by omega)) rfl rfl ?_
   rintro _ w28 ⟨rfl, hb⟩; replace H := H.later hb; clear hb
   refine l1 (mvU_r rfl) rfl rfl rfl ?_
   refine l1 (exA_r rfl rfl) rfl rfl rfl ?_
   refine l1 (exI_r rfl rfl) rfl rfl rfl ?_
   refine alo H z_Part rfl ?_; intro w29 b18 H
   refine stN H 0 (#[.int .i64 (0), .int .i64 (0), .slice none 0 0, .slice none 0 0, .slice none 0 0, .int .i64 (0), .int .i64 (0)]) siz_Part rfl rfl rfl rfl rfl (by kernel_rfl) (by kernel_rfl) ?_; intro w30 H
   refine l1 (asI_r rfl) rfl rfl rfl ?_
   refine lw_nil ?_
   refine cw_seq ?_
   refine cw_region ?_
   refine l1 (mvI_r rfl) rfl rfl rfl ?_
   refine l1 (eqlT_r rfl rfl rfl) rfl rfl rfl ?_
   refine l1 (mvB_r rfl) rfl rfl rfl ?_
   refine lwG rfl ?_
   refine l1 (mvI_r rfl) rfl rfl rfl ?_
   refine lwG rfl ?_
   refine l1 (eqlT_r rfl rfl rfl) rfl rfl rfl ?_
   refine lwG rfl ?_
   refine l1 (mvI_r rfl) rfl rfl rfl ?_
   refine lwG rfl ?_
   refine l1 (eqlT_r rfl rfl (by omega)) rfl rfl rfl ?_
   refine lwG rfl ?_
   refine l1 (beqlC_r (r := true) und_bool rfl rfl rfl) rfl rfl rfl ?_
   refine l1 (pkTB_r rfl rfl) rfl rfl rfl ?_
   refine l1 (mvB_r rfl) rfl rfl rfl ?_
   refine lwG rfl ?_
   refine l1 (mvI_r rfl) rfl rfl rfl ?_
   refine lwG rfl ?_
   refine l1 (eqlT_r rfl rfl rfl) rfl rfl rfl ?_
   refine l1 (pkTB_r rfl rfl) rfl rfl rfl ?_
   refine l1 (asB_r rfl) rfl rfl rfl ?_
   refine lw_nil ?_
   refine cw_ret ?_
   exact fin1 (v := .bool true) rfl rfl ⟨rfl, H.below⟩
end Go.Proofs.Ytemnchkebhclpaa
