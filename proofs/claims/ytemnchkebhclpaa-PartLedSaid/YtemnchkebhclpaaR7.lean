/- R7: a part of the proofs over this seat: what stands in its theorems holds for every input that they name. -/
import Derived.Test.YtemnchkebhclpaaR3
import Derived.Test.YtemnchkebhclpaaQ7
namespace Go.Proofs.Ytemnchkebhclpaa
open Go Go.Eng Go.RowKit
set_option linter.unusedSimpArgs false
set_option maxHeartbeats 4000000 in
set_option maxRecDepth 10000 in
theorem partLed_ok (n_ r_ : Int) (w : World) (ha : i64 n_) (hb : i64 r_) : Ret Try.prog i_tailracekeep_PartLed [.int .i64 n_, .int .i64 r_] w fun v w2 => v = .bool true ∧ Below w.heap.size w w2 := by
 refine ret_of fn_tailracekeep_PartLed rfl rfl ?_
 have H := Hp.start w
 refine cw_seq ?_
 refine cw_region ?_
 refine l1 (asB_r rfl) rfl rfl rfl ?_
 refine lw_nil ?_
 refine cw_seq ?_
 refine cw_region ?_
 refine l1 (mvI_r rfl) rfl rfl rfl ?_
 refine cal cb_tailracekeep_picked (picked_ok n_ (4) _ ha.1 ha.2 (by omega) (by omega)) rfl rfl ?_
 rintro _ w1 ⟨rfl, hb⟩; replace H := H.later hb; clear hb
 have hpkk := pk_lt n_ (show 0 < 4 by omega)
 refine l1 (add_r rfl rfl (by omega) (by omega)) rfl rfl rfl ?_
 obtain ⟨k, hk, hk1, hk4⟩ : ∃ k : Nat, (2 : Int) + ((pk n_ (4) : Nat) : Int) = (k : Nat) ∧ 2 ≤ k ∧ k ≤ 4 + 1 := ⟨2 + pk n_ (4), by omega, by omega, by omega⟩
 rw [hk]
 refine l1 (asI_r rfl) rfl rfl rfl ?_
 refine lw_nil ?_
 refine cw_seq ?_
 refine cw_region ?_
 refine l1 (mvI_r rfl) rfl rfl rfl ?_
 refine l1 (mvI_r rfl) rfl rfl rfl ?_
 refine l1 (sub_r rfl rfl (by omega) (by omega)) rfl rfl rfl ?_
 obtain ⟨d, hd⟩ : ∃ d : Nat, ((k : Nat) : Int) - 1 = (d : Nat) := ⟨k - 1, by omega⟩
 rw [hd]
 refine cal cb_tailracekeep_picked (picked_ok r_ (d) _ hb.1 hb.2 (by omega) (by omega)) rfl rfl ?_
 rintro _ w2 ⟨rfl, hb⟩; replace H := H.later hb; clear hb
 have hpki := pk_lt r_ (show 0 < d by omega)
 refine l1 (add_r rfl rfl (by omega) (by omega)) rfl rfl rfl ?_
 obtain ⟨i, hi, hi1, hi4⟩ : ∃ i : Nat, (1 : Int) + ((pk r_ (d) : Nat) : Int) = (i : Nat) ∧ 1 ≤ i ∧ i ≤ d := ⟨1 + pk r_ (d), by omega, by omega, by omega⟩
 rw [hi]
 refine l1 (asI_r rfl) rfl rfl rfl ?_
 refine lw_nil ?_
 refine cw_seq ?_
 refine cw_region ?_
 refine l1 (mvI_r rfl) rfl rfl rfl ?_
 refine cal cb_part_New (pNew_ok k 1 _ (by omega) (by omega) (by omega) (by omega)) rfl rfl ?_
 rintro _ w3 ⟨p0, rfl, hap0, hnp0⟩; replace H := H.learn hnp0.2 (FPa w2.heap.size w3.heap.size p0) hnp0.1 (Nat.le_refl _) (Nat.le_refl _); clear hnp0
 obtain ⟨la1, la2, la3, la4, la5, la6, la7, la8, la9, la10, la11, la12⟩ := led_law hk1 (show k ≤ 5 by omega) hi1 (show i < k by omega)
 have g0 := new_gd (Φ := Plain) (n := k) (few := 1) (by omega) (by omega) (by omega) (by omega)
 obtain ⟨K1, -, g1⟩ := elect_gd g0 la3
 obtain ⟨K2, -, g2⟩ := shrink_gd g1 la4
 obtain ⟨K3, -, g3⟩ := crash_gd g1 la7
 have hl0 := reps_len hap0
 rw [show (newA k 1).reps.length = k by simp [newA]] at hl0
 refine l1 (mvU_r rfl) rfl rfl rfl ?_
 refine l1 (exA_r rfl rfl) rfl rfl rfl ?_
 refine l1 (exI_r rfl rfl) rfl rfl rfl ?_
 refine alo H z_Part rfl ?_; intro w4 b7 H
 refine stN H 0 (#[.int .i64 (p0.epoch), .int .i64 (p0.leader), .slice p0.iA p0.isr.length p0.iC, .slice p0.kA p0.known.length p0.kC, .slice p0.rA p0.reps.length p0.rC, .int .i64 (p0.few), .int .i64 (p0.base)]) siz_Part rfl rfl rfl rfl rfl (by kernel_rfl) (by kernel_rfl) ?_; intro w5 H
 refine l1 (asI_r rfl) rfl rfl rfl ?_
 refine lw_nil ?_
 refine cw_seq ?_
 refine cw_region ?_
 refine l1 (ldW_r agg_Part rfl (H.ent (i := 0) rfl) rfl) rfl rfl rfl ?_
 refine l1 (bld_r (cs := #[.int .i64 (0), .int .i64 (0), .int .i64 (0), .int .i64 (0), .int .i64 (1), .bool (false), .string (⟨#[]⟩)]) st_Entry z_Entry (by kernel_rfl)) rfl rfl rfl ?_
 refine cal cb_part_Put (pPut_ok p0 eD _ (Hp.pa H 0 rfl) (by rw [hap0]; exact g0.ok) (Gd.room (by rw [hap0]; exact g0) (by omega))) rfl rfl ?_
 rintro _ w6 ⟨p1, rfl, hap1, hnp1⟩; replace H := H.learn hnp1.2 (FPa w5.heap.size w6.heap.size p1) hnp1.1 (Nat.le_refl _) (Nat.le_refl _); clear hnp1
 rw [hap0, la1]
 rw [hap0] at hap1
 refine l1 (mvU_r rfl) rfl rfl rfl ?_
 refine l1 (exA_r rfl rfl) rfl rfl rfl ?_
 refine l1 (exI_r rfl rfl) rfl rfl rfl ?_
 refine l1 (exI_r rfl rfl) rfl rfl rfl ?_
 refine alo H z_Part rfl ?_; intro w7 b9 H
 refine stN H 0 (#[.int .i64 (p1.epoch), .int .i64 (p1.leader), .slice p1.iA p1.isr.length p1.iC, .slice p1.kA p1.known.length p1.kC, .slice p1.rA p1.reps.length p1.rC, .int .i64 (p1.few), .int .i64 (p1.base)]) siz_Part rfl rfl rfl rfl rfl (by kernel_rfl) (by kernel_rfl) ?_; intro w8 H
 refine l1 (asI_r rfl) rfl rfl rfl ?_
 refine l1 (asI_r rfl) rfl rfl rfl ?_
 refine lw_nil ?_
 refine cw_seq ?_
 refine cw_region ?_
 refine l1 (ldW_r agg_Part rfl (H.ent (i := 1) rfl) rfl) rfl rfl rfl ?_
 refine l1 (mvI_r rfl) rfl rfl rfl ?_
 refine cal cb_part_Fetch (pFetch_ok p0 i _ (Hp.pa H 1 rfl) (by rw [hap0]; exact g0.ok) (by omega)) rfl rfl ?_
 rintro _ w9 ⟨p2, rfl, hap2, hnp2⟩; replace H := H.learn hnp2.2 (FPa w8.heap.size w9.heap.size p2) hnp2.1 (Nat.le_refl _) (Nat.le_refl _); clear hnp2
 rw [hap0, la2]
 rw [hap0] at hap2
 refine l1 (mvU_r rfl) rfl rfl rfl ?_
 refine l1 (exA_r rfl rfl) rfl rfl rfl ?_
 refine l1 (exI_r rfl rfl) rfl rfl rfl ?_
 refine l1 (exI_r rfl rfl) rfl rfl rfl ?_
 refine alo H z_Part rfl ?_; intro w10 b12 H
 refine stN H 0 (#[.int .i64 (p2.epoch), .int .i64 (p2.leader), .slice p2.iA p2.isr.length p2.iC, .slice p2.kA p2.known.length p2.kC, .slice p2.rA p2.reps.length p2.rC, .int .i64 (p2.few), .int .i64 (p2.base)]) siz_Part rfl rfl rfl rfl rfl (by kernel_rfl) (by kernel_rfl) ?_; intro w11 H
 refine l1 (asI_r rfl) rfl rfl rfl ?_
 refine l1 (asI_r rfl) rfl rfl rfl ?_
 refine lw_nil ?_
 refine cw_seq ?_
 refine cw_region ?_
 refine l1 (ldW_r agg_Part rfl (H.ent (i := 2) rfl) rfl) rfl rfl rfl ?_
 refine cal cb_part_Read (pRead_none p0 0 1 _ (Hp.pa H 2 rfl) (by rw [hap0]; exact g0.ok) (by have h2 : p0.a.leader = p0.leader := rfl; rw [hap0] at h2; have h3 : (newA k 1).leader = -1 := rfl; omega)) rfl rfl ?_
 rintro _ w12 ⟨rfl, hb⟩; replace H := H.later hb; clear hb
 refine l1 (mvU_r rfl) rfl rfl rfl ?_
 refine l1 (exS_r rfl rfl) rfl rfl rfl ?_
 refine l1 (exI_r rfl rfl) rfl rfl rfl ?_
 refine l1 (exI_r rfl rfl) rfl rfl rfl ?_
 refine l1 (asS_r rfl) rfl rfl rfl ?_
 refine l1 (asI_r rfl) rfl rfl rfl ?_
 refine l1 (asI_r rfl) rfl rfl rfl ?_
 refine lw_nil ?_
 refine cw_seq ?_
 refine cw_region ?_
 refine l1 (ldW_r agg_Part rfl (H.ent (i := 2) rfl) rfl) rfl rfl rfl ?_
 refine cal cb_part_Elect (pElect_ok p0 0 _ (Hp.pa H 2 rfl) (by rw [hap0]; exact g0.ok) (by omega)) rfl rfl ?_
 rintro _ w13 ⟨p3, rfl, hap3, hnp3⟩; replace H := H.learn hnp3.2 (FPa w12.heap.size w13.heap.size p3) hnp3.1 (Nat.le_refl _) (Nat.le_refl _); clear hnp3
 rw [hap0, la3]
 rw [hap0] at hap3
 refine l1 (mvU_r rfl) rfl rfl rfl ?_
 refine l1 (exA_r rfl rfl) rfl rfl rfl ?_
 refine l1 (exI_r rfl rfl) rfl rfl rfl ?_
 refine stN H 2 (#[.int .i64 (p3.epoch), .int .i64 (p3.leader), .slice p3.iA p3.isr.length p3.iC, .slice p3.kA p3.known.length p3.kC, .slice p3.rA p3.reps.length p3.rC, .int .i64 (p3.few), .int .i64 (p3.base)]) siz_Part rfl rfl rfl rfl rfl (by kernel_rfl) (by kernel_rfl) ?_; intro w14 H
 refine l1 (asI_r rfl) rfl rfl rfl ?_
 refine lw_nil ?_
 refine cw_seq ?_
 refine cw_region ?_
 refine l1 (ldW_r agg_Part rfl (H.ent (i := 2) rfl) rfl) rfl rfl rfl ?_
 refine l1 (mvI_r rfl) rfl rfl rfl ?_
 refine cal cb_part_Shrink (pShrink_ok p3 i _ (Hp.pa H 0 rfl) (by rw [hap3]; exact g1.ok) (by rw [reps_len hap3, g1.len]; omega)) rfl rfl ?_
 rintro _ w15 ⟨q, rfl, haq, hnq⟩; replace H := H.learn hnq.2 (FPa w14.heap.size w15.heap.size q) hnq.1 (Nat.le_refl _) (Nat.le_refl _); clear hnq
 rw [hap3, la4]
 rw [hap3] at haq
 refine l1 (mvU_r rfl) rfl rfl rfl ?_
 refine l1 (exA_r rfl rfl) rfl rfl rfl ?_
 refine l1 (exI_r rfl rfl) rfl rfl rfl ?_
 refine alo H z_Part rfl ?_; intro w16 b19 H
 refine stN H 0 (#[.int .i64 (q.epoch), .int .i64 (q.leader), .slice q.iA q.isr.length q.iC, .slice q.kA q.known.length q.kC, .slice q.rA q.reps.length q.rC, .int .i64 (q.few), .int .i64 (q.base)]) siz_Part rfl rfl rfl rfl rfl (by kernel_rfl) (by kernel_rfl) ?_; intro w17 H
 refine l1 (asI_r rfl) rfl rfl rfl ?_
 refine lw_nil ?_
 refine cw_seq ?_
 refine cw_region ?_
 refine l1 (ldW_r agg_Part rfl (H.ent (i := 0) rfl) rfl) rfl rfl rfl ?_
 refine l1 (mvI_r rfl) rfl rfl rfl ?_
 refine cal cb_part_Elect (pElect_ok q i _ (Hp.pa H 0 rfl) (by rw [haq]; exact g2.ok) (by rw [reps_len haq, g2.len]; omega)) rfl rfl ?_
 rintro _ w18 ⟨p5, rfl, hap5, hnp5⟩; replace H := H.learn hnp5.2 (FPa w17.heap.size w18.heap.size p5) hnp5.1 (Nat.le_refl _) (Nat.le_refl _); clear hnp5
 rw [haq, la5]
 rw [haq] at hap5
 refine l1 (mvU_r rfl) rfl rfl rfl ?_
 refine l1 (exA_r rfl rfl) rfl rfl rfl ?_
 refine l1 (exI_r rfl rfl) rfl rfl rfl ?_
 refine alo H z_Part rfl ?_; intro w19 b21 H
 refine stN H 0 (#[.int .i64 (p5.epoch), .int .i64 (p5.leader), .slice p5.iA p5.isr.length p5.iC, .slice p5.kA p5.known.length p5.kC, .slice p5.rA p5.reps.length p5.rC, .int .i64 (p5.few), .int .i64 (p5.base)]) siz_Part rfl rfl rfl rfl rfl (by kernel_rfl) (by kernel_rfl) ?_; intro w20 H
 refine l1 (asI_r rfl) rfl rfl rfl ?_
 refine lw_nil ?_
 refine cw_seq ?_
 refine cw_region ?_
 refine l1 (ldW_r agg_Part rfl (H.ent (i := 4) rfl) rfl) rfl rfl rfl ?_
 refine cal cb_part_Elect (pElect_ok p3 0 _ (Hp.pa H 2 rfl) (by rw [hap3]; exact g1.ok) (by rw [reps_len hap3, g1.len]; omega)) rfl rfl ?_
 rintro _ w21 ⟨p6, rfl, hap6, hnp6⟩; replace H := H.learn hnp6.2 (FPa w20.heap.size w21.heap.size p6) hnp6.1 (Nat.le_refl _) (Nat.le_refl _); clear hnp6
 rw [hap3, la6]
 rw [hap3] at hap6
 refine l1 (mvU_r rfl) rfl rfl rfl ?_
 refine l1 (exA_r rfl rfl) rfl rfl rfl ?_
 refine l1 (exI_r rfl rfl) rfl rfl rfl ?_
 refine alo H z_Part rfl ?_; intro w22 b23 H
 refine stN H 0 (#[.int .i64 (p6.epoch), .int .i64 (p6.leader), .slice p6.iA p6.isr.length p6.iC, .slice p6.kA p6.known.length p6.kC, .slice p6.rA p6.reps.length p6.rC, .int .i64 (p6.few), .int .i64 (p6.base)]) siz_Part rfl rfl rfl rfl rfl (by kernel_rfl) (by kernel_rfl) ?_; intro w23 H
 refine l1 (asI_r rfl) rfl rfl rfl ?_
 refine lw_nil ?_
 refine cw_seq ?_
 refine cw_region ?_
 refine l1 (ldW_r agg_Part rfl (H.ent (i := 5) rfl) rfl) rfl rfl rfl ?_
 refine l1 (mvI_r rfl) rfl rfl rfl ?_
 refine cal cb_part_Elect (pElect_none p3 ((k : Nat) : Int) _ (Hp.pa H 3 rfl) (by rw [hap3]; exact g1.ok) (by rw [reps_len hap3, g1.len]; omega)) rfl rfl ?_
 rintro _ w24 ⟨rfl, hb⟩; replace H := H.later hb; clear hb
 refine l1 (mvU_r rfl) rfl rfl rfl ?_
 refine l1 (exA_r rfl rfl) rfl rfl rfl ?_
 refine l1 (exI_r rfl rfl) rfl rfl rfl ?_
 refine alo H z_Part rfl ?_; intro w25 b25 H
 refine stN H 0 (#[.int .i64 (0), .int .i64 (0), .slice none 0 0, .slice none 0 0, .slice none 0 0, .int .i64 (0), .int .i64 (0)]) siz_Part rfl rfl rfl rfl rfl (by kernel_rfl) (by kernel_rfl) ?_; intro w26 H
 refine l1 (asI_r rfl) rfl rfl rfl ?_
 refine lw_nil ?_
 refine cw_seq ?_
 refine cw_region ?_
 refine l1 (ldW_r agg_Part rfl (H.ent (i := 6) rfl) rfl) rfl rfl rfl ?_
 refine cal cb_part_Crash (pCrash_ok p3 0 0 _ (Hp.pa H 3 rfl) (by rw [hap3]; exact g1.ok) (by rw [reps_len hap3, g1.len]; omega) (by omega)) rfl rfl ?_
 rintro _ w27 ⟨s, rfl, has, hns⟩; replace H := H.learn hns.2 (FPa w26.heap.size w27.heap.size s) hns.1 (Nat.le_refl _) (Nat.le_refl _); clear hns
 rw [hap3, la7]
 rw [hap3] at has
 refine l1 (mvU_r rfl) rfl rfl rfl ?_
 refine l1 (exA_r rfl rfl) rfl rfl rfl ?_
 refine l1 (exI_r rfl rfl) rfl rfl rfl ?_
 refine alo H z_Part rfl ?_; intro w28 b27 H
 refine stN H 0 (#[.int .i64 (s.epoch), .int .i64 (s.leader), .slice s.iA s.isr.length s.iC, .slice s.kA s.known.length s.kC, .slice s.rA s.reps.length s.rC, .int .i64 (s.few), .int .i64 (s.base)]) siz_Part rfl rfl rfl rfl rfl (by kernel_rfl) (by kernel_rfl) ?_; intro w29 H
 refine l1 (asI_r rfl) rfl rfl rfl ?_
 refine lw_nil ?_
 refine cw_seq ?_
 refine cw_region ?_
 refine l1 (ldW_r agg_Part rfl (H.ent (i := 0) rfl) rfl) rfl rfl rfl ?_
 refine cal cb_part_Elect (pElect_ok s 0 _ (Hp.pa H 0 rfl) (by rw [has]; exact g3.ok) (by rw [reps_len has, g3.len]; omega)) rfl rfl ?_
 rintro _ w30 ⟨p8, rfl, hap8, hnp8⟩; replace H := H.learn hnp8.2 (FPa w29.heap.size w30.heap.size p8) hnp8.1 (Nat.le_refl _) (Nat.le_refl _); clear hnp8
 rw [has, la8]
 rw [has] at hap8
 refine l1 (mvU_r rfl) rfl rfl rfl ?_
 refine l1 (exA_r rfl rfl) rfl rfl rfl ?_
 refine l1 (exI_r rfl rfl) rfl rfl rfl ?_
 refine alo H z_Part rfl ?_; intro w31 b29 H
 refine stN H 0 (#[.int .i64 (p8.epoch), .int .i64 (p8.leader), .slice p8.iA p8.isr.length p8.iC, .slice p8.kA p8.known.length p8.kC, .slice p8.rA p8.reps.length p8.rC, .int .i64 (p8.few), .int .i64 (p8.base)]) siz_Part rfl rfl rfl rfl rfl (by kernel_rfl) (by kernel_rfl) ?_; intro w32 H
 refine l1 (asI_r rfl) rfl rfl rfl ?_
 refine lw_nil ?_
 refine cw_seq ?_
 refine cw_region ?_
 refine l1 (ldW_r agg_Part rfl (H.ent (i := 1) rfl) rfl) rfl rfl rfl ?_
 refine l1 (mvI_r rfl) rfl rfl rfl ?_
 refine cal cb_part_Elect (pElect_ok s i _ (Hp.pa H 1 rfl) (by rw [has]; exact g3.ok) (by rw [reps_len has, g3.len]; omega)) rfl rfl ?_
 rintro _ w33 ⟨t, rfl, hat, hnt⟩; replace H := H.learn hnt.2 (FPa w32.heap.size w33.heap.size t) hnt.1 (Nat.le_refl _) (Nat.le_refl _); clear hnt
 rw [has, la9]
 rw [has] at hat
 refine l1 (mvU_r rfl) rfl rfl rfl ?_
 refine l1 (exA_r rfl rfl) rfl rfl rfl ?_
 refine l1 (exI_r rfl rfl) rfl rfl rfl ?_
 refine alo H z_Part rfl ?_; intro w34 b31 H
 refine stN H 0 (#[.int .i64 (t.epoch), .int .i64 (t.leader), .slice t.iA t.isr.length t.iC, .slice t.kA t.known.length t.kC, .slice t.rA t.reps.length t.rC, .int .i64 (t.few), .int .i64 (t.base)]) siz_Part rfl rfl rfl rfl rfl (by kernel_rfl) (by kernel_rfl) ?_; intro w35 H
 refine l1 (asI_r rfl) rfl rfl rfl ?_
 refine lw_nil ?_
 refine cw_seq ?_
 refine cw_region ?_
 refine l1 (mvI_r rfl) rfl rfl rfl ?_
 refine l1 (eqlT_r rfl rfl rfl) rfl rfl rfl ?_
 refine l1 (mvB_r rfl) rfl rfl rfl ?_
 refine lwG rfl ?_
 refine l1 (mvI_r rfl) rfl rfl rfl ?_
 refine lwG rfl ?_
 refine l1 (eqlT_r rfl rfl rfl) rfl rfl rfl ?_
 refine l1 (pkTB_r rfl rfl) rfl rfl rfl ?_
 refine l1 (mvB_r rfl) rfl rfl rfl ?_
 refine lwG rfl ?_
 refine l1 (mvI_r rfl) rfl rfl rfl ?_
 refine lwG rfl ?_
 refine l1 (eqlT_r rfl rfl rfl) rfl rfl rfl ?_
 refine l1 (pkTB_r rfl rfl) rfl rfl rfl ?_
 refine l1 (mvB_r rfl) rfl rfl rfl ?_
 refine lwG rfl ?_
 refine l1 (mvI_r rfl) rfl rfl rfl ?_
 refine lwG rfl ?_
 refine l1 (eqlT_r rfl rfl rfl) rfl rfl rfl ?_
 refine l1 (pkTB_r rfl rfl) rfl rfl rfl ?_
 refine l1 (mvB_r rfl) rfl rfl rfl ?_
 refine lwG rfl ?_
 refine l1 (mvI_r rfl) rfl rfl rfl ?_
 refine lwG rfl ?_
 refine l1 (eqlT_r rfl rfl rfl) rfl rfl rfl ?_
 refine l1 (pkTB_r rfl rfl) rfl rfl rfl ?_
 refine l1 (mvB_r rfl) rfl rfl rfl ?_
 refine lwG rfl ?_
 refine l1 (mvI_r rfl) rfl rfl rfl ?_
 refine lwG rfl ?_
 refine l1 (eqlT_r rfl rfl rfl) rfl rfl rfl ?_
 refine l1 (pkTB_r rfl rfl) rfl rfl rfl ?_
 refine l1 (mvB_r rfl) rfl rfl rfl ?_
 refine lwG rfl ?_
 refine l1 (mvI_r rfl) rfl rfl rfl ?_
 refine lwG rfl ?_
 refine l1 (eqlT_r rfl rfl rfl) rfl rfl rfl ?_
 refine l1 (pkTB_r rfl rfl) rfl rfl rfl ?_
 refine l1 (mvB_r rfl) rfl rfl rfl ?_
 refine lwG rfl ?_
 refine l1 (mvI_r rfl) rfl rfl rfl ?_
 refine lwG rfl ?_
 refine l1 (eqlT_r rfl rfl rfl) rfl rfl rfl ?_
 refine l1 (pkTB_r rfl rfl) rfl rfl rfl ?_
 refine l1 (mvB_r rfl) rfl rfl rfl ?_
 refine lwG rfl ?_
 refine l1 (mvI_r rfl) rfl rfl rfl ?_
 refine lwG rfl ?_
 refine l1 (eqlT_r rfl rfl rfl) rfl rfl rfl ?_
 refine l1 (pkTB_r rfl rfl) rfl rfl rfl ?_
 refine l1 (mvB_r rfl) rfl rfl rfl ?_
 refine lwG rfl ?_
 refine l1 (mvI_r rfl) rfl rfl rfl ?_
 refine lwG rfl ?_
 refine l1 (eqlT_r rfl rfl rfl) rfl rfl rfl ?_
 refine l1 (pkTB_r rfl rfl) rfl rfl rfl ?_
 refine l1 (mvB_r rfl) rfl rfl rfl ?_
 refine lwG rfl ?_
 refine l1 (mvI_r rfl) rfl rfl rfl ?_
 refine lwG rfl ?_
 refine l1 (eqlT_r rfl rfl rfl) rfl rfl rfl ?_
 refine l1 (pkTB_r rfl rfl) rfl rfl rfl ?_
 refine l1 (mvB_r rfl) rfl rfl rfl ?_
 refine lwG rfl ?_
 refine l1 (mvI_r rfl) rfl rfl rfl ?_
 refine lwG rfl ?_
 refine l1 (eqlT_r rfl rfl rfl) rfl rfl rfl ?_
 refine l1 (pkTB_r rfl rfl) rfl rfl rfl ?_
 refine l1 (mvB_r rfl) rfl rfl rfl ?_
 refine lwG rfl ?_
 refine l1 (fad_r fd_Part_1 rfl) rfl rfl rfl ?_
 refine lwG rfl ?_
 refine l1 (ld_r one_int rfl (cellE (H.ent (i := 2) rfl) rfl)) rfl rfl rfl ?_
 refine lwG rfl ?_
 refine l1 (eqlT_r rfl rfl (by have h2 : s.a.leader = s.leader := rfl; rw [has, la10] at h2; omega)) rfl rfl rfl ?_
 refine l1 (pkTB_r rfl rfl) rfl rfl rfl ?_
 refine l1 (mvB_r rfl) rfl rfl rfl ?_
 refine lwG rfl ?_
 refine l1 (fad_r fd_Part_1 rfl) rfl rfl rfl ?_
 refine lwG rfl ?_
 refine l1 (ld_r one_int rfl (cellE (H.ent (i := 0) rfl) rfl)) rfl rfl rfl ?_
 refine lwG rfl ?_
 refine l1 (mvI_r rfl) rfl rfl rfl ?_
 refine lwG rfl ?_
 refine l1 (eqlT_r rfl rfl (by have h2 : t.a.leader = t.leader := rfl; rw [hat, la11] at h2; omega)) rfl rfl rfl ?_
 refine l1 (pkTB_r rfl rfl) rfl rfl rfl ?_
 refine l1 (mvB_r rfl) rfl rfl rfl ?_
 refine lwG rfl ?_
 refine l1 (fad_r fd_Part_0 rfl) rfl rfl rfl ?_
 refine lwG rfl ?_
 refine l1 (ld_r one_int rfl (cellE (H.ent (i := 0) rfl) rfl)) rfl rfl rfl ?_
 refine lwG rfl ?_
 refine l1 (eqlT_r rfl rfl (by have h2 : t.a.epoch = t.epoch := rfl; rw [hat, la12] at h2; omega)) rfl rfl rfl ?_
 refine l1 (pkTB_r rfl rfl) rfl rfl rfl ?_
 refine l1 (asB_r rfl) rfl rfl rfl ?_
 refine lw_nil ?_
 refine cw_ret ?_
 exact fin1 (v := .bool true) rfl rfl ⟨rfl, H.below⟩
end Go.Proofs.Ytemnchkebhclpaa
