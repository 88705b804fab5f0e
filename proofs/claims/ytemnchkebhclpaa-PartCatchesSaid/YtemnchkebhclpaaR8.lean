/- R8: a part of the proofs over this seat: what stands in its theorems holds for every input that they name. -/
import Derived.Test.YtemnchkebhclpaaR3
import Derived.Test.YtemnchkebhclpaaQ8
namespace Go.Proofs.Ytemnchkebhclpaa
open Go Go.Eng Go.RowKit
set_option linter.unusedSimpArgs false
set_option linter.unusedVariables false
set_option maxHeartbeats 4000000 in
set_option maxRecDepth 10000 in
theorem partCatches_ok (n_ many_ : Int) (w : World) (ha : i64 n_) (hb : i64 many_) : Ret Try.prog i_tailracekeep_PartCatches [.int .i64 n_, .int .i64 many_] w fun v w2 => v = .bool true ∧ Below w.heap.size w w2 := by
 refine ret_of fn_tailracekeep_PartCatches rfl rfl ?_
 have H := Hp.start w
 refine cw_seq ?_
 refine cw_region ?_
 refine l1 (asB_r rfl) rfl rfl rfl ?_
 refine lw_nil ?_
 refine cw_seq ?_
 refine cw_region ?_
 refine l1 (mvI_r rfl) rfl rfl rfl ?_
 refine cal cb_tailracekeep_picked (picked_ok many_ (8) _ hb.1 hb.2 (by omega) (by omega)) rfl rfl ?_
 rintro _ w1 ⟨rfl, hb⟩; replace H := H.later hb; clear hb
 have hpkk := pk_lt many_ (show 0 < 8 by omega)
 refine l1 (add_r rfl rfl (by omega) (by omega)) rfl rfl rfl ?_
 obtain ⟨k, hk, hk1, hk4⟩ : ∃ k : Nat, (1 : Int) + ((pk many_ (8) : Nat) : Int) = (k : Nat) ∧ 1 ≤ k ∧ k ≤ 8 := ⟨1 + pk many_ (8), by omega, by omega, by omega⟩
 rw [hk]
 refine l1 (asI_r rfl) rfl rfl rfl ?_
 refine lw_nil ?_
 refine cw_seq ?_
 refine cw_region ?_
 refine cal cb_part_New (pNew_ok 2 1 _ (by omega) (by omega) (by omega) (by omega)) rfl rfl ?_
 rintro _ w2 ⟨p0, rfl, hap0, hnp0⟩; replace H := H.learn hnp0.2 (FPa w1.heap.size w2.heap.size p0) hnp0.1 (Nat.le_refl _) (Nat.le_refl _); clear hnp0
 have g0 := new_gd (Φ := Plain) (n := 2) (few := 1) (by omega) (by omega) (by omega) (by omega)
 obtain ⟨K1, -, g1⟩ := elect_gd g0 cat_start.1
 obtain ⟨K2, -, g2⟩ := shrink_gd (r := 1) g1 (by rw [cat_start.2])
 rw [cat_start.2] at g2
 refine l1 (mvU_r rfl) rfl rfl rfl ?_
 refine l1 (exA_r rfl rfl) rfl rfl rfl ?_
 refine l1 (exI_r rfl rfl) rfl rfl rfl ?_
 refine alo H z_Part rfl ?_; intro w3 b6 H
 refine stN H 0 (#[.int .i64 (p0.epoch), .int .i64 (p0.leader), .slice p0.iA p0.isr.length p0.iC, .slice p0.kA p0.known.length p0.kC, .slice p0.rA p0.reps.length p0.rC, .int .i64 (p0.few), .int .i64 (p0.base)]) siz_Part rfl rfl rfl rfl rfl (by kernel_rfl) (by kernel_rfl) ?_; intro w4 H
 refine l1 (asI_r rfl) rfl rfl rfl ?_
 refine lw_nil ?_
 refine cw_seq ?_
 refine cw_region ?_
 refine l1 (ldW_r agg_Part rfl (H.ent (i := 0) rfl) rfl) rfl rfl rfl ?_
 refine cal cb_part_Elect (pElect_ok p0 0 _ (Hp.pa H 0 rfl) (by rw [hap0]; exact g0.ok) (by rw [reps_len hap0, g0.len]; omega)) rfl rfl ?_
 rintro _ w5 ⟨p1, rfl, hap1, hnp1⟩; replace H := H.learn hnp1.2 (FPa w4.heap.size w5.heap.size p1) hnp1.1 (Nat.le_refl _) (Nat.le_refl _); clear hnp1
 rw [hap0, cat_start.1]
 rw [hap0] at hap1
 refine l1 (mvU_r rfl) rfl rfl rfl ?_
 refine l1 (exA_r rfl rfl) rfl rfl rfl ?_
 refine l1 (exI_r rfl rfl) rfl rfl rfl ?_
 refine stN H 0 (#[.int .i64 (p1.epoch), .int .i64 (p1.leader), .slice p1.iA p1.isr.length p1.iC, .slice p1.kA p1.known.length p1.kC, .slice p1.rA p1.reps.length p1.rC, .int .i64 (p1.few), .int .i64 (p1.base)]) siz_Part rfl rfl rfl rfl rfl (by kernel_rfl) (by kernel_rfl) ?_; intro w6 H
 refine l1 (asI_r rfl) rfl rfl rfl ?_
 refine lw_nil ?_
 refine cw_seq ?_
 refine cw_region ?_
 refine l1 (ldW_r agg_Part rfl (H.ent (i := 0) rfl) rfl) rfl rfl rfl ?_
 refine cal cb_part_Shrink (pShrink_ok p1 1 _ (Hp.pa H 0 rfl) (by rw [hap1]; exact g1.ok) (by rw [reps_len hap1, g1.len]; omega)) rfl rfl ?_
 rintro _ w7 ⟨p2, rfl, hap2, hnp2⟩; replace H := H.learn hnp2.2 (FPa w6.heap.size w7.heap.size p2) hnp2.1 (Nat.le_refl _) (Nat.le_refl _); clear hnp2
 rw [hap1, cat_start.2]
 rw [hap1, cat_start.2] at hap2
 refine l1 (mvU_r rfl) rfl rfl rfl ?_
 refine l1 (exA_r rfl rfl) rfl rfl rfl ?_
 refine l1 (exI_r rfl rfl) rfl rfl rfl ?_
 refine stN H 0 (#[.int .i64 (p2.epoch), .int .i64 (p2.leader), .slice p2.iA p2.isr.length p2.iC, .slice p2.kA p2.known.length p2.kC, .slice p2.rA p2.reps.length p2.rC, .int .i64 (p2.few), .int .i64 (p2.base)]) siz_Part rfl rfl rfl rfl rfl (by kernel_rfl) (by kernel_rfl) ?_; intro w8 H
 refine l1 (asI_r rfl) rfl rfl rfl ?_
 refine lw_nil ?_
 refine cw_seq ?_
 refine cw_seq ?_
 refine cw_region ?_
 refine l1 (mvI_r rfl) rfl rfl rfl ?_
 refine l1 (mvI_r rfl) rfl rfl rfl ?_
 refine lw_nil ?_
 refine cw_block ?_
 refine cw_loop (τ := Nat × Pa × Nat × Nat) [4, 10, 11, 40, 41, 42, 43, 44, 45, 46, 47, 48, 49, 50, 51, 52, 53, 54] (fun (j, _) => [(40, .int .i64 (j : Nat))]) (fun (j, p, lo, hi) w' => j ≤ k ∧ p.a = catP j ∧ (∃ K, Gd Plain K j 2 1 (catP j)) ∧ Hp w w' [(b6, .cells #[.int .i64 (p.epoch), .int .i64 (p.leader), .slice p.iA p.isr.length p.iC, .slice p.kA p.known.length p.kC, .slice p.rA p.reps.length p.rC, .int .i64 (p.few), .int .i64 (p.base)] T_Part (0, 0))] [FPa lo hi p]) (fun (j, _) => k - j) (0, p2, w6.heap.size, w7.heap.size) ⟨by omega, hap2, ⟨K2, g2⟩, H.forget (List.Sublist.refl _) (by simp)⟩ (sl1 rfl) ?_
 rintro ⟨j, p, lo, hi⟩ ρ1 w9 ⟨hj, hap, ⟨K, hg⟩, H⟩
 show CW _ _ _ _ (updL (ovr _ _ ρ1) [(40, .int .i64 (j : Nat))]) w9
 refine cw_seq ?_
 refine cw_region ?_
 refine lwD (lss_r rfl rfl) rfl rfl rfl (fun h41 => ?_) (fun h41 => ?_)
 ·
  refine lw_nil ?_
  refine cw_seq ?_
  refine cw_true rfl ?_
  refine cw_skip ?_
  refine cw_seq ?_
  refine cw_block ?_
  refine cw_seq ?_
  refine cw_region ?_
  refine l1 (mvI_r rfl) rfl rfl rfl ?_
  refine l1 (asI_r rfl) rfl rfl rfl ?_
  refine lw_nil ?_
  refine cw_seq ?_
  refine cw_region ?_
  refine l1 (asI_r rfl) rfl rfl rfl ?_
  refine lw_nil ?_
  refine cw_seq ?_
 
  refine cw_draw mixed [0, 1, 2, 3, 4, 5, 6, 7, 8] [9, 10] [2, 4] [1, 3, 5, 6, 7, 8] (sp [(2, Sp.one (.string (wordT ((j : Nat) : Int)))), (4, Sp.deep w9.heap.size paD (fun p : Pa => p.c.toArray) (fun cs => .tuple #[.agg cs, .int .i64 (putA p.a (putE j)).2.1, .int .i64 (putA p.a (putE j)).2.2]) (fun q : Pa => q.a = (putA p.a (putE j)).1))]) (by kernel_rfl) (by kernel_rfl) (by kernel_rfl) (by kernel_rfl) (fun _ _ _ h => h) (sp_st _) ?_
  refine aw rfl rfl rfl rfl rfl (fun w' hw' => ldW_r agg_Part rfl ((H.later hw').ent (i := 0) rfl) rfl) ?_
  refine aw rfl rfl rfl rfl rfl (fun w' hw' => mvI_r rfl) ?_
  refine awCalV cb_tailracekeep_word rfl rfl rfl rfl rfl (fun w' hw' => word_ok ((j : Nat) : Int) w' ⟨by omega, by omega⟩) rfl ?_
  refine aw rfl rfl rfl rfl rfl (fun w' hw' => bld_r (cs := #[.int .i64 (0), .int .i64 (0), .int .i64 (0), .int .i64 (0), .int .i64 (1), .bool (false), .string (wordT ((j : Nat) : Int))]) st_Entry z_Entry (by kernel_rfl)) ?_
  refine awDeep (gv := (fun cs => .tuple #[.agg cs, .int .i64 (putA p.a (putE j)).2.1, .int .i64 (putA p.a (putE j)).2.2])) cb_part_Put rfl rfl rfl rfl rfl (fun w' hw' => hw'.size) (fun w' hw' => pPut_ok p (putE j) w' (Hp.pa (H.later hw') 0 rfl) (by rw [hap]; exact hg.ok) (Gd.room (by rw [hap]; exact hg) (by omega))) rfl ?_; intro cs48
  refine aw rfl rfl rfl rfl rfl (fun w' hw' => mvU_r rfl) ?_
  refine aw rfl rfl rfl rfl rfl (fun w' hw' => exA_r rfl rfl) ?_
  refine aw rfl rfl rfl rfl rfl (fun w' hw' => exI_r rfl rfl) ?_
  refine aw rfl rfl rfl rfl rfl (fun w' hw' => exI_r rfl rfl) ?_
  refine aw_nil ?_
  intro w10 hw' hF
  obtain ⟨hF, q, eq, haq, hrd48⟩ := hF; cases eq
  obtain ⟨hF, -⟩ := hF
  replace H := H.learn hw' (FPa w9.heap.size w10.heap.size q) hrd48 (Nat.le_refl _) (Nat.le_refl _)
  clear hw' hF
  refine stN H 0 (#[.int .i64 (q.epoch), .int .i64 (q.leader), .slice q.iA q.isr.length q.iC, .slice q.kA q.known.length q.kC, .slice q.rA q.reps.length q.rC, .int .i64 (q.few), .int .i64 (q.base)]) siz_Part rfl rfl rfl rfl rfl (by kernel_rfl) (by kernel_rfl) ?_; intro w11 H
  refine l1 (asI_r rfl) rfl rfl rfl ?_
  refine lw_nil ?_
  refine cw_seq ?_
  refine cw_region ?_
  refine l1 (mvI_r rfl) rfl rfl rfl ?_
  refine l1 (neqF_r rfl rfl (by rw [hap, cat_put])) rfl rfl rfl ?_
  refine lw_nil ?_
  refine cw_false rfl ?_
  refine cw_skip ?_
  refine cw_region ?_
  refine l1 (add_r rfl rfl (by omega) (by omega)) rfl rfl rfl ?_
  refine l1 (mvI_r rfl) rfl rfl rfl ?_
  refine lw_nil ?_
  obtain ⟨K3, -, g3⟩ := put_gd hg (e := putE j) ⟨rfl, rfl, rfl⟩ (by omega) (by rw [cat_put])
  rw [cat_put] at g3
  rw [hap, cat_put] at haq
  refine ⟨(j + 1, q, w9.heap.size, w10.heap.size), ⟨by omega, haq, ⟨K3, g3⟩, H.forget (List.Sublist.refl _) (by simp)⟩, sl1 rfl, by repeat (first | exact Agr.refl _ _ | exact agr_ovr | refine agr_upd rfl ?_ | refine agr_updL _ rfl ?_ | refine agr_ovr2 rfl ?_), by show k - (j + 1) < k - j; omega⟩
 ·
  refine lw_nil ?_
  refine cw_seq ?_
  refine cw_false rfl ?_
  refine cw_exit ?_
  refine cw_seq ?_
  refine cw_region ?_
  refine l1 (ldW_r agg_Part rfl (H.ent (i := 0) rfl) rfl) rfl rfl rfl ?_
  refine cal cb_part_Sync (pSync_ok p 0 _ (Hp.pa H 0 rfl) (by rw [hap]; exact hg.ok) (by rw [reps_len hap, hg.len]; omega)) rfl rfl ?_
  have hjk : j = k := by omega
  subst hjk
  rintro _ w12 ⟨q, rfl, haq, hnq⟩; replace H := H.learn hnq.2 (FPa w9.heap.size w12.heap.size q) hnq.1 (Nat.le_refl _) (Nat.le_refl _); clear hnq
  have hsy := cat_sync0 (k := j) (by omega)
  obtain ⟨K4, -, g4⟩ := sync_gd (r := 0) hg (by rw [hsy])
  rw [hap, hsy]
  rw [hap, hsy] at haq
  rw [hsy] at g4
  refine l1 (mvU_r rfl) rfl rfl rfl ?_
  refine l1 (exA_r rfl rfl) rfl rfl rfl ?_
  refine l1 (exI_r rfl rfl) rfl rfl rfl ?_
  refine stN H 0 (#[.int .i64 (q.epoch), .int .i64 (q.leader), .slice q.iA q.isr.length q.iC, .slice q.kA q.known.length q.kC, .slice q.rA q.reps.length q.rC, .int .i64 (q.few), .int .i64 (q.base)]) siz_Part rfl rfl rfl rfl rfl (by kernel_rfl) (by kernel_rfl) ?_; intro w13 H
  refine l1 (asI_r rfl) rfl rfl rfl ?_
  refine lw_nil ?_
  refine cw_seq ?_
  refine cw_region ?_
  refine l1 (ldW_r agg_Part rfl (H.ent (i := 0) rfl) rfl) rfl rfl rfl ?_
  refine cal cb_part_Expand (pExpand_ok q 1 _ (Hp.pa H 0 rfl) (by rw [haq]; exact g4.ok) (by rw [reps_len haq, g4.len]; omega)) rfl rfl ?_
  rintro _ w14 ⟨q1, rfl, haq1, hnq1⟩; replace H := H.learn hnq1.2 (FPa w13.heap.size w14.heap.size q1) hnq1.1 (Nat.le_refl _) (Nat.le_refl _); clear hnq1
  rw [haq, cat_expand, if_pos (by omega)]
  refine l1 (mvU_r rfl) rfl rfl rfl ?_
  refine l1 (exA_r rfl rfl) rfl rfl rfl ?_
  refine l1 (exI_r rfl rfl) rfl rfl rfl ?_
  refine alo H z_Part rfl ?_; intro w15 b13 H
  refine stN H 0 (#[.int .i64 (q1.epoch), .int .i64 (q1.leader), .slice q1.iA q1.isr.length q1.iC, .slice q1.kA q1.known.length q1.kC, .slice q1.rA q1.reps.length q1.rC, .int .i64 (q1.few), .int .i64 (q1.base)]) siz_Part rfl rfl rfl rfl rfl (by kernel_rfl) (by kernel_rfl) ?_; intro w16 H
  refine l1 (asI_r rfl) rfl rfl rfl ?_
  refine lw_nil ?_
  refine cw_seq ?_
  refine cw_seq ?_
  refine cw_region ?_
  refine l1 (mvI_r rfl) rfl rfl rfl ?_
  refine l1 (mvI_r rfl) rfl rfl rfl ?_
  refine lw_nil ?_
  refine cw_block ?_
  refine cw_loop (τ := Nat × Pa × Nat × Nat) [66, 67, 68, 69, 70, 71, 72, 73, 74, 75, 76, 77, 78, 79] (fun (i, _) => [(66, .int .i64 (i : Nat))]) (fun (i, s, lo, hi) w' => i ≤ j ∧ s.a = catS j i (i - 1) false ∧ (∃ K, Gd Plain K j 2 1 (catS j i (i - 1) false)) ∧ Hp w w' ((b13, .cells #[.int .i64 (q1.epoch), .int .i64 (q1.leader), .slice q1.iA q1.isr.length q1.iC, .slice q1.kA q1.known.length q1.kC, .slice q1.rA q1.reps.length q1.rC, .int .i64 (q1.few), .int .i64 (q1.base)] T_Part (0, 0)) :: [(b6, .cells #[.int .i64 (s.epoch), .int .i64 (s.leader), .slice s.iA s.isr.length s.iC, .slice s.kA s.known.length s.kC, .slice s.rA s.reps.length s.rC, .int .i64 (s.few), .int .i64 (s.base)] T_Part (0, 0))]) [FPa lo hi s]) (fun (i, _) => j - i) (0, q, w9.heap.size, w12.heap.size) ⟨by omega, haq, ⟨K4, g4⟩, H.forget (List.Sublist.refl _) (by simp)⟩ (sl1 rfl) ?_
  rintro ⟨i, s, lo2, hi2⟩ ρ2 w17 ⟨hi, has, ⟨K9, gs⟩, H⟩
  show CW _ _ _ _ (updL (ovr _ _ ρ2) [(66, .int .i64 (i : Nat))]) w17
  refine cw_seq ?_
  refine cw_region ?_
  refine lwD (lss_r rfl rfl) rfl rfl rfl (fun h67 => ?_) (fun h67 => ?_)
  ·
   refine lw_nil ?_
   refine cw_seq ?_
   refine cw_true rfl ?_
   refine cw_skip ?_
   refine cw_seq ?_
   refine cw_block ?_
   refine cw_seq ?_
   refine cw_region ?_
   refine l1 (ldW_r agg_Part rfl (H.ent (i := 1) rfl) rfl) rfl rfl rfl ?_
   refine cal cb_part_Fetch (pFetch_ok s 1 _ (Hp.pa H 0 rfl) (by rw [has]; exact gs.ok) (by rw [reps_len has, gs.len]; omega)) rfl rfl ?_
   rintro _ w18 ⟨s1, rfl, has1, hns1⟩; replace H := H.learn hns1.2 (FPa w17.heap.size w18.heap.size s1) hns1.1 (Nat.le_refl _) (Nat.le_refl _); clear hns1
   obtain ⟨e1, e2, -⟩ := cat_fetch (k := j) (j := i) (v := i - 1) (by omega) (by omega)
   replace e2 := e2 (by omega)
   obtain ⟨K5, -, g5⟩ := fetch_gd gs e1
   rw [has] at has1
   refine l1 (mvU_r rfl) rfl rfl rfl ?_
   refine l1 (exA_r rfl rfl) rfl rfl rfl ?_
   refine l1 (exI_r rfl rfl) rfl rfl rfl ?_
   refine l1 (exI_r rfl rfl) rfl rfl rfl ?_
   refine stN H 1 (#[.int .i64 (s1.epoch), .int .i64 (s1.leader), .slice s1.iA s1.isr.length s1.iC, .slice s1.kA s1.known.length s1.kC, .slice s1.rA s1.reps.length s1.rC, .int .i64 (s1.few), .int .i64 (s1.base)]) siz_Part rfl rfl rfl rfl rfl (by kernel_rfl) (by kernel_rfl) ?_; intro w19 H
   refine lw_nil ?_
   refine cw_region ?_
   refine l1 (ldW_r agg_Part rfl (H.ent (i := 1) rfl) rfl) rfl rfl rfl ?_
   refine cal cb_part_Sync (pSync_ok s1 1 _ (Hp.pa H 0 rfl) (by rw [has1]; exact g5.ok) (by rw [reps_len has1, g5.len]; omega)) rfl rfl ?_
   rintro _ w20 ⟨s2, rfl, has2, hns2⟩; replace H := H.learn hns2.2 (FPa w19.heap.size w20.heap.size s2) hns2.1 (Nat.le_refl _) (Nat.le_refl _); clear hns2
   obtain ⟨K6, -, g6⟩ := sync_gd g5 (by rw [e2])
   rw [has1, e2] at has2
   rw [e2] at g6
   refine l1 (mvU_r rfl) rfl rfl rfl ?_
   refine l1 (exA_r rfl rfl) rfl rfl rfl ?_
   refine l1 (exI_r rfl rfl) rfl rfl rfl ?_
   refine stN H 1 (#[.int .i64 (s2.epoch), .int .i64 (s2.leader), .slice s2.iA s2.isr.length s2.iC, .slice s2.kA s2.known.length s2.kC, .slice s2.rA s2.reps.length s2.rC, .int .i64 (s2.few), .int .i64 (s2.base)]) siz_Part rfl rfl rfl rfl rfl (by kernel_rfl) (by kernel_rfl) ?_; intro w21 H
   refine lw_nil ?_
   refine cw_region ?_
   refine l1 (add_r rfl rfl (by omega) (by omega)) rfl rfl rfl ?_
   refine l1 (mvI_r rfl) rfl rfl rfl ?_
   refine lw_nil ?_
   refine ⟨(i + 1, s2, w19.heap.size, w20.heap.size), ⟨by omega, has2, ⟨K6, g6⟩, H.forget (List.Sublist.refl _) (by simp)⟩, sl1 rfl, by repeat (first | exact Agr.refl _ _ | exact agr_ovr | refine agr_upd rfl ?_ | refine agr_updL _ rfl ?_ | refine agr_ovr2 rfl ?_), by show j - (i + 1) < j - i; omega⟩
  ·
   refine lw_nil ?_
   refine cw_seq ?_
   refine cw_false rfl ?_
   refine cw_exit ?_
   refine cw_seq ?_
   refine cw_region ?_
   refine l1 (ldW_r agg_Part rfl (H.ent (i := 1) rfl) rfl) rfl rfl rfl ?_
   refine cal cb_part_Expand (pExpand_ok s 1 _ (Hp.pa H 0 rfl) (by rw [has]; exact gs.ok) (by rw [reps_len has, gs.len]; omega)) rfl rfl ?_
   have hij : i = j := by omega
   subst hij
   rintro _ w22 ⟨t1, rfl, hat1, hnt1⟩; replace H := H.learn hnt1.2 (FPa w17.heap.size w22.heap.size t1) hnt1.1 (Nat.le_refl _) (Nat.le_refl _); clear hnt1
   rw [has, cat_expand, if_pos (by omega)]
   refine l1 (mvU_r rfl) rfl rfl rfl ?_
   refine l1 (exA_r rfl rfl) rfl rfl rfl ?_
   refine l1 (exI_r rfl rfl) rfl rfl rfl ?_
   refine alo H z_Part rfl ?_; intro w23 b15 H
   refine stN H 0 (#[.int .i64 (t1.epoch), .int .i64 (t1.leader), .slice t1.iA t1.isr.length t1.iC, .slice t1.kA t1.known.length t1.kC, .slice t1.rA t1.reps.length t1.rC, .int .i64 (t1.few), .int .i64 (t1.base)]) siz_Part rfl rfl rfl rfl rfl (by kernel_rfl) (by kernel_rfl) ?_; intro w24 H
   refine l1 (asI_r rfl) rfl rfl rfl ?_
   refine lw_nil ?_
   refine cw_seq ?_
   refine cw_region ?_
   refine l1 (ldW_r agg_Part rfl (H.ent (i := 2) rfl) rfl) rfl rfl rfl ?_
   refine cal cb_part_Fetch (pFetch_ok s 1 _ (Hp.pa H 1 rfl) (by rw [has]; exact gs.ok) (by rw [reps_len has, gs.len]; omega)) rfl rfl ?_
   rintro _ w25 ⟨t, rfl, hat, hnt⟩; replace H := H.learn hnt.2 (FPa w24.heap.size w25.heap.size t) hnt.1 (Nat.le_refl _) (Nat.le_refl _); clear hnt
   obtain ⟨e1, -, e3⟩ := cat_fetch (k := i) (j := i) (v := i - 1) (Nat.le_refl _) (by omega)
   replace e3 := e3 rfl
   obtain ⟨K7, -, g7⟩ := fetch_gd gs e1
   rw [has, e1, ← has]
   rw [has, e3] at hat
   rw [e3] at g7
   refine l1 (mvU_r rfl) rfl rfl rfl ?_
   refine l1 (exA_r rfl rfl) rfl rfl rfl ?_
   refine l1 (exI_r rfl rfl) rfl rfl rfl ?_
   refine l1 (exI_r rfl rfl) rfl rfl rfl ?_
   refine stN H 2 (#[.int .i64 (t.epoch), .int .i64 (t.leader), .slice t.iA t.isr.length t.iC, .slice t.kA t.known.length t.kC, .slice t.rA t.reps.length t.rC, .int .i64 (t.few), .int .i64 (t.base)]) siz_Part rfl rfl rfl rfl rfl (by kernel_rfl) (by kernel_rfl) ?_; intro w26 H
   refine l1 (asI_r rfl) rfl rfl rfl ?_
   refine l1 (asI_r rfl) rfl rfl rfl ?_
   refine lw_nil ?_
   refine cw_seq ?_
   refine cw_region ?_
   refine l1 (ldW_r agg_Part rfl (H.ent (i := 2) rfl) rfl) rfl rfl rfl ?_
   refine cal cb_part_Expand (pExpand_ok t 1 _ (Hp.pa H 0 rfl) (by rw [hat]; exact g7.ok) (by rw [reps_len hat, g7.len]; omega)) rfl rfl ?_
   rintro _ w27 ⟨u, rfl, hau, hnu⟩; replace H := H.learn hnu.2 (FPa w26.heap.size w27.heap.size u) hnu.1 (Nat.le_refl _) (Nat.le_refl _); clear hnu
   have hex := cat_expanded (k := i) (j := i) (v := i) (Nat.le_refl _)
   obtain ⟨K8, -, g8⟩ := expand_gd (r := 1) g7 (by rw [hex])
   rw [hex] at g8
   rw [hat, hex]
   rw [hat, hex] at hau
   refine l1 (mvU_r rfl) rfl rfl rfl ?_
   refine l1 (exA_r rfl rfl) rfl rfl rfl ?_
   refine l1 (exI_r rfl rfl) rfl rfl rfl ?_
   refine stN H 2 (#[.int .i64 (u.epoch), .int .i64 (u.leader), .slice u.iA u.isr.length u.iC, .slice u.kA u.known.length u.kC, .slice u.rA u.reps.length u.rC, .int .i64 (u.few), .int .i64 (u.base)]) siz_Part rfl rfl rfl rfl rfl (by kernel_rfl) (by kernel_rfl) ?_; intro w28 H
   refine l1 (asI_r rfl) rfl rfl rfl ?_
   refine lw_nil ?_
   refine cw_seq ?_
   refine cw_region ?_
   refine l1 (ldW_r agg_Part rfl (H.ent (i := 2) rfl) rfl) rfl rfl rfl ?_
   refine cal cb_part_Expand (pExpand_ok u 1 _ (Hp.pa H 0 rfl) (by rw [hau]; exact g8.ok) (by rw [reps_len hau, g8.len]; omega)) rfl rfl ?_
   rintro _ w29 ⟨u1, rfl, hau1, hnu1⟩; replace H := H.learn hnu1.2 (FPa w28.heap.size w29.heap.size u1) hnu1.1 (Nat.le_refl _) (Nat.le_refl _); clear hnu1
   rw [hau, cat_again]
   refine l1 (mvU_r rfl) rfl rfl rfl ?_
   refine l1 (exA_r rfl rfl) rfl rfl rfl ?_
   refine l1 (exI_r rfl rfl) rfl rfl rfl ?_
   refine alo H z_Part rfl ?_; intro w30 b20 H
   refine stN H 0 (#[.int .i64 (u1.epoch), .int .i64 (u1.leader), .slice u1.iA u1.isr.length u1.iC, .slice u1.kA u1.known.length u1.kC, .slice u1.rA u1.reps.length u1.rC, .int .i64 (u1.few), .int .i64 (u1.base)]) siz_Part rfl rfl rfl rfl rfl (by kernel_rfl) (by kernel_rfl) ?_; intro w31 H
   refine l1 (asI_r rfl) rfl rfl rfl ?_
   refine lw_nil ?_
   refine cw_seq ?_
   replace H := Hp.paReps H 1 rfl
   have hul : u.reps.length = 2 := by rw [reps_len hau]; rfl
   obtain ⟨y, hy⟩ : ∃ y, u.reps[0]? = some y := ⟨_, List.getElem?_eq_getElem (by omega)⟩
   have hy1 : u.a.reps[0]? = some y.a := by simp [Pa.a, hy]
   rw [hau] at hy1
   have hyh : y.high = (i : Nat) := by have h2 := congrArg (fun o => o.map RA.high) hy1; simp [catS, Rep.a] at h2; omega
   refine cw_region ?_
   refine l1 (mvI_r rfl) rfl rfl rfl ?_
   refine l1 (eqlT_r rfl rfl rfl) rfl rfl rfl ?_
   refine l1 (mvB_r rfl) rfl rfl rfl ?_
   refine lwG rfl ?_
   refine l1 (mvI_r rfl) rfl rfl rfl ?_
   refine lwG rfl ?_
   refine l1 (eqlT_r rfl rfl rfl) rfl rfl rfl ?_
   refine l1 (pkTB_r rfl rfl) rfl rfl rfl ?_
   refine l1 (mvB_r rfl) rfl rfl rfl ?_
   refine lwG rfl ?_
   refine l1 (mvI_r rfl) rfl rfl rfl ?_
   refine lwG rfl ?_
   refine l1 (eqlT_r rfl rfl rfl) rfl rfl rfl ?_
   refine l1 (pkTB_r rfl rfl) rfl rfl rfl ?_
   refine l1 (mvB_r rfl) rfl rfl rfl ?_
   refine lwG rfl ?_
   refine l1 (mvI_r rfl) rfl rfl rfl ?_
   refine lwG rfl ?_
   refine l1 (eqlT_r rfl rfl rfl) rfl rfl rfl ?_
   refine l1 (pkTB_r rfl rfl) rfl rfl rfl ?_
   refine l1 (mvB_r rfl) rfl rfl rfl ?_
   refine lwG rfl ?_
   refine l1 (mvI_r rfl) rfl rfl rfl ?_
   refine lwG rfl ?_
   refine l1 (eqlT_r rfl rfl rfl) rfl rfl rfl ?_
   refine l1 (pkTB_r rfl rfl) rfl rfl rfl ?_
   refine l1 (mvB_r rfl) rfl rfl rfl ?_
   refine lwG rfl ?_
   refine l1 (mvI_r rfl) rfl rfl rfl ?_
   refine lwG rfl ?_
   refine l1 (eqlT_r rfl rfl rfl) rfl rfl rfl ?_
   refine l1 (pkTB_r rfl rfl) rfl rfl rfl ?_
   refine l1 (mvB_r rfl) rfl rfl rfl ?_
   refine lwG rfl ?_
   refine l1 (mvI_r rfl) rfl rfl rfl ?_
   refine lwG rfl ?_
   refine l1 (eqlT_r rfl rfl rfl) rfl rfl rfl ?_
   refine l1 (pkTB_r rfl rfl) rfl rfl rfl ?_
   refine l1 (mvB_r rfl) rfl rfl rfl ?_
   refine lwG rfl ?_
   refine l1 (mvI_r rfl) rfl rfl rfl ?_
   refine lwG rfl ?_
   refine l1 (eqlT_r rfl rfl rfl) rfl rfl rfl ?_
   refine l1 (pkTB_r rfl rfl) rfl rfl rfl ?_
   refine l1 (mvB_r rfl) rfl rfl rfl ?_
   refine lwG rfl ?_
   refine l1 (mvI_r rfl) rfl rfl rfl ?_
   refine lwG rfl ?_
   refine l1 (eqlT_r rfl rfl rfl) rfl rfl rfl ?_
   refine l1 (pkTB_r rfl rfl) rfl rfl rfl ?_
   refine l1 (mvB_r rfl) rfl rfl rfl ?_
   refine lwG rfl ?_
   refine l1 (fad_r fd_Part_4 rfl) rfl rfl rfl ?_
   refine lwG rfl ?_
   refine l1 (ld_r one_LReplica rfl (cellE (H.ent (i := 3) rfl) rfl)) rfl rfl rfl ?_
   refine lwG rfl ?_
   refine ixF (k := 0) H 0 rfl sl_LReplica rfl rfl (by omega) (by omega) rfl ?_; intro b32 o32 x32 e32
   obtain rfl : y = x32 := by have := e32.at_; rw [hy] at this; exact Option.some.inj this
   refine lwG rfl ?_
   refine l1 (fad_r fd_Replica_2 rfl) rfl rfl rfl ?_
   refine lwG rfl ?_
   refine l1 (ld_r one_int rfl (e32.cl 3 _ rfl)) rfl rfl rfl ?_
   refine lwG rfl ?_
   refine l1 (mvI_r rfl) rfl rfl rfl ?_
   refine lwG rfl ?_
   refine l1 (eqlT_r rfl rfl hyh) rfl rfl rfl ?_
   refine l1 (pkTB_r rfl rfl) rfl rfl rfl ?_
   refine l1 (asB_r rfl) rfl rfl rfl ?_
   refine lw_nil ?_
   refine cw_ret ?_
   exact fin1 (v := .bool true) rfl rfl ⟨rfl, H.below⟩
end Go.Proofs.Ytemnchkebhclpaa
