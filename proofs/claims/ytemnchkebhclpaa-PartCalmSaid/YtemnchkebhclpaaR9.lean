/- R9: a part of the proofs over this seat: what stands in its theorems holds for every input that they name. -/
import Derived.Test.YtemnchkebhclpaaR3
import Derived.Test.YtemnchkebhclpaaQ9
namespace Go.Proofs.Ytemnchkebhclpaa
open Go Go.Eng Go.RowKit
set_option linter.unusedSimpArgs false
set_option maxHeartbeats 4000000 in
set_option maxRecDepth 10000 in
theorem partCalm_ok (l : List Raw) (A : Option Addr) (c : Nat) (n_ : Int) (w : World) (hr : Rd rawL 0 w.heap.size A l w) (hok : ∀ r ∈ l, r.ok) (hl : l.length ≤ 9223372036854775807) (ha : i64 n_) :
  Ret Try.prog i_tailracekeep_PartCalm [.slice A l.length c, .int .i64 n_] w fun v w2 => v = .bool true ∧ Below w.heap.size w w2 := by
 refine ret_of fn_tailracekeep_PartCalm rfl rfl ?_
 have H := Hp.startRd hr
 refine cw_seq ?_
 refine cw_region ?_
 refine l1 (asB_r rfl) rfl rfl rfl ?_
 refine lw_nil ?_
 refine cw_seq ?_
 refine cw_seq ?_
 refine cw_region ?_
 refine cal cb_tailracekeep_partTells (partTells_ok _) rfl rfl ?_
 rintro _ w1 ⟨rfl, hb⟩; replace H := H.later hb; clear hb
 refine l1 (not_r rfl) rfl rfl rfl ?_
 refine lw_nil ?_
 refine cw_false rfl ?_
 refine cw_skip ?_
 refine cw_seq ?_
 refine cw_region ?_
 refine l1 (mvI_r rfl) rfl rfl rfl ?_
 refine cal cb_tailracekeep_picked (picked_ok n_ (4) _ ha.1 ha.2 (by omega) (by omega)) rfl rfl ?_
 rintro _ w2 ⟨rfl, hb⟩; replace H := H.later hb; clear hb
 have hpkk := pk_lt n_ (show 0 < 4 by omega)
 refine l1 (add_r rfl rfl (by omega) (by omega)) rfl rfl rfl ?_
 obtain ⟨k, hk, hk1, hk4⟩ : ∃ k : Nat, (1 : Int) + ((pk n_ (4) : Nat) : Int) = (k : Nat) ∧ 1 ≤ k ∧ k ≤ 4 := ⟨1 + pk n_ (4), by omega, by omega, by omega⟩
 rw [hk]
 refine l1 (asI_r rfl) rfl rfl rfl ?_
 refine lw_nil ?_
 refine cw_seq ?_
 refine cw_region ?_
 refine l1 (mvS_r rfl) rfl rfl rfl ?_
 refine l1 (mvI_r rfl) rfl rfl rfl ?_
 refine cal cb_tailracekeep_played (played_ok l A c k 1 25 false _ (H.rd0 0 rfl) hok hl hk1 (by omega) (by omega) hk1 (by omega)) rfl rfl ?_
 rintro _ w3 ⟨p0, hs, Ahs, chs, rfl, hplp0, hrdp0, hrhp0, ⟨hchp0, hclp0, hccp0⟩, hrep0, hbp0⟩; have H0 := H; replace H := H.learn hbp0 (FPa w2.heap.size w3.heap.size p0) hrdp0 (Nat.le_refl _) (Nat.le_refl _); replace H := H0.learnAlso H hrhp0; replace H := H0.alsoF H (FHl w2.heap.size w3.heap.size hs) hrep0 (Nat.le_refl _) (Nat.le_refl _); clear hrdp0 hrhp0 hrep0 hbp0 H0
 refine l1 (mvU_r rfl) rfl rfl rfl ?_
 refine l1 (exA_r rfl rfl) rfl rfl rfl ?_
 refine l1 (exS_r rfl rfl) rfl rfl rfl ?_
 refine l1 (exB_r rfl rfl) rfl rfl rfl ?_
 refine alo H z_Part rfl ?_; intro w4 b6 H
 refine stN H 0 (#[.int .i64 (p0.epoch), .int .i64 (p0.leader), .slice p0.iA p0.isr.length p0.iC, .slice p0.kA p0.known.length p0.kC, .slice p0.rA p0.reps.length p0.rC, .int .i64 (p0.few), .int .i64 (p0.base)]) siz_Part rfl rfl rfl rfl rfl (by kernel_rfl) (by kernel_rfl) ?_; intro w5 H
 refine l1 (asS_r rfl) rfl rfl rfl ?_
 refine l1 (asB_r rfl) rfl rfl rfl ?_
 refine lw_nil ?_
 refine cw_seq ?_
 refine cw_seq ?_
 obtain ⟨K0, s0, hg0, hs0, -⟩ := played_gd hplp0 (by omega) hk1 (by omega) (by omega) hk1
 obtain ⟨L, hc0, hLl⟩ := play_calm hk1 (show k ≤ 5 by omega) (l.take 25) (by rw [List.length_take]; omega)
 rw [hplp0] at hc0
 rw [List.length_take] at hLl
 dsimp only at hc0
 refine cw_region ?_
 refine l1 (mvI_r rfl) rfl rfl rfl ?_
 refine lw_nil ?_
 refine cw_block ?_
 refine cw_loop (τ := Nat × Pa × Nat × Nat) [9, 10, 11, 12, 13, 14, 32, 33, 34, 35, 36, 37, 38, 39, 40, 41, 42, 43, 44, 45, 46, 47, 48, 49, 50, 51, 52, 53, 54, 55, 56, 57, 58] (fun (t, _) => [(32, .int .i64 (t : Nat))]) (fun (t, p, lo, hi) w' => t ≤ 60 ∧ (∃ K, Gd Plain K s0 k 1 p.a) ∧ Calm L k p.a ∧ Far L k p.a (fun _ => t) ∧ Hp w w' [(b6, .cells #[.int .i64 (p.epoch), .int .i64 (p.leader), .slice p.iA p.isr.length p.iC, .slice p.kA p.known.length p.kC, .slice p.rA p.reps.length p.rC, .int .i64 (p.few), .int .i64 (p.base)] T_Part (0, 0))] [FPa lo hi p]) (fun (t, _) => 60 - t) (0, p0, w2.heap.size, w3.heap.size) ⟨by omega, ⟨K0, hg0⟩, hc0, far_start hk1, H.forget (List.Sublist.refl _) (by simp)⟩ (sl1 rfl) ?_
 rintro ⟨t, p, lo, hi⟩ ρ1 w6 ⟨ht, ⟨K, hg⟩, hc, hf, H⟩
 show CW _ _ _ _ (updL (ovr _ _ ρ1) [(32, .int .i64 (t : Nat))]) w6
 refine cw_seq ?_
 refine cw_region ?_
 refine lwD (lss_r rfl rfl) rfl rfl rfl (fun h33 => ?_) (fun h33 => ?_)
 ·
  refine lw_nil ?_
  refine cw_seq ?_
  refine cw_true rfl ?_
  refine cw_skip ?_
  refine cw_seq ?_
  refine cw_block ?_
  refine cw_seq ?_
  refine cw_region ?_
  refine l1 (mvI_r rfl) rfl rfl rfl ?_
  refine l1 (mvI_r rfl) rfl rfl rfl ?_
  refine lw_nil ?_
  refine cw_block ?_
  refine cw_loop (τ := Nat × Pa × Nat × Nat) [9, 10, 11, 12, 13, 14, 35, 36, 37, 38, 39, 40, 41, 42, 43, 44, 45, 46, 47, 48, 49, 50, 51, 52, 53, 54, 55, 56, 57] (fun (r, _) => [(35, .int .i64 (r : Nat))]) (fun (r, q, lo, hi) w' => r ≤ k ∧ (∃ K, Gd Plain K s0 k 1 q.a) ∧ Calm L k q.a ∧ Far L k q.a (fun i => if i < r then t + 1 else t) ∧ Hp w w' [(b6, .cells #[.int .i64 (q.epoch), .int .i64 (q.leader), .slice q.iA q.isr.length q.iC, .slice q.kA q.known.length q.kC, .slice q.rA q.reps.length q.rC, .int .i64 (q.few), .int .i64 (q.base)] T_Part (0, 0))] [FPa lo hi q]) (fun (r, _) => k - r) (0, p, lo, hi) ⟨by omega, ⟨K, hg⟩, hc, hf.congr hg.ok hg.len hk1 (fun i _ => by simp), H⟩ (sl1 rfl) ?_
  rintro ⟨r, q, lo2, hi2⟩ ρ2 w7 ⟨hrk, ⟨K9, hg2⟩, hc2, hf2, H⟩
  show CW _ _ _ _ (updL (ovr _ _ ρ2) [(35, .int .i64 (r : Nat))]) w7
  refine cw_seq ?_
  refine cw_region ?_
  refine lwD (lss_r rfl rfl) rfl rfl rfl (fun h36 => ?_) (fun h36 => ?_)
  ·
   have hrk : r < k := by omega
   refine lw_nil ?_
   refine cw_seq ?_
   refine cw_true rfl ?_
   refine cw_skip ?_
   refine cw_seq ?_
   refine cw_block ?_
   refine cw_seq ?_
   refine cw_region ?_
   refine l1 (mvI_r rfl) rfl rfl rfl ?_
   refine l1 (asI_r rfl) rfl rfl rfl ?_
   refine lw_nil ?_
   refine cw_seq ?_
   refine cw_seq ?_
   refine cw_region ?_
   refine l1 (ldW_r agg_Part rfl (H.ent (i := 0) rfl) rfl) rfl rfl rfl ?_
   refine l1 (mvI_r rfl) rfl rfl rfl ?_
   refine cal cb_part_Sync (pSync_ok q r _ (Hp.pa H 0 rfl) hg2.ok (by have := hg2.len; simp [Pa.a] at this; omega)) rfl rfl ?_
   rintro _ w8 ⟨q1, rfl, haq1, hnq1⟩; replace H := H.learn hnq1.2 (FPa w7.heap.size w8.heap.size q1) hnq1.1 (Nat.le_refl _) (Nat.le_refl _); clear hnq1
   obtain ⟨e0, ⟨K1, g1⟩, c1, ⟨K2, g2⟩, c2, f2, e1⟩ := calmR_ok (r := r) hg2 hc2 hf2 hrk (fun i _ => by split <;> split <;> omega)
   rw [e0]
   skip
   refine l1 (mvU_r rfl) rfl rfl rfl ?_
   refine l1 (exA_r rfl rfl) rfl rfl rfl ?_
   refine l1 (exI_r rfl rfl) rfl rfl rfl ?_
   refine alo H z_Part rfl ?_; intro w9 b10 H
   refine stN H 0 (#[.int .i64 (q1.epoch), .int .i64 (q1.leader), .slice q1.iA q1.isr.length q1.iC, .slice q1.kA q1.known.length q1.kC, .slice q1.rA q1.reps.length q1.rC, .int .i64 (q1.few), .int .i64 (q1.base)]) siz_Part rfl rfl rfl rfl rfl (by kernel_rfl) (by kernel_rfl) ?_; intro w10 H
   refine l1 (asI_r rfl) rfl rfl rfl ?_
   refine lw_nil ?_
   refine cw_seq ?_
   refine cw_region ?_
   refine l1 (mvI_r rfl) rfl rfl rfl ?_
   refine l1 (eqlT_r rfl rfl rfl) rfl rfl rfl ?_
   refine lw_nil ?_
   refine cw_true rfl ?_
   refine cw_region ?_
   refine l1 (ldW_r agg_Part rfl (H.ent (i := 0) rfl) rfl) rfl rfl rfl ?_
   refine stN H 1 (#[.int .i64 (q1.epoch), .int .i64 (q1.leader), .slice q1.iA q1.isr.length q1.iC, .slice q1.kA q1.known.length q1.kC, .slice q1.rA q1.reps.length q1.rC, .int .i64 (q1.few), .int .i64 (q1.base)]) siz_Part rfl rfl rfl rfl rfl (by kernel_rfl) (by kernel_rfl) ?_; intro w11 H
   refine lw_nil ?_
   refine cw_seq ?_
   refine cw_region ?_
   refine l1 (ldW_r agg_Part rfl (H.ent (i := 1) rfl) rfl) rfl rfl rfl ?_
   refine l1 (mvI_r rfl) rfl rfl rfl ?_
   rcases Nat.eq_zero_or_pos r with hr0 | hr0
   ·
    refine cal cb_part_Fetch (pFetch_ok q1 r _ (Hp.pa H 0 rfl) (by rw [haq1]; exact g1.ok) (by rw [reps_len haq1, g1.len]; exact hrk)) rfl rfl ?_
    rintro _ w12 ⟨q2, rfl, haq2, hnq2⟩; replace H := H.learn hnq2.2 (FPa w11.heap.size w12.heap.size q2) hnq2.1 (Nat.le_refl _) (Nat.le_refl _); clear hnq2
    have he8 : (fetchA q1.a r).2.2 = 8 := by rw [haq1, hr0]; rw [hr0] at c1; exact calm_fetch0 c1
    rw [he8]
    refine l1 (mvU_r rfl) rfl rfl rfl ?_
    refine l1 (exA_r rfl rfl) rfl rfl rfl ?_
    refine l1 (exI_r rfl rfl) rfl rfl rfl ?_
    refine l1 (exI_r rfl rfl) rfl rfl rfl ?_
    refine alo H z_Part rfl ?_; intro w13 b12 H
    refine stN H 0 (#[.int .i64 (q2.epoch), .int .i64 (q2.leader), .slice q2.iA q2.isr.length q2.iC, .slice q2.kA q2.known.length q2.kC, .slice q2.rA q2.reps.length q2.rC, .int .i64 (q2.few), .int .i64 (q2.base)]) siz_Part rfl rfl rfl rfl rfl (by kernel_rfl) (by kernel_rfl) ?_; intro w14 H
    refine l1 (asI_r rfl) rfl rfl rfl ?_
    refine l1 (asI_r rfl) rfl rfl rfl ?_
    refine lw_nil ?_
    refine cw_seq ?_
    refine cw_region ?_
    refine l1 (mvI_r rfl) rfl rfl rfl ?_
    refine l1 (eqlF_r rfl rfl (by decide)) rfl rfl rfl ?_
    refine lw_nil ?_
    refine cw_false rfl ?_
    refine cw_skip ?_
    refine cw_region ?_
    refine l1 (add_r rfl rfl (by omega) (by omega)) rfl rfl rfl ?_
    refine l1 (mvI_r rfl) rfl rfl rfl ?_
    refine lw_nil ?_
    have hcr : calmR r q.a = q1.a := by unfold calmR; rw [if_pos hr0, haq1, hr0]
    rw [hcr] at g2 c2 f2
    refine ⟨(r + 1, q1, w7.heap.size, w8.heap.size), ⟨by omega, ⟨K2, g2⟩, c2, f2.congr g2.ok g2.len hk1 (fun i _ => by by_cases h1 : i = r <;> by_cases h2 : i < r <;> simp [h1, h2] <;> omega), H.forget (.cons _ (.cons _ (List.Sublist.refl _))) (by simp)⟩, sl1 rfl, by repeat (first | exact Agr.refl _ _ | exact agr_ovr | refine agr_upd rfl ?_ | refine agr_updL _ rfl ?_ | refine agr_ovr2 rfl ?_), by show k - (r + 1) < k - r; omega⟩
   ·
    refine cal cb_part_Fetch (pFetch_ok q1 r _ (Hp.pa H 0 rfl) (by rw [haq1]; exact g1.ok) (by rw [reps_len haq1, g1.len]; exact hrk)) rfl rfl ?_
    rintro _ w15 ⟨q2, rfl, haq2, hnq2⟩; replace H := H.learn hnq2.2 (FPa w11.heap.size w15.heap.size q2) hnq2.1 (Nat.le_refl _) (Nat.le_refl _); clear hnq2
    have he0 : (fetchA q1.a r).2.2 = 0 := by rw [haq1]; exact e1 (by omega)
    rw [he0]
    refine l1 (mvU_r rfl) rfl rfl rfl ?_
    refine l1 (exA_r rfl rfl) rfl rfl rfl ?_
    refine l1 (exI_r rfl rfl) rfl rfl rfl ?_
    refine l1 (exI_r rfl rfl) rfl rfl rfl ?_
    refine alo H z_Part rfl ?_; intro w16 b12 H
    refine stN H 0 (#[.int .i64 (q2.epoch), .int .i64 (q2.leader), .slice q2.iA q2.isr.length q2.iC, .slice q2.kA q2.known.length q2.kC, .slice q2.rA q2.reps.length q2.rC, .int .i64 (q2.few), .int .i64 (q2.base)]) siz_Part rfl rfl rfl rfl rfl (by kernel_rfl) (by kernel_rfl) ?_; intro w17 H
    refine l1 (asI_r rfl) rfl rfl rfl ?_
    refine l1 (asI_r rfl) rfl rfl rfl ?_
    refine lw_nil ?_
    refine cw_seq ?_
    refine cw_region ?_
    refine l1 (mvI_r rfl) rfl rfl rfl ?_
    refine l1 (eqlT_r rfl rfl rfl) rfl rfl rfl ?_
    refine lw_nil ?_
    refine cw_true rfl ?_
    refine cw_region ?_
    refine l1 (ldW_r agg_Part rfl (H.ent (i := 0) rfl) rfl) rfl rfl rfl ?_
    refine stN H 2 (#[.int .i64 (q2.epoch), .int .i64 (q2.leader), .slice q2.iA q2.isr.length q2.iC, .slice q2.kA q2.known.length q2.kC, .slice q2.rA q2.reps.length q2.rC, .int .i64 (q2.few), .int .i64 (q2.base)]) siz_Part rfl rfl rfl rfl rfl (by kernel_rfl) (by kernel_rfl) ?_; intro w18 H
    refine lw_nil ?_
    refine cw_region ?_
    refine l1 (add_r rfl rfl (by omega) (by omega)) rfl rfl rfl ?_
    refine l1 (mvI_r rfl) rfl rfl rfl ?_
    refine lw_nil ?_
    have hcr : calmR r q.a = q2.a := by unfold calmR; rw [if_neg (by omega), haq2, haq1]
    rw [hcr] at g2 c2 f2
    refine ⟨(r + 1, q2, w11.heap.size, w15.heap.size), ⟨by omega, ⟨K2, g2⟩, c2, f2.congr g2.ok g2.len hk1 (fun i _ => by by_cases h1 : i = r <;> by_cases h2 : i < r <;> simp [h1, h2] <;> omega), H.forget (.cons _ (.cons _ (List.Sublist.refl _))) (by simp)⟩, sl1 rfl, by repeat (first | exact Agr.refl _ _ | exact agr_ovr | refine agr_upd rfl ?_ | refine agr_updL _ rfl ?_ | refine agr_ovr2 rfl ?_), by show k - (r + 1) < k - r; omega⟩
  ·
   refine lw_nil ?_
   refine cw_seq ?_
   refine cw_false rfl ?_
   refine cw_exit ?_
   refine cw_region ?_
   refine l1 (add_r rfl rfl (by omega) (by omega)) rfl rfl rfl ?_
   refine l1 (mvI_r rfl) rfl rfl rfl ?_
   refine lw_nil ?_
   refine ⟨(t + 1, q, lo2, hi2), ⟨by omega, ⟨K9, hg2⟩, hc2, hf2.congr hg2.ok hg2.len hk1 (fun i hi => if_pos (by omega)), H⟩, sl1 rfl, by repeat (first | exact Agr.refl _ _ | exact agr_ovr | refine agr_upd rfl ?_ | refine agr_updL _ rfl ?_ | refine agr_ovr2 rfl ?_), by show 60 - (t + 1) < 60 - t; omega⟩
 ·
  have ht60 : t = 60 := by omega
  have hpn : p.reps.length = k := by have := hg.len; simpa [Pa.a] using this
  obtain ⟨y, hy⟩ : ∃ y, p.reps[0]? = some y := ⟨_, List.getElem?_eq_getElem (by omega)⟩
  have hya : p.a.reps[0]? = some y.a := by simp [Pa.a, hy]
  obtain ⟨hyL, hyH, hyS⟩ := calm_end hg hc hf (fun i _ => by omega) hya
  simp only [Rep.a] at hyL hyH hyS
  have hyo := Pa.repOk hg.ok hy
  replace H := Hp.paReps H 0 rfl
  refine lw_nil ?_
  refine cw_seq ?_
  refine cw_false rfl ?_
  refine cw_exit ?_
  refine cw_seq ?_
  refine cw_region ?_
  refine l1 (fad_r fd_Part_4 rfl) rfl rfl rfl ?_
  refine l1 (ld_r one_LReplica rfl (cellE (H.ent (i := 0) rfl) rfl)) rfl rfl rfl ?_
  refine ixF (k := 0) H 0 rfl sl_LReplica rfl rfl (by omega) (by omega) rfl ?_; intro b19 o19 x19 e19
  obtain rfl : y = x19 := by have := e19.at_; rw [hy] at this; exact Option.some.inj this
  refine l1 (fad_r fd_Replica_1 rfl) rfl rfl rfl ?_
  refine l1 (ldA_r (xs := [.slice y.A ((flat y.es).length) y.cap, .int .i64 (((lsz y.es y.s : Nat) : Int))]) agg_Log rfl rfl (cl_sub e19.cl 1 rfl)) rfl rfl rfl ?_
  refine cal cb_seg_Entries (segEntries_at y.A y.cap y.es y.s _ (Pa.log (Hp.pa H 1 rfl) hg.ok (i := 0) hy)) rfl rfl ?_
  have hloen := H.size
  rintro _ w20 ⟨Aen, cen, rfl, hren, hcen, hben⟩; replace H := H.learnRd hben hren; clear hren hben
  refine l1 (mvU_r rfl) rfl rfl rfl ?_
  refine l1 (exS_r rfl rfl) rfl rfl rfl ?_
  refine l1 (exI_r rfl rfl) rfl rfl rfl ?_
  refine l1 (exI_r rfl rfl) rfl rfl rfl ?_
  refine l1 (asS_r rfl) rfl rfl rfl ?_
  refine l1 (asI_r rfl) rfl rfl rfl ?_
  refine l1 (asI_r rfl) rfl rfl rfl ?_
  refine lw_nil ?_
  refine cw_seq ?_
  refine cw_seq ?_
  refine cw_region ?_
  refine l1 (fad_r fd_Part_4 rfl) rfl rfl rfl ?_
  refine l1 (ld_r one_LReplica rfl (cellE (H.ent (i := 0) rfl) rfl)) rfl rfl rfl ?_
  refine l1 (lenS_r len_LReplica rfl) rfl rfl rfl ?_
  refine l1 (mvI_r rfl) rfl rfl rfl ?_
  refine lw_nil ?_
  refine cw_block ?_
  refine cw_loop (τ := Nat) [4, 19, 72, 73, 74, 75, 76, 77, 78, 79, 80, 81, 82, 83, 84, 85, 86, 87, 88, 89, 90, 91, 92, 93, 94, 95] (fun j => [(72, .int .i64 (j : Nat))]) (fun j w' => j ≤ p.reps.length ∧ Hp w w' [(b6, .cells #[.int .i64 (p.epoch), .int .i64 (p.leader), .slice p.iA p.isr.length p.iC, .slice p.kA p.known.length p.kC, .slice p.rA p.reps.length p.rC, .int .i64 (p.few), .int .i64 (p.base)] T_Part (0, 0))] [FRd entL w6.heap.size w20.heap.size Aen y.es, FRd repL lo hi p.rA p.reps, FPa lo hi p]) (fun j => p.reps.length - j) 0 ⟨by omega, H⟩ (sl1 rfl) ?_
  rintro j ρ3 w21 ⟨hj, H⟩
  show CW _ _ _ _ (updL (ovr _ _ ρ3) [(72, .int .i64 (j : Nat))]) w21
  refine cw_seq ?_
  refine cw_region ?_
  refine lwD (lss_r rfl rfl) rfl rfl rfl (fun h73 => ?_) (fun h73 => ?_)
  ·
   refine lw_nil ?_
   refine cw_seq ?_
   refine cw_true rfl ?_
   refine cw_skip ?_
   refine cw_seq ?_
   refine cw_block ?_
   refine cw_seq ?_
   obtain ⟨z, hz⟩ : ∃ z, p.reps[j]? = some z := ⟨_, List.getElem?_eq_getElem (by omega)⟩
   have hza : p.a.reps[j]? = some z.a := by simp [Pa.a, hz]
   obtain ⟨hzL, hzH, hzS⟩ := calm_end hg hc hf (fun i _ => by omega) hza
   simp only [Rep.a] at hzL hzH hzS
   have hzo := Pa.repOk hg.ok hz
   refine cw_region ?_
   refine ixF H 1 rfl sl_LReplica rfl rfl (by omega) (by omega) rfl ?_; intro b22 o22 x22 e22
   obtain rfl : z = x22 := by have := e22.at_; rw [hz] at this; exact Option.some.inj this
   refine l1 (ldA_r (xs := Rep.c z) agg_Replica rfl rfl e22.cl) rfl rfl rfl ?_
   refine alo H z_Replica rfl ?_; intro w23 b19 H
   refine stN H 0 (#[.bool (z.up), .slice z.A ((flat z.es).length) z.cap, .int .i64 (((lsz z.es z.s : Nat) : Int)), .int .i64 (z.high)]) siz_Replica rfl rfl rfl rfl rfl (by kernel_rfl) (by kernel_rfl) ?_; intro w24 H
   refine lw_nil ?_
   refine cw_seq ?_
  
   refine cw_draw mixed [0, 1, 2, 3, 4, 5, 6, 7, 8, 9, 10, 11, 12, 13, 14, 15, 16, 17, 18] [] [] [0, 1, 4, 6, 7, 8, 11, 12, 13, 15, 16, 17, 18] (sp []) (by kernel_rfl) (by kernel_rfl) (by kernel_rfl) (by kernel_rfl) (fun _ _ _ h => h) (sp_st _) ?_
   refine aw rfl rfl rfl rfl rfl (fun w' hw' => fad_r fd_Replica_1 rfl) ?_
   refine aw rfl rfl rfl rfl rfl (fun w' hw' => fad_r fd_Log_0 rfl) ?_
   refine aw rfl rfl rfl rfl rfl (fun w' hw' => ld_r one_Lbyte rfl (cellE ((H.later hw').ent (i := 0) rfl) rfl)) ?_
   refine aw rfl rfl rfl rfl rfl (fun w' hw' => cvBT_r (l := flat z.es) sl_Lbyte int_byte str_string rfl rfl (fun _ => rfl) ((Hp.pa (H.later hw') 2 rfl).logs z (List.mem_of_getElem? hz))) ?_
   refine aw rfl rfl rfl rfl rfl (fun w' hw' => fad_r fd_Part_4 rfl) ?_
   refine aw rfl rfl rfl rfl rfl (fun w' hw' => ld_r one_LReplica rfl (cellE ((H.later hw').ent (i := 1) rfl) rfl)) ?_
   refine awIxF (k := 0) H 1 rfl rfl rfl rfl rfl sl_LReplica rfl rfl (by omega) (by omega) ?_; intro b25 o25 x25 e25
   obtain rfl : y = x25 := by have := e25.at_; rw [hy] at this; exact Option.some.inj this
   refine aw rfl rfl rfl rfl rfl (fun w' hw' => fad_r fd_Replica_1 rfl) ?_
   refine aw rfl rfl rfl rfl rfl (fun w' hw' => fad_r fd_Log_0 rfl) ?_
   refine aw rfl rfl rfl rfl rfl (fun w' hw' => ld_r one_Lbyte rfl (e25.later hw' 1 _ rfl)) ?_
   refine aw rfl rfl rfl rfl rfl (fun w' hw' => cvBT_r (l := flat y.es) sl_Lbyte int_byte str_string rfl rfl (fun _ => rfl) ((Hp.pa (H.later hw') 2 rfl).logs y (List.mem_of_getElem? hy))) ?_
   refine aw rfl rfl rfl rfl rfl (fun w' hw' => sneqF_r rfl rfl (by rw [hzL, hyL])) ?_
   refine aw rfl rfl rfl rfl rfl (fun w' hw' => mvB_r rfl) ?_
   refine aw rfl rfl rfl rfl rfl (fun w' hw' => fad_r fd_Replica_2 rfl) ?_
   refine aw rfl rfl rfl rfl rfl (fun w' hw' => ld_r one_int rfl (cellE ((H.later hw').ent (i := 0) rfl) rfl)) ?_
   refine aw rfl rfl rfl rfl rfl (fun w' hw' => mvS_r rfl) ?_
   refine aw rfl rfl rfl rfl rfl (fun w' hw' => lenS_r len_LEntry rfl) ?_
   refine aw rfl rfl rfl rfl rfl (fun w' hw' => neqF_r rfl rfl (by rw [hzH, hyL])) ?_
   refine aw rfl rfl rfl rfl rfl (fun w' hw' => pkFB_r rfl rfl) ?_
   refine aw_nil ?_
   intro w26 hw' hF
   replace H := H.later hw'; clear hw' hF
   refine lw_nil ?_
   refine cw_false rfl ?_
   refine cw_skip ?_
   refine cw_region ?_
   refine l1 (add_r rfl rfl (by omega) (by omega)) rfl rfl rfl ?_
   refine l1 (mvI_r rfl) rfl rfl rfl ?_
   refine lw_nil ?_
   refine ⟨j + 1, ⟨by omega, H.forget (.cons _ (List.Sublist.refl _)) (fun _ h => h)⟩, sl1 rfl, by repeat (first | exact Agr.refl _ _ | exact agr_ovr | refine agr_upd rfl ?_ | refine agr_updL _ rfl ?_ | refine agr_ovr2 rfl ?_), by show p.reps.length - (j + 1) < p.reps.length - j; omega⟩
  ·
   refine lw_nil ?_
   refine cw_seq ?_
   refine cw_false rfl ?_
   refine cw_exit ?_
   refine cw_seq ?_
   refine cw_region ?_
   refine l1 (mvB_r rfl) rfl rfl rfl ?_
   refine l1 (mvB_r rfl) rfl rfl rfl ?_
   refine lwG rfl ?_
   refine l1 (mvI_r rfl) rfl rfl rfl ?_
   refine lwG rfl ?_
   refine l1 (eqlT_r rfl rfl rfl) rfl rfl rfl ?_
   refine l1 (pkTB_r rfl rfl) rfl rfl rfl ?_
   refine l1 (mvB_r rfl) rfl rfl rfl ?_
   refine lwG rfl ?_
   refine l1 (mvI_r rfl) rfl rfl rfl ?_
   refine lwG rfl ?_
   refine l1 (mvS_r rfl) rfl rfl rfl ?_
   refine lwG rfl ?_
   refine l1 (lenS_r len_LEntry rfl) rfl rfl rfl ?_
   refine lwG rfl ?_
   refine l1 (eqlT_r rfl rfl (by rw [hyS trivial, hyL])) rfl rfl rfl ?_
   refine l1 (pkTB_r rfl rfl) rfl rfl rfl ?_
   refine l1 (mvB_r rfl) rfl rfl rfl ?_
   refine lwG rfl ?_
   refine l1 (fad_r fd_Part_1 rfl) rfl rfl rfl ?_
   refine lwG rfl ?_
   refine l1 (ld_r one_int rfl (cellE (H.ent (i := 0) rfl) rfl)) rfl rfl rfl ?_
   refine lwG rfl ?_
   refine l1 (eqlT_r rfl rfl (by have h2 : p.a.leader = p.leader := rfl; rw [hc.lead] at h2; omega)) rfl rfl rfl ?_
   refine l1 (pkTB_r rfl rfl) rfl rfl rfl ?_
   refine l1 (asB_r rfl) rfl rfl rfl ?_
   refine lw_nil ?_
   refine cw_ret ?_
   exact fin1 (v := .bool true) rfl rfl ⟨rfl, H.below⟩
end Go.Proofs.Ytemnchkebhclpaa
