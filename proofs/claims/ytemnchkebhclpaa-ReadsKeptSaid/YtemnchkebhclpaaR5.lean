/- R5: a part of the proofs over this seat: what stands in its theorems holds for every input that they name. -/
import Derived.Test.YtemnchkebhclpaaR4
import Derived.Test.YtemnchkebhclpaaV11
namespace Go.Proofs.Ytemnchkebhclpaa
open Go Go.Eng Go.RowKit
set_option linter.unusedSimpArgs false
set_option maxHeartbeats 4000000 in
set_option maxRecDepth 10000 in
theorem readsKept_ok (l : List Raw) (A : Option Addr) (c : Nat) (n_ at_ : Int) (w : World) (hr : Rd rawL 0 w.heap.size A l w) (hcap : l.length ≤ c) (hok : ∀ r ∈ l, r.ok) (hl : l.length ≤ 9223372036854775807) (ha : i64 n_) (hb : i64 at_) :
  Ret Try.prog i_tailracekeep_ReadsKept [.slice A l.length c, .int .i64 n_, .int .i64 at_] w fun v w2 => v = .bool true ∧ Below w.heap.size w w2 := by
 refine ret_of fn_tailracekeep_ReadsKept rfl rfl ?_
 have H := Hp.startRd hr
 refine cw_seq ?_
 refine cw_region ?_
 refine l1 (asB_r rfl) rfl rfl rfl ?_
 refine lw_nil ?_
 refine cw_seq ?_
 refine cw_seq ?_
 refine cw_region ?_
 refine cal cb_tailracekeep_partTells (partTells_ok _) rfl rfl ?_
 rintro _ w1 ⟨rfl, hb⟩; replace H := H.later hb; clear hb
 refine l1 (not_r rfl) rfl rfl rfl ?_
 refine lw_nil ?_
 refine cw_false rfl ?_
 refine cw_skip ?_
 refine cw_seq ?_
 refine cw_region ?_
 refine l1 (mvI_r rfl) rfl rfl rfl ?_
 refine cal cb_tailracekeep_picked (picked_ok n_ (4) _ ha.1 ha.2 (by omega) (by omega)) rfl rfl ?_
 rintro _ w2 ⟨rfl, hb⟩; replace H := H.later hb; clear hb
 have hpkk := pk_lt n_ (show 0 < 4 by omega)
 refine l1 (add_r rfl rfl (by omega) (by omega)) rfl rfl rfl ?_
 obtain ⟨k, hk, hk1, hk4⟩ : ∃ k : Nat, (1 : Int) + ((pk n_ (4) : Nat) : Int) = (k : Nat) ∧ 1 ≤ k ∧ k ≤ 4 := ⟨1 + pk n_ (4), by omega, by omega, by omega⟩
 rw [hk]
 refine l1 (asI_r rfl) rfl rfl rfl ?_
 refine lw_nil ?_
 refine cw_seq ?_
 refine cw_region ?_
 refine l1 (mvI_r rfl) rfl rfl rfl ?_
 refine l1 (mvS_r rfl) rfl rfl rfl ?_
 refine l1 (lenS_r len_LRaw rfl) rfl rfl rfl ?_
 refine l1 (minI_r rfl rfl) rfl rfl rfl ?_
 refine l1 (add_r rfl rfl (by omega) (by omega)) rfl rfl rfl ?_
 rw [show min ((l.length : Nat) : Int) 50 + 1 = ((min l.length 50 + 1 : Nat) : Int) by omega]
 refine cal cb_tailracekeep_picked (picked_ok at_ (min l.length 50 + 1) _ hb.1 hb.2 (by omega) (by omega)) rfl rfl ?_
 rintro _ w3 ⟨rfl, hb⟩; replace H := H.later hb; clear hb
 have hpj := pk_lt at_ (show 0 < min l.length 50 + 1 by omega)
 generalize pk at_ (min l.length 50 + 1) = j at hpj ⊢
 refine l1 (asI_r rfl) rfl rfl rfl ?_
 refine lw_nil ?_
 refine cw_seq ?_
 refine cw_region ?_
 refine l1 (mvS_r rfl) rfl rfl rfl ?_
 refine l1 (mvS_r rfl) rfl rfl rfl ?_
 refine l1 (lenS_r len_LRaw rfl) rfl rfl rfl ?_
 refine l1 (mvI_r rfl) rfl rfl rfl ?_
 refine l1 (minI_r rfl rfl) rfl rfl rfl ?_
 rw [show min ((l.length : Nat) : Int) ((j : Nat) : Int) = ((j : Nat) : Int) by omega]
 refine sliHiF (k := j) H 0 rfl sl_LRaw rfl rfl hcap (by omega) rfl ?_; intro A38 H
 obtain ⟨lj, hlj⟩ : ∃ lj, l.take j = lj := ⟨_, rfl⟩
 rw [hlj] at H
 have hjl : j = lj.length := by rw [← hlj, List.length_take]; omega
 subst hjl
 have hokj : ∀ r ∈ lj, r.ok := fun r hr => hok r (by rw [← hlj] at hr; exact List.take_subset _ _ hr)
 refine l1 (mvI_r rfl) rfl rfl rfl ?_
 refine cal cb_tailracekeep_played (played_ok lj A38 c k 1 50 true _ (H.rd0 0 rfl) hokj (by omega) hk1 (by omega) (by omega) hk1 (by omega)) rfl rfl ?_
 rintro _ w4 ⟨p, hs, Ahs, chs, rfl, hplp, hrdp, hrhp, ⟨hchp, hclp, hccp⟩, hrep, hbp⟩; have H0 := H; replace H := H.learn hbp (FPa w3.heap.size w4.heap.size p) hrdp (Nat.le_refl _) (Nat.le_refl _); replace H := H0.learnAlso H hrhp; replace H := H0.alsoF H (FHl w3.heap.size w4.heap.size hs) hrep (Nat.le_refl _) (Nat.le_refl _); clear hrdp hrhp hrep hbp H0
 refine l1 (mvU_r rfl) rfl rfl rfl ?_
 refine l1 (exA_r rfl rfl) rfl rfl rfl ?_
 refine l1 (exS_r rfl rfl) rfl rfl rfl ?_
 refine l1 (exB_r rfl rfl) rfl rfl rfl ?_
 refine alo H z_Part rfl ?_; intro w5 b9 H
 refine stN H 0 (#[.int .i64 (p.epoch), .int .i64 (p.leader), .slice p.iA p.isr.length p.iC, .slice p.kA p.known.length p.kC, .slice p.rA p.reps.length p.rC, .int .i64 (p.few), .int .i64 (p.base)]) siz_Part rfl rfl rfl rfl rfl (by kernel_rfl) (by kernel_rfl) ?_; intro w6 H
 refine l1 (asS_r rfl) rfl rfl rfl ?_
 refine l1 (asB_r rfl) rfl rfl rfl ?_
 refine lw_nil ?_
 refine cw_seq ?_
 refine cw_region ?_
 refine l1 (mvS_r rfl) rfl rfl rfl ?_
 refine l1 (mvI_r rfl) rfl rfl rfl ?_
 refine cal cb_tailracekeep_played (played_ok l A c k 1 50 true _ (H.rd0 4 rfl) hok hl hk1 (by omega) (by omega) hk1 (by omega)) rfl rfl ?_
 rintro _ w7 ⟨q, gs, Ags, cgs, rfl, hplq, hrdq, hrhq, ⟨hchq, hclq, hccq⟩, hreq, hbq⟩; have H0 := H; replace H := H.learn hbq (FPa w6.heap.size w7.heap.size q) hrdq (Nat.le_refl _) (Nat.le_refl _); replace H := H0.learnAlso H hrhq; replace H := H0.alsoF H (FHl w6.heap.size w7.heap.size gs) hreq (Nat.le_refl _) (Nat.le_refl _); clear hrdq hrhq hreq hbq H0
 refine l1 (mvU_r rfl) rfl rfl rfl ?_
 refine l1 (exA_r rfl rfl) rfl rfl rfl ?_
 refine l1 (exS_r rfl rfl) rfl rfl rfl ?_
 refine l1 (exB_r rfl rfl) rfl rfl rfl ?_
 refine alo H z_Part rfl ?_; intro w8 b12 H
 refine stN H 0 (#[.int .i64 (q.epoch), .int .i64 (q.leader), .slice q.iA q.isr.length q.iC, .slice q.kA q.known.length q.kC, .slice q.rA q.reps.length q.rC, .int .i64 (q.few), .int .i64 (q.base)]) siz_Part rfl rfl rfl rfl rfl (by kernel_rfl) (by kernel_rfl) ?_; intro w9 H
 refine l1 (asS_r rfl) rfl rfl rfl ?_
 refine l1 (asB_r rfl) rfl rfl rfl ?_
 refine lw_nil ?_
 refine cw_seq ?_
 obtain ⟨K, K2, hKK, hgp, hgq⟩ := played_two (l := l) (j := lj.length) (by rw [hlj]; exact hplp) hplq (by omega) hk1 (by omega) (by omega) hk1
 refine cw_region ?_
 refine l1 (ldW_r agg_Part rfl (H.ent (i := 1) rfl) rfl) rfl rfl rfl ?_
 rcases Int.lt_or_le p.leader 0 with hlp | hlp
 ·
  refine cal cb_part_Read (pRead_none p 0 20 _ (Hp.pa H 5 rfl) hgp.ok hlp) rfl rfl ?_
  rintro _ w10 ⟨rfl, hb⟩; replace H := H.later hb; clear hb
  refine l1 (mvU_r rfl) rfl rfl rfl ?_
  refine l1 (exS_r rfl rfl) rfl rfl rfl ?_
  refine l1 (exI_r rfl rfl) rfl rfl rfl ?_
  refine l1 (exI_r rfl rfl) rfl rfl rfl ?_
  refine l1 (asS_r rfl) rfl rfl rfl ?_
  refine l1 (asI_r rfl) rfl rfl rfl ?_
  refine l1 (asI_r rfl) rfl rfl rfl ?_
  refine lw_nil ?_
  refine cw_seq ?_
  refine cw_region ?_
  refine l1 (ldW_r agg_Part rfl (H.ent (i := 0) rfl) rfl) rfl rfl rfl ?_
  rcases Int.lt_or_le q.leader 0 with hlq | hlq
  ·
   refine cal cb_part_Read (pRead_none q 0 20 _ (Hp.pa H 2 rfl) hgq.ok hlq) rfl rfl ?_
   rintro _ w11 ⟨rfl, hb⟩; replace H := H.later hb; clear hb
   refine l1 (mvU_r rfl) rfl rfl rfl ?_
   refine l1 (exS_r rfl rfl) rfl rfl rfl ?_
   refine l1 (exI_r rfl rfl) rfl rfl rfl ?_
   refine l1 (exI_r rfl rfl) rfl rfl rfl ?_
   refine l1 (asS_r rfl) rfl rfl rfl ?_
   refine l1 (asI_r rfl) rfl rfl rfl ?_
   refine l1 (asI_r rfl) rfl rfl rfl ?_
   refine lw_nil ?_
   refine cw_seq ?_
   refine cw_seq ?_
   refine cw_region ?_
   refine l1 (mvB_r rfl) rfl rfl rfl ?_
   refine l1 (not_r rfl) rfl rfl rfl ?_
   refine l1 (mvB_r rfl) rfl rfl rfl ?_
   refine lwG rfl ?_
   refine l1 (mvB_r rfl) rfl rfl rfl ?_
   refine lwG rfl ?_
   refine l1 (not_r rfl) rfl rfl rfl ?_
   refine l1 (pkFB_r rfl rfl) rfl rfl rfl ?_
   refine l1 (mvB_r rfl) rfl rfl rfl ?_
   refine lwG rfl ?_
   refine l1 (mvI_r rfl) rfl rfl rfl ?_
   refine lwG rfl ?_
   refine l1 (neqT_r rfl rfl (by decide)) rfl rfl rfl ?_
   refine l1 (pkFB_r rfl rfl) rfl rfl rfl ?_
   refine l1 (mvB_r rfl) rfl rfl rfl ?_
   refine lwN rfl rfl rfl ?_
   refine lwN rfl rfl rfl ?_
   refine l1 (pkTB_r rfl rfl) rfl rfl rfl ?_
   refine lw_nil ?_
   refine cw_true rfl ?_
   refine cw_seq ?_
   refine cw_region ?_
   refine l1 (mvB_r rfl) rfl rfl rfl ?_
   refine l1 (mvB_r rfl) rfl rfl rfl ?_
   refine lwG rfl ?_
   refine l1 (mvB_r rfl) rfl rfl rfl ?_
   refine l1 (pkTB_r rfl rfl) rfl rfl rfl ?_
   refine l1 (mvB_r rfl) rfl rfl rfl ?_
   refine lwG rfl ?_
   refine l1 (mvI_r rfl) rfl rfl rfl ?_
   refine lwG rfl ?_
   refine l1 (eqlF_r rfl rfl (by decide)) rfl rfl rfl ?_
   refine lwG rfl ?_
   refine l1 (mvB_r rfl) rfl rfl rfl ?_
   refine lwG rfl ?_
   refine l1 (mvI_r rfl) rfl rfl rfl ?_
   refine lwG rfl ?_
   refine l1 (eqlT_r rfl rfl rfl) rfl rfl rfl ?_
   refine lwG rfl ?_
   refine l1 (pkFB_r rfl rfl) rfl rfl rfl ?_
   refine l1 (pkTB_r rfl rfl) rfl rfl rfl ?_
   refine l1 (mvB_r rfl) rfl rfl rfl ?_
   refine lwG rfl ?_
   refine l1 (mvI_r rfl) rfl rfl rfl ?_
   refine lwG rfl ?_
   refine l1 (eqlF_r rfl rfl (by decide)) rfl rfl rfl ?_
   refine lwG rfl ?_
   refine l1 (mvB_r rfl) rfl rfl rfl ?_
   refine lwG rfl ?_
   refine l1 (mvI_r rfl) rfl rfl rfl ?_
   refine lwG rfl ?_
   refine l1 (eqlT_r rfl rfl rfl) rfl rfl rfl ?_
   refine lwG rfl ?_
   refine l1 (pkFB_r rfl rfl) rfl rfl rfl ?_
   refine l1 (pkTB_r rfl rfl) rfl rfl rfl ?_
   refine l1 (asB_r rfl) rfl rfl rfl ?_
   refine lw_nil ?_
   refine cw_ret ?_
   exact fin1 (v := .bool true) rfl rfl ⟨rfl, H.below⟩
  ·
   obtain ⟨dq, hdq⟩ : ∃ d : Nat, q.leader = d := ⟨q.leader.toNat, by omega⟩
   have hldq := hgq.ok.ld1
   simp only [Pa.a, List.length_map] at hldq
   obtain ⟨yq, hyq⟩ : ∃ y, q.reps[dq]? = some y := ⟨_, List.getElem?_eq_getElem (by omega)⟩
   refine cal cb_part_Read (pRead_ok q 0 20 dq yq _ (Hp.pa H 2 rfl) hgq.ok hdq hyq (by omega) (by omega) (by omega)) rfl rfl ?_
   rintro _ w12 ⟨stq, o2, bq, Ao2, co2, hsq, hrq, rfl, hrdo2, hco2, hblo2⟩; replace H := H.learnRd hblo2 hrdo2; clear hrdo2 hblo2
   have hto2 := plain_read hgq (show q.a.reps[dq]? = some yq.a by simp [Pa.a, hyq]) hsq hrq
   have hllo2 : o2.length ≤ 20 := hrq.2.2.2.1
   refine l1 (mvU_r rfl) rfl rfl rfl ?_
   refine l1 (exS_r rfl rfl) rfl rfl rfl ?_
   refine l1 (exI_r rfl rfl) rfl rfl rfl ?_
   refine l1 (exI_r rfl rfl) rfl rfl rfl ?_
   refine l1 (asS_r rfl) rfl rfl rfl ?_
   refine l1 (asI_r rfl) rfl rfl rfl ?_
   refine l1 (asI_r rfl) rfl rfl rfl ?_
   refine lw_nil ?_
   refine cw_seq ?_
   refine cw_seq ?_
   refine cw_region ?_
   refine l1 (mvB_r rfl) rfl rfl rfl ?_
   refine l1 (not_r rfl) rfl rfl rfl ?_
   refine l1 (mvB_r rfl) rfl rfl rfl ?_
   refine lwG rfl ?_
   refine l1 (mvB_r rfl) rfl rfl rfl ?_
   refine lwG rfl ?_
   refine l1 (not_r rfl) rfl rfl rfl ?_
   refine l1 (pkFB_r rfl rfl) rfl rfl rfl ?_
   refine l1 (mvB_r rfl) rfl rfl rfl ?_
   refine lwG rfl ?_
   refine l1 (mvI_r rfl) rfl rfl rfl ?_
   refine lwG rfl ?_
   refine l1 (neqT_r rfl rfl (by decide)) rfl rfl rfl ?_
   refine l1 (pkFB_r rfl rfl) rfl rfl rfl ?_
   refine l1 (mvB_r rfl) rfl rfl rfl ?_
   refine lwN rfl rfl rfl ?_
   refine lwN rfl rfl rfl ?_
   refine l1 (pkTB_r rfl rfl) rfl rfl rfl ?_
   refine lw_nil ?_
   refine cw_true rfl ?_
   refine cw_seq ?_
   refine cw_region ?_
   refine l1 (mvB_r rfl) rfl rfl rfl ?_
   refine l1 (mvB_r rfl) rfl rfl rfl ?_
   refine lwG rfl ?_
   refine l1 (mvB_r rfl) rfl rfl rfl ?_
   refine l1 (pkTB_r rfl rfl) rfl rfl rfl ?_
   refine l1 (mvB_r rfl) rfl rfl rfl ?_
   refine lwG rfl ?_
   refine l1 (mvI_r rfl) rfl rfl rfl ?_
   refine lwG rfl ?_
   refine l1 (eqlF_r rfl rfl (by decide)) rfl rfl rfl ?_
   refine lwG rfl ?_
   refine l1 (mvB_r rfl) rfl rfl rfl ?_
   refine lwG rfl ?_
   refine l1 (mvI_r rfl) rfl rfl rfl ?_
   refine lwG rfl ?_
   refine l1 (eqlT_r rfl rfl rfl) rfl rfl rfl ?_
   refine lwG rfl ?_
   refine l1 (pkFB_r rfl rfl) rfl rfl rfl ?_
   refine l1 (pkTB_r rfl rfl) rfl rfl rfl ?_
   refine l1 (mvB_r rfl) rfl rfl rfl ?_
   refine lwG rfl ?_
   refine l1 (mvI_r rfl) rfl rfl rfl ?_
   refine lwG rfl ?_
   refine l1 (eqlT_r rfl rfl rfl) rfl rfl rfl ?_
   refine lwG rfl ?_
   refine l1 (mvB_r rfl) rfl rfl rfl ?_
   refine lwN rfl rfl rfl ?_
   refine lwN rfl rfl rfl ?_
   refine lwG rfl ?_
   refine l1 (pkTB_r rfl rfl) rfl rfl rfl ?_
   refine l1 (pkTB_r rfl rfl) rfl rfl rfl ?_
   refine l1 (asB_r rfl) rfl rfl rfl ?_
   refine lw_nil ?_
   refine cw_ret ?_
   exact fin1 (v := .bool true) rfl rfl ⟨rfl, H.below⟩
 ·
  obtain ⟨dp, hdp⟩ : ∃ d : Nat, p.leader = d := ⟨p.leader.toNat, by omega⟩
  have hldp := hgp.ok.ld1
  simp only [Pa.a, List.length_map] at hldp
  obtain ⟨yp, hyp⟩ : ∃ y, p.reps[dp]? = some y := ⟨_, List.getElem?_eq_getElem (by omega)⟩
  refine cal cb_part_Read (pRead_ok p 0 20 dp yp _ (Hp.pa H 5 rfl) hgp.ok hdp hyp (by omega) (by omega) (by omega)) rfl rfl ?_
  rintro _ w13 ⟨stp, o1, bp, Ao1, co1, hsp, hrp, rfl, hrdo1, hco1, hblo1⟩; replace H := H.learnRd hblo1 hrdo1; clear hrdo1 hblo1
  have hto1 := plain_read hgp (show p.a.reps[dp]? = some yp.a by simp [Pa.a, hyp]) hsp hrp
  have hllo1 : o1.length ≤ 20 := hrp.2.2.2.1
  refine l1 (mvU_r rfl) rfl rfl rfl ?_
  refine l1 (exS_r rfl rfl) rfl rfl rfl ?_
  refine l1 (exI_r rfl rfl) rfl rfl rfl ?_
  refine l1 (exI_r rfl rfl) rfl rfl rfl ?_
  refine l1 (asS_r rfl) rfl rfl rfl ?_
  refine l1 (asI_r rfl) rfl rfl rfl ?_
  refine l1 (asI_r rfl) rfl rfl rfl ?_
  refine lw_nil ?_
  refine cw_seq ?_
  refine cw_region ?_
  refine l1 (ldW_r agg_Part rfl (H.ent (i := 0) rfl) rfl) rfl rfl rfl ?_
  rcases Int.lt_or_le q.leader 0 with hlq | hlq
  ·
   refine cal cb_part_Read (pRead_none q 0 20 _ (Hp.pa H 3 rfl) hgq.ok hlq) rfl rfl ?_
   rintro _ w14 ⟨rfl, hb⟩; replace H := H.later hb; clear hb
   refine l1 (mvU_r rfl) rfl rfl rfl ?_
   refine l1 (exS_r rfl rfl) rfl rfl rfl ?_
   refine l1 (exI_r rfl rfl) rfl rfl rfl ?_
   refine l1 (exI_r rfl rfl) rfl rfl rfl ?_
   refine l1 (asS_r rfl) rfl rfl rfl ?_
   refine l1 (asI_r rfl) rfl rfl rfl ?_
   refine l1 (asI_r rfl) rfl rfl rfl ?_
   refine lw_nil ?_
   refine cw_seq ?_
   refine cw_seq ?_
   refine cw_region ?_
   refine l1 (mvB_r rfl) rfl rfl rfl ?_
   refine l1 (not_r rfl) rfl rfl rfl ?_
   refine l1 (mvB_r rfl) rfl rfl rfl ?_
   refine lwG rfl ?_
   refine l1 (mvB_r rfl) rfl rfl rfl ?_
   refine lwG rfl ?_
   refine l1 (not_r rfl) rfl rfl rfl ?_
   refine l1 (pkFB_r rfl rfl) rfl rfl rfl ?_
   refine l1 (mvB_r rfl) rfl rfl rfl ?_
   refine lwG rfl ?_
   refine l1 (mvI_r rfl) rfl rfl rfl ?_
   refine lwG rfl ?_
   refine l1 (neqF_r rfl rfl rfl) rfl rfl rfl ?_
   refine l1 (pkFB_r rfl rfl) rfl rfl rfl ?_
   refine l1 (mvB_r rfl) rfl rfl rfl ?_
   refine lwG rfl ?_
   refine l1 (mvI_r rfl) rfl rfl rfl ?_
   refine lwG rfl ?_
   refine l1 (neqT_r rfl rfl (by decide)) rfl rfl rfl ?_
   refine l1 (pkFB_r rfl rfl) rfl rfl rfl ?_
   refine lw_nil ?_
   refine cw_true rfl ?_
   refine cw_seq ?_
   refine cw_region ?_
   refine l1 (mvB_r rfl) rfl rfl rfl ?_
   refine l1 (mvB_r rfl) rfl rfl rfl ?_
   refine lwG rfl ?_
   refine l1 (mvB_r rfl) rfl rfl rfl ?_
   refine l1 (pkTB_r rfl rfl) rfl rfl rfl ?_
   refine l1 (mvB_r rfl) rfl rfl rfl ?_
   refine lwG rfl ?_
   refine l1 (mvI_r rfl) rfl rfl rfl ?_
   refine lwG rfl ?_
   refine l1 (eqlT_r rfl rfl rfl) rfl rfl rfl ?_
   refine lwG rfl ?_
   refine l1 (mvB_r rfl) rfl rfl rfl ?_
   refine lwN rfl rfl rfl ?_
   refine lwN rfl rfl rfl ?_
   refine lwG rfl ?_
   refine l1 (pkTB_r rfl rfl) rfl rfl rfl ?_
   refine l1 (pkTB_r rfl rfl) rfl rfl rfl ?_
   refine l1 (mvB_r rfl) rfl rfl rfl ?_
   refine lwG rfl ?_
   refine l1 (mvI_r rfl) rfl rfl rfl ?_
   refine lwG rfl ?_
   refine l1 (eqlF_r rfl rfl (by decide)) rfl rfl rfl ?_
   refine lwG rfl ?_
   refine l1 (mvB_r rfl) rfl rfl rfl ?_
   refine lwG rfl ?_
   refine l1 (mvI_r rfl) rfl rfl rfl ?_
   refine lwG rfl ?_
   refine l1 (eqlT_r rfl rfl rfl) rfl rfl rfl ?_
   refine lwG rfl ?_
   refine l1 (pkFB_r rfl rfl) rfl rfl rfl ?_
   refine l1 (pkTB_r rfl rfl) rfl rfl rfl ?_
   refine l1 (asB_r rfl) rfl rfl rfl ?_
   refine lw_nil ?_
   refine cw_ret ?_
   exact fin1 (v := .bool true) rfl rfl ⟨rfl, H.below⟩
  ·
   obtain ⟨dq, hdq⟩ : ∃ d : Nat, q.leader = d := ⟨q.leader.toNat, by omega⟩
   have hldq := hgq.ok.ld1
   simp only [Pa.a, List.length_map] at hldq
   obtain ⟨yq, hyq⟩ : ∃ y, q.reps[dq]? = some y := ⟨_, List.getElem?_eq_getElem (by omega)⟩
   refine cal cb_part_Read (pRead_ok q 0 20 dq yq _ (Hp.pa H 3 rfl) hgq.ok hdq hyq (by omega) (by omega) (by omega)) rfl rfl ?_
   rintro _ w15 ⟨stq, o2, bq, Ao2, co2, hsq, hrq, rfl, hrdo2, hco2, hblo2⟩; replace H := H.learnRd hblo2 hrdo2; clear hrdo2 hblo2
   have hto2 := plain_read hgq (show q.a.reps[dq]? = some yq.a by simp [Pa.a, hyq]) hsq hrq
   have hllo2 : o2.length ≤ 20 := hrq.2.2.2.1
   refine l1 (mvU_r rfl) rfl rfl rfl ?_
   refine l1 (exS_r rfl rfl) rfl rfl rfl ?_
   refine l1 (exI_r rfl rfl) rfl rfl rfl ?_
   refine l1 (exI_r rfl rfl) rfl rfl rfl ?_
   refine l1 (asS_r rfl) rfl rfl rfl ?_
   refine l1 (asI_r rfl) rfl rfl rfl ?_
   refine l1 (asI_r rfl) rfl rfl rfl ?_
   refine lw_nil ?_
   refine cw_seq ?_
   refine cw_seq ?_
   refine cw_region ?_
   refine l1 (mvB_r rfl) rfl rfl rfl ?_
   refine l1 (not_r rfl) rfl rfl rfl ?_
   refine l1 (mvB_r rfl) rfl rfl rfl ?_
   refine lwG rfl ?_
   refine l1 (mvB_r rfl) rfl rfl rfl ?_
   refine lwG rfl ?_
   refine l1 (not_r rfl) rfl rfl rfl ?_
   refine l1 (pkFB_r rfl rfl) rfl rfl rfl ?_
   refine l1 (mvB_r rfl) rfl rfl rfl ?_
   refine lwG rfl ?_
   refine l1 (mvI_r rfl) rfl rfl rfl ?_
   refine lwG rfl ?_
   refine l1 (neqF_r rfl rfl rfl) rfl rfl rfl ?_
   refine l1 (pkFB_r rfl rfl) rfl rfl rfl ?_
   refine l1 (mvB_r rfl) rfl rfl rfl ?_
   refine lwG rfl ?_
   refine l1 (mvI_r rfl) rfl rfl rfl ?_
   refine lwG rfl ?_
   refine l1 (neqF_r rfl rfl rfl) rfl rfl rfl ?_
   refine l1 (pkFB_r rfl rfl) rfl rfl rfl ?_
   refine lw_nil ?_
   refine cw_false rfl ?_
   refine cw_skip ?_
   refine cw_seq ?_
   refine cw_seq ?_
   refine cw_region ?_
   refine l1 (mvS_r rfl) rfl rfl rfl ?_
   refine l1 (lenS_r len_Lstring rfl) rfl rfl rfl ?_
   refine l1 (mvS_r rfl) rfl rfl rfl ?_
   refine l1 (lenS_r len_Lstring rfl) rfl rfl rfl ?_
   refine lwD (lss_r rfl rfl) rfl rfl rfl (fun h101 => ?_) (fun h101 => ?_)
   ·
    refine lw_nil ?_
    refine cw_true rfl ?_
    refine cw_seq ?_
    refine cw_region ?_
    refine l1 (mvS_r rfl) rfl rfl rfl ?_
    refine l1 (mvS_r rfl) rfl rfl rfl ?_
    refine l1 (mvS_r rfl) rfl rfl rfl ?_
    refine l1 (lenS_r len_Lstring rfl) rfl rfl rfl ?_
    refine sliHiF (k := o2.length) H 1 rfl sl_Lstring rfl rfl hco1 (by omega) rfl ?_; intro A106 H
    rw [show o1.take o2.length = o2 from (reads_law hKK hto1 hto2).1 (by omega)] at H
    refine cal cb_slices_Equal_Lstring_string (eq_string_ok o2 o2 _ _ _ _ _ (H.rd0 1 rfl) (H.rd0 0 rfl) (by omega)) rfl rfl ?_
    rintro _ w16 ⟨rfl, hb⟩; replace H := H.later hb; clear hb
    rw [decide_eq_true rfl]
    refine l1 (asB_r rfl) rfl rfl rfl ?_
    refine lw_nil ?_
    refine cw_ret ?_
    exact fin1 rfl rfl ⟨rfl, H.below⟩
   ·
    refine lw_nil ?_
    refine cw_false rfl ?_
    refine cw_skip ?_
    refine cw_seq ?_
    refine cw_region ?_
    refine l1 (mvS_r rfl) rfl rfl rfl ?_
    refine l1 (mvS_r rfl) rfl rfl rfl ?_
    refine l1 (mvS_r rfl) rfl rfl rfl ?_
    refine l1 (lenS_r len_Lstring rfl) rfl rfl rfl ?_
    refine sliHiF (k := o1.length) H 0 rfl sl_Lstring rfl rfl hco2 (by omega) rfl ?_; intro A112 H
    rw [show o2.take o1.length = o1 from (reads_law hKK hto1 hto2).2 (by omega)] at H
    refine cal cb_slices_Equal_Lstring_string (eq_string_ok o1 o1 _ _ _ _ _ (H.rd0 2 rfl) (H.rd0 0 rfl) (by omega)) rfl rfl ?_
    rintro _ w17 ⟨rfl, hb⟩; replace H := H.later hb; clear hb
    rw [decide_eq_true rfl]
    refine l1 (asB_r rfl) rfl rfl rfl ?_
    refine lw_nil ?_
    refine cw_ret ?_
    exact fin1 rfl rfl ⟨rfl, H.below⟩
end Go.Proofs.Ytemnchkebhclpaa
