/- R3: a part of the proofs over this seat: what stands in its theorems holds for every input that they name. -/
import Derived.Test.YtemnchkebhclpaaGL
namespace Go.Proofs.Ytemnchkebhclpaa
open Go Go.Eng Go.RowKit
set_option linter.unusedSimpArgs false
/-- rows of entries, all to be read -/
def FHl (lo hi : Nat) (hs : List Hl) : Fact := ⟨lo, hi, fun w => ∀ h ∈ hs, Rd entL lo hi h.A h.es w, fun _ _ hk h x hx => (h x hx).st hk⟩
theorem Hp.hl {w0 w : World} {L : List (Nat × Obj)} {F : List Fact} {lo hi : Nat} {hs : List Hl} (H : Hp w0 w L F) (i : Nat) (hF : F[i]? = some (FHl lo hi hs)) {h : Hl} (hh : h ∈ hs) : Rd entL 0 w.heap.size h.A h.es w :=
 Rd.mono ((H.fact hF) h hh) (Nat.zero_le _) (H.facts _ (List.mem_of_getElem? hF)).2.1
theorem Hp.hlOne {w0 w : World} {L : List (Nat × Obj)} {F : List Fact} {lo hi : Nat} {hs : List Hl} (H : Hp w0 w L F) (i : Nat) (hF : F[i]? = some (FHl lo hi hs)) {h : Hl} (hh : h ∈ hs) : Hp w0 w L (FRd entL lo hi h.A h.es :: F) := by
 refine ⟨H.below, H.ents, H.nodup, fun f hf => ?_⟩
 rcases List.mem_cons.1 hf with rfl | hf
 ·
  obtain ⟨h1, h2, h3⟩ := H.facts _ (List.mem_of_getElem? hF)
  exact ⟨h1 h hh, h2, h3⟩
 ·
  exact H.facts f hf
theorem pCopy_new (p : Pa) (w : World) (h : p.rd 0 w.heap.size w) (hok : p.a.ok) : Ret Try.prog i_part_Copy [p.v] w fun v w2 => ∃ p' : Pa, v = p'.v ∧ p'.a = p.a ∧ NewPa w w2 p' :=
 (pCopy_ok p w h hok).mono fun _ _ ⟨p', _, _, _, _, _, _, h1, h2, h3⟩ => ⟨p', h1, h2, h3.new⟩
/-- how a played part comes to be good -/
theorem played_gd {l : List Raw} {n few m : Nat} {hard : Bool} {p : Pa} {s : Nat} {hs : List (List Ent)} (hpl : playA n few hard (l.take m) = (p.a, s, hs)) (hm : m ≤ 100) (h1 : 1 ≤ n) (h5 : n ≤ 5) (hf : 1 ≤ few) (hfn : few ≤ n) : ∃ K s', Gd Plain K s' n few p.a ∧ s' ≤ m ∧ ∀ h ∈ hs, h <+: K := by
 obtain ⟨K, h, hb⟩ := play_ok (hard := hard) h1 h5 hf hfn (l.take m) (by rw [List.length_take]; omega)
 rw [hpl] at h hb
 exact ⟨K, s, h.gd, by rw [List.length_take] at hb; dsimp only at hb; omega, h.highs⟩
set_option maxHeartbeats 4000000 in
set_option maxRecDepth 10000 in
theorem pCheck_zero (w : World) : Ret Try.prog i_part_Check [.agg #[.int .i64 0, .int .i64 0, .slice none 0 0, .slice none 0 0, .slice none 0 0, .int .i64 0, .int .i64 0]] w fun v w2 => v = .int .i64 12 ∧ Below w.heap.size w w2 := by
 refine ret_of fn_part_Check rfl rfl ?_
 have H := Hp.start w
 refine cw_seq ?_
 refine cw_region ?_
 refine bxA H rfl rfl ?_; intro w1 b1 H
 refine l1 (asI_r rfl) rfl rfl rfl ?_
 refine lw_nil ?_
 refine cw_seq ?_
 refine cw_region ?_
 refine l1 (fad_r fd_Part_4 rfl) rfl rfl rfl ?_
 refine l1 (ld_r one_LReplica rfl (cellE (H.ent (i := 0) rfl) rfl)) rfl rfl rfl ?_
 refine l1 (lenS_r len_LReplica rfl) rfl rfl rfl ?_
 refine l1 (asI_r rfl) rfl rfl rfl ?_
 refine lw_nil ?_
 refine cw_seq ?_
 refine cw_seq ?_
 refine cw_region ?_
 refine l1 (mvI_r rfl) rfl rfl rfl ?_
 refine l1 (lssT_r rfl rfl (by decide)) rfl rfl rfl ?_
 refine l1 (mvB_r rfl) rfl rfl rfl ?_
 refine lwN rfl rfl rfl ?_
 refine lwN rfl rfl rfl ?_
 refine l1 (pkTB_r rfl rfl) rfl rfl rfl ?_
 refine l1 (mvB_r rfl) rfl rfl rfl ?_
 refine lwN rfl rfl rfl ?_
 refine lwN rfl rfl rfl ?_
 refine lwN rfl rfl rfl ?_
 refine lwN rfl rfl rfl ?_
 refine lwN rfl rfl rfl ?_
 refine l1 (pkTB_r rfl rfl) rfl rfl rfl ?_
 refine l1 (mvB_r rfl) rfl rfl rfl ?_
 refine lwN rfl rfl rfl ?_
 refine lwN rfl rfl rfl ?_
 refine lwN rfl rfl rfl ?_
 refine lwN rfl rfl rfl ?_
 refine lwN rfl rfl rfl ?_
 refine l1 (pkTB_r rfl rfl) rfl rfl rfl ?_
 refine l1 (mvB_r rfl) rfl rfl rfl ?_
 refine lwN rfl rfl rfl ?_
 refine lwN rfl rfl rfl ?_
 refine lwN rfl rfl rfl ?_
 refine l1 (pkTB_r rfl rfl) rfl rfl rfl ?_
 refine l1 (mvB_r rfl) rfl rfl rfl ?_
 refine lwN rfl rfl rfl ?_
 refine lwN rfl rfl rfl ?_
 refine lwN rfl rfl rfl ?_
 refine lwN rfl rfl rfl ?_
 refine l1 (pkTB_r rfl rfl) rfl rfl rfl ?_
 refine l1 (mvB_r rfl) rfl rfl rfl ?_
 refine lwN rfl rfl rfl ?_
 refine lwN rfl rfl rfl ?_
 refine lwN rfl rfl rfl ?_
 refine l1 (pkTB_r rfl rfl) rfl rfl rfl ?_
 refine l1 (mvB_r rfl) rfl rfl rfl ?_
 refine lwN rfl rfl rfl ?_
 refine lwN rfl rfl rfl ?_
 refine lwN rfl rfl rfl ?_
 refine l1 (pkTB_r rfl rfl) rfl rfl rfl ?_
 refine l1 (mvB_r rfl) rfl rfl rfl ?_
 refine lwN rfl rfl rfl ?_
 refine lwN rfl rfl rfl ?_
 refine lwN rfl rfl rfl ?_
 refine l1 (pkTB_r rfl rfl) rfl rfl rfl ?_
 refine l1 (mvB_r rfl) rfl rfl rfl ?_
 refine lwN rfl rfl rfl ?_
 refine lwN rfl rfl rfl ?_
 refine lwN rfl rfl rfl ?_
 refine lwN rfl rfl rfl ?_
 refine l1 (pkTB_r rfl rfl) rfl rfl rfl ?_
 refine l1 (mvB_r rfl) rfl rfl rfl ?_
 refine lwN rfl rfl rfl ?_
 refine lwN rfl rfl rfl ?_
 refine lwN rfl rfl rfl ?_
 refine l1 (pkTB_r rfl rfl) rfl rfl rfl ?_
 refine l1 (mvB_r rfl) rfl rfl rfl ?_
 refine lwN rfl rfl rfl ?_
 refine lwN rfl rfl rfl ?_
 refine lwN rfl rfl rfl ?_
 refine l1 (pkTB_r rfl rfl) rfl rfl rfl ?_
 refine lw_nil ?_
 refine cw_true rfl ?_
 refine cw_seq ?_
 refine cw_region ?_
 refine l1 (asI_r rfl) rfl rfl rfl ?_
 refine lw_nil ?_
 refine cw_ret ?_
 exact fin1 rfl rfl ⟨rfl, H.below⟩
set_option maxHeartbeats 4000000 in
set_option maxRecDepth 10000 in
theorem partGood_ok (l : List Raw) (A : Option Addr) (c : Nat) (n_ few_ : Int) (w : World) (hr : Rd rawL 0 w.heap.size A l w) (hok : ∀ r ∈ l, r.ok) (hl : l.length ≤ 9223372036854775807) (ha : i64 n_) (hb : i64 few_) :
  Ret Try.prog i_tailracekeep_PartGood [.slice A l.length c, .int .i64 n_, .int .i64 few_] w fun v w2 => v = .bool true ∧ Below w.heap.size w w2 := by
 refine ret_of fn_tailracekeep_PartGood rfl rfl ?_
 have H := Hp.startRd hr
 refine cw_seq ?_
 refine cw_region ?_
 refine l1 (asB_r rfl) rfl rfl rfl ?_
 refine lw_nil ?_
 refine cw_seq ?_
 refine cw_region ?_
 refine l1 (mvI_r rfl) rfl rfl rfl ?_
 refine cal cb_tailracekeep_picked (picked_ok n_ (4) _ ha.1 ha.2 (by omega) (by omega)) rfl rfl ?_
 rintro _ w1 ⟨rfl, hb⟩; replace H := H.later hb; clear hb
 have hpkk := pk_lt n_ (show 0 < 4 by omega)
 refine l1 (add_r rfl rfl (by omega) (by omega)) rfl rfl rfl ?_
 obtain ⟨k, hk, hk1, hk4⟩ : ∃ k : Nat, (1 : Int) + ((pk n_ (4) : Nat) : Int) = (k : Nat) ∧ 1 ≤ k ∧ k ≤ 4 := ⟨1 + pk n_ (4), by omega, by omega, by omega⟩
 rw [hk]
 refine l1 (asI_r rfl) rfl rfl rfl ?_
 refine lw_nil ?_
 refine cw_seq ?_
 refine cw_region ?_
 refine l1 (mvS_r rfl) rfl rfl rfl ?_
 refine l1 (mvI_r rfl) rfl rfl rfl ?_
 refine l1 (mvI_r rfl) rfl rfl rfl ?_
 refine l1 (mvI_r rfl) rfl rfl rfl ?_
 refine cal cb_tailracekeep_picked (picked_ok few_ (k) _ hb.1 hb.2 (by omega) (by omega)) rfl rfl ?_
 rintro _ w2 ⟨rfl, hb⟩; replace H := H.later hb; clear hb
 have hpkf := pk_lt few_ (show 0 < k by omega)
 refine l1 (add_r rfl rfl (by omega) (by omega)) rfl rfl rfl ?_
 obtain ⟨f, hf, hf1, hf4⟩ : ∃ f : Nat, (1 : Int) + ((pk few_ (k) : Nat) : Int) = (f : Nat) ∧ 1 ≤ f ∧ f ≤ k := ⟨1 + pk few_ (k), by omega, by omega, by omega⟩
 rw [hf]
 refine cal cb_tailracekeep_played (played_ok l A c k f 60 true _ (H.rd0 0 rfl) hok hl hk1 (by omega) hf1 hf4 (by omega)) rfl rfl ?_
 rintro _ w3 ⟨p, hs, Ahs, chs, rfl, hplp, hrdp, hrhp, ⟨hchp, hclp, hccp⟩, hrep, hbp⟩; have H0 := H; replace H := H.learn hbp (FPa w2.heap.size w3.heap.size p) hrdp (Nat.le_refl _) (Nat.le_refl _); replace H := H0.learnAlso H hrhp; replace H := H0.alsoF H (FHl w2.heap.size w3.heap.size hs) hrep (Nat.le_refl _) (Nat.le_refl _); clear hrdp hrhp hrep hbp H0
 refine l1 (mvU_r rfl) rfl rfl rfl ?_
 refine l1 (exA_r rfl rfl) rfl rfl rfl ?_
 refine l1 (exS_r rfl rfl) rfl rfl rfl ?_
 refine l1 (exB_r rfl rfl) rfl rfl rfl ?_
 refine alo H z_Part rfl ?_; intro w4 b8 H
 refine stN H 0 (#[.int .i64 (p.epoch), .int .i64 (p.leader), .slice p.iA p.isr.length p.iC, .slice p.kA p.known.length p.kC, .slice p.rA p.reps.length p.rC, .int .i64 (p.few), .int .i64 (p.base)]) siz_Part rfl rfl rfl rfl rfl (by kernel_rfl) (by kernel_rfl) ?_; intro w5 H
 refine l1 (asS_r rfl) rfl rfl rfl ?_
 refine l1 (asB_r rfl) rfl rfl rfl ?_
 refine lw_nil ?_
 refine cw_seq ?_
 obtain ⟨K, s, hgd, -, -⟩ := played_gd hplp (by omega) hk1 (by omega) hf1 hf4
 refine cw_region ?_
 refine l1 (mvB_r rfl) rfl rfl rfl ?_
 refine l1 (mvB_r rfl) rfl rfl rfl ?_
 refine lwG rfl ?_
 refine l1 (ldW_r agg_Part rfl (H.ent (i := 0) rfl) rfl) rfl rfl rfl ?_
 refine lwG rfl ?_
 refine cal cb_part_Check (pCheck_ok p _ (Hp.pa H 2 rfl) hgd.ok) rfl rfl ?_
 rintro _ w6 ⟨rfl, hb⟩; replace H := H.later hb; clear hb
 refine lwG rfl ?_
 refine l1 (eqlT_r rfl rfl rfl) rfl rfl rfl ?_
 refine l1 (pkTB_r rfl rfl) rfl rfl rfl ?_
 refine l1 (mvB_r rfl) rfl rfl rfl ?_
 refine lwG rfl ?_
 refine l1 (ldW_r agg_Part rfl (H.ent (i := 0) rfl) rfl) rfl rfl rfl ?_
 refine lwG rfl ?_
 refine cal cb_part_Copy (pCopy_new p _ (Hp.pa H 2 rfl) hgd.ok) rfl rfl ?_
 rintro _ w7 ⟨q, rfl, haq, hnq⟩; replace H := H.learn hnq.2 (FPa w6.heap.size w7.heap.size q) hnq.1 (Nat.le_refl _) (Nat.le_refl _); clear hnq
 refine lwG rfl ?_
 refine cal cb_part_Check (pCheck_ok q _ (Hp.pa H 0 rfl) (by rw [haq]; exact hgd.ok)) rfl rfl ?_
 rintro _ w8 ⟨rfl, hb⟩; replace H := H.later hb; clear hb
 refine lwG rfl ?_
 refine l1 (eqlT_r rfl rfl rfl) rfl rfl rfl ?_
 refine l1 (pkTB_r rfl rfl) rfl rfl rfl ?_
 refine l1 (mvB_r rfl) rfl rfl rfl ?_
 refine lwG rfl ?_
 refine l1 (bld_r (cs := #[.int .i64 (0), .int .i64 (0), .slice none 0 0, .slice none 0 0, .slice none 0 0, .int .i64 (0), .int .i64 (0)]) st_Part z_Part (by kernel_rfl)) rfl rfl rfl ?_
 refine lwG rfl ?_
 refine cal cb_part_Check (pCheck_zero _) rfl rfl ?_
 rintro _ w9 ⟨rfl, hb⟩; replace H := H.later hb; clear hb
 refine lwG rfl ?_
 refine l1 (eqlT_r rfl rfl rfl) rfl rfl rfl ?_
 refine l1 (pkTB_r rfl rfl) rfl rfl rfl ?_
 refine l1 (asB_r rfl) rfl rfl rfl ?_
 refine lw_nil ?_
 refine cw_ret ?_
 exact fin1 (v := .bool true) rfl rfl ⟨rfl, H.below⟩
set_option maxHeartbeats 4000000 in
set_option maxRecDepth 10000 in
theorem partKept_ok (l : List Raw) (A : Option Addr) (c : Nat) (n_ few_ : Int) (w : World) (hr : Rd rawL 0 w.heap.size A l w) (hok : ∀ r ∈ l, r.ok) (hl : l.length ≤ 9223372036854775807) (ha : i64 n_) (hb : i64 few_) :
  Ret Try.prog i_tailracekeep_PartKept [.slice A l.length c, .int .i64 n_, .int .i64 few_] w fun v w2 => v = .bool true ∧ Below w.heap.size w w2 := by
 refine ret_of fn_tailracekeep_PartKept rfl rfl ?_
 have H := Hp.startRd hr
 refine cw_seq ?_
 refine cw_region ?_
 refine l1 (asB_r rfl) rfl rfl rfl ?_
 refine lw_nil ?_
 refine cw_seq ?_
 refine cw_seq ?_
 refine cw_region ?_
 refine cal cb_tailracekeep_partTells (partTells_ok _) rfl rfl ?_
 rintro _ w1 ⟨rfl, hb⟩; replace H := H.later hb; clear hb
 refine l1 (not_r rfl) rfl rfl rfl ?_
 refine lw_nil ?_
 refine cw_false rfl ?_
 refine cw_skip ?_
 refine cw_seq ?_
 refine cw_region ?_
 refine l1 (mvI_r rfl) rfl rfl rfl ?_
 refine cal cb_tailracekeep_picked (picked_ok n_ (4) _ ha.1 ha.2 (by omega) (by omega)) rfl rfl ?_
 rintro _ w2 ⟨rfl, hb⟩; replace H := H.later hb; clear hb
 have hpkk := pk_lt n_ (show 0 < 4 by omega)
 refine l1 (add_r rfl rfl (by omega) (by omega)) rfl rfl rfl ?_
 obtain ⟨k, hk, hk1, hk4⟩ : ∃ k : Nat, (1 : Int) + ((pk n_ (4) : Nat) : Int) = (k : Nat) ∧ 1 ≤ k ∧ k ≤ 4 := ⟨1 + pk n_ (4), by omega, by omega, by omega⟩
 rw [hk]
 refine l1 (asI_r rfl) rfl rfl rfl ?_
 refine lw_nil ?_
 refine cw_seq ?_
 refine cw_region ?_
 refine l1 (mvS_r rfl) rfl rfl rfl ?_
 refine l1 (mvI_r rfl) rfl rfl rfl ?_
 refine l1 (mvI_r rfl) rfl rfl rfl ?_
 refine l1 (mvI_r rfl) rfl rfl rfl ?_
 refine cal cb_tailracekeep_picked (picked_ok few_ (k) _ hb.1 hb.2 (by omega) (by omega)) rfl rfl ?_
 rintro _ w3 ⟨rfl, hb⟩; replace H := H.later hb; clear hb
 have hpkf := pk_lt few_ (show 0 < k by omega)
 refine l1 (add_r rfl rfl (by omega) (by omega)) rfl rfl rfl ?_
 obtain ⟨f, hf, hf1, hf4⟩ : ∃ f : Nat, (1 : Int) + ((pk few_ (k) : Nat) : Int) = (f : Nat) ∧ 1 ≤ f ∧ f ≤ k := ⟨1 + pk few_ (k), by omega, by omega, by omega⟩
 rw [hf]
 refine cal cb_tailracekeep_played (played_ok l A c k f 60 true _ (H.rd0 0 rfl) hok hl hk1 (by omega) hf1 hf4 (by omega)) rfl rfl ?_
 rintro _ w4 ⟨p, hs, Ahs, chs, rfl, hplp, hrdp, hrhp, ⟨hchp, hclp, hccp⟩, hrep, hbp⟩; have H0 := H; replace H := H.learn hbp (FPa w3.heap.size w4.heap.size p) hrdp (Nat.le_refl _) (Nat.le_refl _); replace H := H0.learnAlso H hrhp; replace H := H0.alsoF H (FHl w3.heap.size w4.heap.size hs) hrep (Nat.le_refl _) (Nat.le_refl _); clear hrdp hrhp hrep hbp H0
 refine l1 (mvU_r rfl) rfl rfl rfl ?_
 refine l1 (exA_r rfl rfl) rfl rfl rfl ?_
 refine l1 (exS_r rfl rfl) rfl rfl rfl ?_
 refine l1 (exB_r rfl rfl) rfl rfl rfl ?_
 refine alo H z_Part rfl ?_; intro w5 b8 H
 refine stN H 0 (#[.int .i64 (p.epoch), .int .i64 (p.leader), .slice p.iA p.isr.length p.iC, .slice p.kA p.known.length p.kC, .slice p.rA p.reps.length p.rC, .int .i64 (p.few), .int .i64 (p.base)]) siz_Part rfl rfl rfl rfl rfl (by kernel_rfl) (by kernel_rfl) ?_; intro w6 H
 refine l1 (asS_r rfl) rfl rfl rfl ?_
 refine l1 (asB_r rfl) rfl rfl rfl ?_
 refine lw_nil ?_
 refine cw_seq ?_
 refine cw_seq ?_
 obtain ⟨K, s, hgd, -, hhK⟩ := played_gd hplp (by omega) hk1 (by omega) hf1 hf4
 refine cw_region ?_
 refine l1 (mvB_r rfl) rfl rfl rfl ?_
 refine l1 (not_r rfl) rfl rfl rfl ?_
 refine l1 (mvB_r rfl) rfl rfl rfl ?_
 refine lwG rfl ?_
 refine l1 (fad_r fd_Part_1 rfl) rfl rfl rfl ?_
 refine lwG rfl ?_
 refine l1 (ld_r one_int rfl (cellE (H.ent (i := 0) rfl) rfl)) rfl rfl rfl ?_
 refine lwG rfl ?_
 refine lwD (lss_r rfl rfl) rfl rfl rfl (fun h37 => ?_) (fun h37 => ?_)
 ·
  refine l1 (pkFB_r rfl rfl) rfl rfl rfl ?_
  refine lw_nil ?_
  refine cw_true rfl ?_
  refine cw_seq ?_
  refine cw_region ?_
  refine l1 (mvB_r rfl) rfl rfl rfl ?_
  refine l1 (asB_r rfl) rfl rfl rfl ?_
  refine lw_nil ?_
  refine cw_ret ?_
  exact fin1 (v := .bool true) rfl rfl ⟨rfl, H.below⟩
 ·
  refine l1 (pkFB_r rfl rfl) rfl rfl rfl ?_
  refine lw_nil ?_
  refine cw_false rfl ?_
  refine cw_skip ?_
  refine cw_seq ?_
  have hld1 := hgd.ok.ld1
  simp only [Pa.a, List.length_map] at hld1
  obtain ⟨d, hd⟩ : ∃ d : Nat, p.leader = d := ⟨p.leader.toNat, by omega⟩
  obtain ⟨y, hy⟩ : ∃ y, p.reps[d]? = some y := ⟨_, List.getElem?_eq_getElem (by omega)⟩
  have hya : p.a.reps[d]? = some y.a := by simp [Pa.a, hy]
  obtain ⟨hkl, hke⟩ := hgd.inv.keep d y.a hya (hgd.ok.lead d y.a hd hya).1
  have hysl := (hgd.ok.at_ hya).gl.sle
  have hyln := (hgd.ok.at_ hya).gl.len
  simp only [Rep.a] at hkl hke hysl hyln
  replace H := Hp.paReps H 2 rfl
  refine cw_region ?_
  refine l1 (fad_r fd_Part_4 rfl) rfl rfl rfl ?_
  refine l1 (ld_r one_LReplica rfl (cellE (H.ent (i := 0) rfl) rfl)) rfl rfl rfl ?_
  refine l1 (fad_r fd_Part_1 rfl) rfl rfl rfl ?_
  refine l1 (ld_r one_int rfl (cellE (H.ent (i := 0) rfl) rfl)) rfl rfl rfl ?_
  refine ixF (k := d) H 0 rfl sl_LReplica rfl (congrArg (Value.int .i64) hd) (by omega) (by omega) rfl ?_; intro b7 o7 x7 e7
  obtain rfl : y = x7 := by have := e7.at_; rw [hy] at this; exact Option.some.inj this
  refine l1 (fad_r fd_Replica_1 rfl) rfl rfl rfl ?_
  refine l1 (ldA_r (xs := [.slice y.A ((flat y.es).length) y.cap, .int .i64 (((lsz y.es y.s : Nat) : Int))]) agg_Log rfl rfl (cl_sub e7.cl 1 rfl)) rfl rfl rfl ?_
  refine cal cb_seg_Entries (segEntries_at y.A y.cap y.es y.s _ (Pa.log (Hp.pa H 3 rfl) hgd.ok (i := d) hy)) rfl rfl ?_
  have hloen := H.size
  rintro _ w8 ⟨Aen, cen, rfl, hren, hcen, hben⟩; replace H := H.learnRd hben hren; clear hren hben
  refine l1 (mvU_r rfl) rfl rfl rfl ?_
  refine l1 (exS_r rfl rfl) rfl rfl rfl ?_
  refine l1 (exI_r rfl rfl) rfl rfl rfl ?_
  refine l1 (exI_r rfl rfl) rfl rfl rfl ?_
  refine l1 (asS_r rfl) rfl rfl rfl ?_
  refine l1 (asI_r rfl) rfl rfl rfl ?_
  refine l1 (asI_r rfl) rfl rfl rfl ?_
  refine lw_nil ?_
  refine cw_seq ?_
  refine cw_seq ?_
  refine cw_region ?_
  refine l1 (mvS_r rfl) rfl rfl rfl ?_
  refine l1 (lenS_r len_LLEntry rfl) rfl rfl rfl ?_
  refine l1 (mvI_r rfl) rfl rfl rfl ?_
  refine lw_nil ?_
  refine cw_block ?_
  refine cw_loop (τ := Nat) [6, 15, 54, 55, 56, 57, 58, 59, 60, 61, 62, 63, 64, 65, 66, 67, 68, 69, 70, 71, 72] (fun j => [(54, .int .i64 (j : Nat))]) (fun j w' => j ≤ hs.length ∧ Hp w w' [(b8, .cells #[.int .i64 (p.epoch), .int .i64 (p.leader), .slice p.iA p.isr.length p.iC, .slice p.kA p.known.length p.kC, .slice p.rA p.reps.length p.rC, .int .i64 (p.few), .int .i64 (p.base)] T_Part (0, 0))] [FRd entL w6.heap.size w8.heap.size Aen y.es, FRd repL w3.heap.size w4.heap.size p.rA p.reps, FHl w3.heap.size w4.heap.size hs, FRd hlL w3.heap.size w4.heap.size Ahs hs, FPa w3.heap.size w4.heap.size p, FRd rawL 0 w.heap.size A l]) (fun j => hs.length - j) 0 ⟨by omega, H⟩ (sl1 rfl) ?_
  rintro j ρ1 w9 ⟨hj, H⟩
  show CW _ _ _ _ (updL (ovr _ _ ρ1) [(54, .int .i64 (j : Nat))]) w9
  refine cw_seq ?_
  refine cw_region ?_
  refine lwD (lss_r rfl rfl) rfl rfl rfl (fun h55 => ?_) (fun h55 => ?_)
  ·
   refine lw_nil ?_
   refine cw_seq ?_
   refine cw_true rfl ?_
   refine cw_skip ?_
   refine cw_seq ?_
   refine cw_block ?_
   refine cw_seq ?_
   refine cw_region ?_
   refine ixF H 3 rfl sl_LLEntry rfl rfl (by omega) (by omega) rfl ?_; intro b10 o10 x10 e10
   have hmem := List.mem_of_getElem? e10.at_
   have hpre := hhK _ (List.mem_map_of_mem (f := Hl.es) hmem)
   refine l1 (ld_r one_LEntry rfl (e10.cl 0 _ rfl)) rfl rfl rfl ?_
   refine l1 (asS_r rfl) rfl rfl rfl ?_
   refine lw_nil ?_
   refine cw_seq ?_
   refine cw_region ?_
   refine l1 (mvS_r rfl) rfl rfl rfl ?_
   refine l1 (lenS_r len_LEntry rfl) rfl rfl rfl ?_
   refine l1 (mvS_r rfl) rfl rfl rfl ?_
   refine l1 (lenS_r len_LEntry rfl) rfl rfl rfl ?_
   refine l1 (gtrF_r rfl rfl (by have := hpre.length_le; omega)) rfl rfl rfl ?_
   refine l1 (mvB_r rfl) rfl rfl rfl ?_
   refine lwG rfl ?_
   refine l1 (mvS_r rfl) rfl rfl rfl ?_
   refine lwG rfl ?_
   refine l1 (mvS_r rfl) rfl rfl rfl ?_
   refine lwG rfl ?_
   refine l1 (mvS_r rfl) rfl rfl rfl ?_
   refine lwG rfl ?_
   refine l1 (lenS_r len_LEntry rfl) rfl rfl rfl ?_
   refine lwG rfl ?_
   refine sliHiF (k := x10.es.length) H 0 rfl sl_LEntry rfl rfl hcen (by have := hpre.length_le; omega) rfl ?_; intro A68 H
   rw [show y.es.take x10.es.length = x10.es from by rw [← List.prefix_iff_eq_take.1 (hpre.trans (by rw [← hke]; exact List.take_prefix _ _))]] at H
   refine lwG rfl ?_
   refine cal cb_slices_Equal_LEntry_Entry (eqEnt_ok x10.es x10.es _ _ _ _ _ (Hp.hl H 3 rfl hmem) (H.rd0 0 rfl) (by have := hpre.length_le; omega)) rfl rfl ?_
   rintro _ w11 ⟨rfl, hb⟩; replace H := H.later hb; clear hb
   rw [decide_eq_true rfl]
   refine lwG rfl ?_
   refine l1 (not_r rfl) rfl rfl rfl ?_
   refine l1 (pkFB_r rfl rfl) rfl rfl rfl ?_
   refine lw_nil ?_
   refine cw_false rfl ?_
   refine cw_skip ?_
   refine cw_region ?_
   refine l1 (add_r rfl rfl (by omega) (by omega)) rfl rfl rfl ?_
   refine l1 (mvI_r rfl) rfl rfl rfl ?_
   refine lw_nil ?_
   refine ⟨j + 1, ⟨by omega, H.forget (List.Sublist.refl _) (fun _ h => List.mem_cons_of_mem _ h)⟩, sl1 rfl, by repeat (first | exact Agr.refl _ _ | exact agr_ovr | refine agr_upd rfl ?_ | refine agr_updL _ rfl ?_ | refine agr_ovr2 rfl ?_), by show hs.length - (j + 1) < hs.length - j; omega⟩
  ·
   refine lw_nil ?_
   refine cw_seq ?_
   refine cw_false rfl ?_
   refine cw_exit ?_
   refine cw_seq ?_
   refine cw_region ?_
   refine l1 (mvI_r rfl) rfl rfl rfl ?_
   refine l1 (eql_r rfl rfl) rfl rfl rfl ?_
   refine l1 (asB_r rfl) rfl rfl rfl ?_
   refine lw_nil ?_
   refine cw_ret ?_
   exact fin1 rfl rfl ⟨rfl, H.below⟩
end Go.Proofs.Ytemnchkebhclpaa
