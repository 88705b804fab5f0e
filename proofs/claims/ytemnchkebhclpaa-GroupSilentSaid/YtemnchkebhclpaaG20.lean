/- G20: a part of the proofs over this seat: what stands in its theorems holds for every input that they name. -/
import Derived.Test.YtemnchkebhclpaaG0B
import Derived.Test.YtemnchkebhclpaaC30e
import Derived.Test.YtemnchkebhclpaaEngZ
open Go.Eng renaming lw_nil → Zn, cw_seq → Zs, cw_region → Zr, cw_skip → Zk, cw_ret → Zt, cw_block → Zb, cw_exit → Zx, mvI_r → Yi, mvB_r → Yb, mvS_r → Ys, mvP_r → Yp, mvT_r → Yt, mvU_r → Yu, mvA_r → Ya, asI_r → Wi, asB_r → Wb, asS_r → Ws, asP_r → Wp, asT_r → Wt, fad_r → Zf, exI_r → Xi, exA_r → Xa, exB_r → Xb, exS_r → Xs, pkTB_r → Kt, pkFB_r → Kf, cw_true → ZT, cw_false → ZF
namespace Go.Proofs.Ytemnchkebhclpaa
open Go Go.Eng Go.RowKit
set_option linter.unusedSimpArgs false
abbrev na : ByteArray := ⟨#[97]⟩
abbrev nb : ByteArray := ⟨#[98]⟩
def gs1 (k : Nat) : Gr := ⟨0, k, 1, [⟨na, 0, [0, 1], none, 0, 0, 0⟩], none, 0, [], none, 0⟩
def gs2 (k t : Nat) : Gr := ⟨t, k, 2, [⟨na, 0, [0], none, 0, 0, 0⟩, ⟨nb, 0, [1], none, 0, 0, 0⟩], none, 0, [], none, 0⟩
def gs3 (k t : Nat) : Gr := ⟨t, k, 2, [⟨na, t, [0], none, 0, 0, 0⟩, ⟨nb, 0, [1], none, 0, 0, 0⟩], none, 0, [], none, 0⟩
def gs4 (k t : Nat) : Gr := if t = 0 then ⟨k, k, 3, [], none, 0, [], none, 0⟩ else ⟨k, k, 3, [⟨na, t, [0, 1], none, 0, 0, 0⟩], none, 0, [], none, 0⟩
theorem gs_join1 (k : Nat) : joinS (gr0 k) na 2 = (gs1 k, 0) := by kernel_rfl
theorem gs_join2 (k : Nat) : joinS (gs1 k) nb 2 = (gs2 k 0, 0) := by kernel_rfl
theorem gs_tick1 {k t : Nat} (h : t < k) : tickG (gs2 k 0) t 2 = gs2 k t := by
 have h1 : ∀ m ∈ (gs2 k 0).ms, (!silent (gs2 k 0) t m) = true := by
  intro m hm
  have : m.heard = 0 := by
   simp only [gs2, List.mem_cons, List.mem_nil_iff, or_false] at hm
   rcases hm with rfl | rfl <;> rfl
  unfold silent
  rw [this]
  simp only [gs2, Bool.not_eq_true']
  exact decide_eq_false (by omega)
 unfold tickG
 rw [List.filter_eq_self.2 h1, if_pos rfl]
 unfold gs2
 simp
theorem gs_beat (k t : Nat) : beatS (gs2 k t) na 2 = (gs3 k t, 0) := by kernel_rfl
theorem gs_asg0 (k : Nat) : asgG ⟨k, k, 2, [], none, 0, [], none, 0⟩ 2 = ⟨k, k, 3, [], none, 0, [], none, 0⟩ := by kernel_rfl
theorem gs_asg1 (k t : Nat) : asgG ⟨k, k, 2, [⟨na, t, [0], none, 0, 0, 0⟩], none, 0, [], none, 0⟩ 2 = ⟨k, k, 3, [⟨na, t, [0, 1], none, 0, 0, 0⟩], none, 0, [], none, 0⟩ := by kernel_rfl
theorem gs_tick2 {k t : Nat} : tickG (gs3 k t) ((k : Int) - t) 2 = gs4 k t := by
 have hb : silent (gs3 k t) ((k : Int) - t) ⟨nb, 0, [1], none, 0, 0, 0⟩ = true := by
  unfold silent gs3
  simp only [decide_eq_true_eq]
  omega
 have ha : silent (gs3 k t) ((k : Int) - t) ⟨na, t, [0], none, 0, 0, 0⟩ = decide (t = 0) := by
  unfold silent gs3
  dsimp only
  rw [decide_eq_decide]
  omega
 have hf : ((gs3 k t).ms.filter fun m => !silent (gs3 k t) ((k : Int) - t) m) = if t = 0 then [] else [⟨na, t, [0], none, 0, 0, 0⟩] := by
  show List.filter _ [_, _] = _
  by_cases h0 : t = 0
  ·
   rw [if_pos h0, List.filter_cons_of_neg (by rw [ha, decide_eq_true h0]; decide), List.filter_cons_of_neg (by rw [hb]; decide)]; rfl
  ·
   rw [if_neg h0, List.filter_cons_of_pos (by rw [ha, decide_eq_false h0]; decide), List.filter_cons_of_neg (by rw [hb]; decide)]; rfl
 unfold tickG
 rw [hf]
 have hc : (gs3 k t).clock + ((k : Int) - t) = k := by unfold gs3; dsimp only; omega
 rw [hc]
 unfold gs4
 by_cases h0 : t = 0
 ·
  rw [if_pos h0, if_pos h0, if_neg (show ¬ ([] : List Mem).length = (gs3 k t).ms.length by simp [gs3])]; exact gs_asg0 k
 ·
  rw [if_neg h0, if_neg h0, if_neg (show ¬ ([_] : List Mem).length = (gs3 k t).ms.length by simp [gs3])]; exact gs_asg1 k t
theorem row01 : Row intL [0, 1] 2 #[.int .i64 0, .int .i64 1] := ⟨by decide, by kernel_rfl, by decide, by decide⟩
theorem gr0_I {k : Nat} (h1 : 1 ≤ k) (h2 : k ≤ 1000) : GrI (fun _ => True) k 2 0 (gr0 k) := newGr_I _ _ (by omega) (by omega)
set_option maxHeartbeats 4000000 in
set_option maxRecDepth 10000 in
theorem groupSilent_ok (k_ n_ : Int) (w : World) (hk : i64 k_) (hn : i64 n_) : Ret Try.prog i_tailracekeep_GroupSilent [.int .i64 k_, .int .i64 n_] w fun v w2 => v = .bool true ∧ Below w.heap.size w w2 := by
 refine ret_of fn_tailracekeep_GroupSilent rfl rfl ?_
 have H := Hp.start w
 refine Zs<|Zr<|Zl (Wb rfl)<|Zn<|Zs<|Zr<|Zl (Yi rfl)<|cal cb_tailracekeep_picked (picked_ok k_ (30) _ hk.1 hk.2 (by omega) (by omega)) rfl rfl ?_
 rintro _ w1 ⟨rfl, hb⟩; replace H := H.later hb; clear hb
 have hpkk := pk_lt k_ (show 0 < 30 by omega)
 refine Zl (add_r rfl rfl (by omega) (by omega)) ?_
 obtain ⟨k, hk, hk1, hk4⟩ : ∃ k : Nat, (2 : Int) + ((pk k_ (30) : Nat) : Int) = (k : Nat) ∧ 2 ≤ k ∧ k ≤ 30 + 1 := ⟨2 + pk k_ (30), by omega, by omega, by omega⟩
 rw [hk]
 refine Zl (Wi rfl)<|Zn<|Zs<|Zr<|Zl (Yi rfl)<|Zl (Yi rfl)<|cal cb_tailracekeep_picked (picked_ok n_ (k : Nat) _ hn.1 hn.2 (by omega) (by omega)) rfl rfl ?_
 rintro _ w2 ⟨rfl, hb⟩; replace H := H.later hb; clear hb
 have hpt := pk_lt n_ (show 0 < k by omega)
 obtain ⟨t, htd⟩ : ∃ t, pk n_ k = t := ⟨_, rfl⟩
 rw [htd] at hpt ⊢
 refine Zl (Wi rfl)<|Zn<|Zs ?_
 have hi0 := gr0_I (k := k) (by omega) (by omega)
 refine Zr<|Zl (Yi rfl)<|cal cb_group_New (gNew_ok (k : Nat) _ (by omega) (by omega)) rfl rfl ?_
 rintro _ w3 ⟨rfl, hb⟩; replace H := H.later hb; clear hb
 refine Zl (Yu rfl)<|Zl (Xa rfl rfl)<|Zl (Xi rfl rfl)<|alo H z_Group rfl fun w4 b7 H =>stN H 0 (#[.int .i64 (0), .int .i64 (((k : Nat) : Int)), .int .i64 (0), .slice none 0 0, .slice none 0 0]) siz_Group rfl rfl rfl rfl rfl (by kernel_rfl) (by kernel_rfl) fun w5 H =>Zl (Wi rfl)<|Zn<|Zs<|Zr<|Zl (Zw agg_Group H 0 rfl rfl rfl)<|cal cb_group_Join (joinSc_ok (gr0 k) na 2 _ (gr0_rd k _) hi0.ok (by kernel_rfl) (by omega) (by show (0 : Int) < 1073741824; decide)) rfl rfl ?_
 have hi1 := hi0.join (s := na) (by omega) (by omega) (by kernel_rfl) trivial (by rw [gs_join1])
 rintro _ w6 ⟨p1, rfl, hap1, hnp1⟩; replace H := H.learn hnp1.2 (FGr w5.heap.size w6.heap.size p1) hnp1.1 (Nat.le_refl _) (Nat.le_refl _); clear hnp1
 rw [show (gr0 k).a = gr0 k from rfl, gs_join1] at hap1 ⊢
 rw [gs_join1] at hi1
 replace hi1 : GrI (fun _ => True) k 2 1 p1 := GrI.of_a (hap1 ▸ hi1)
 have hg1 := hi1.gen
 refine Zl (Yu rfl)<|Zl (Xa rfl rfl)<|Zl (Xi rfl rfl)<|stN H 0 (#[.int .i64 (p1.clock), .int .i64 (p1.wait), .int .i64 (p1.gen), .slice p1.mA p1.ms.length p1.mC, .slice p1.oA p1.os.length p1.oC]) siz_Group rfl rfl rfl rfl rfl (by kernel_rfl) (by kernel_rfl) fun w7 H =>Zl (Wi rfl)<|Zn<|Zs<|Zr<|Zl (Zw agg_Group H 0 rfl rfl rfl)<|cal cb_group_Join (joinSc_ok p1 nb 2 _ (Hp.gr H 0 rfl) hi1.ok (by kernel_rfl) (by omega) (by omega)) rfl rfl ?_
 have hi2 := hi1.a.join (s := nb) (by omega) (by omega) (by kernel_rfl) trivial (by rw [hap1, gs_join2])
 rintro _ w8 ⟨p2, rfl, hap2, hnp2⟩; replace H := H.learn hnp2.2 (FGr w7.heap.size w8.heap.size p2) hnp2.1 (Nat.le_refl _) (Nat.le_refl _); clear hnp2
 rw [hap1, gs_join2] at hap2 hi2
 rw [hap1, gs_join2]
 replace hi2 : GrI (fun _ => True) k 2 2 p2 := GrI.of_a (hap2 ▸ hi2)
 have hg2 := hi2.gen
 have hc2 := hi2.clock
 refine Zl (Yu rfl)<|Zl (Xa rfl rfl)<|Zl (Xi rfl rfl)<|stN H 0 (#[.int .i64 (p2.clock), .int .i64 (p2.wait), .int .i64 (p2.gen), .slice p2.mA p2.ms.length p2.mC, .slice p2.oA p2.os.length p2.oC]) siz_Group rfl rfl rfl rfl rfl (by kernel_rfl) (by kernel_rfl) fun w9 H =>Zl (Wi rfl)<|Zn<|Zs<|Zr<|Zl (Zw agg_Group H 0 rfl rfl rfl)<|Zl (Yi rfl)<|cal cb_group_Tick (gtickSc_ok p2 (t : Nat) 2 _ (Hp.gr H 0 rfl) hi2.ok (by omega) (by omega) (by omega) (by omega) (by omega)) rfl rfl ?_
 have hi3 := hi2.a.tick (n := (t : Nat)) (by omega) (by omega) (by omega) (by omega)
 rintro _ w10 ⟨p3, rfl, hap3, hnp3⟩; replace H := H.learn hnp3.2 (FGr w9.heap.size w10.heap.size p3) hnp3.1 (Nat.le_refl _) (Nat.le_refl _); clear hnp3
 unfold gtickS at hap3
 rw [hap2] at hap3 hi3
 dsimp only at hap3 hi3
 rw [gs_tick1 hpt] at hap3 hi3
 replace hi3 : GrI (fun _ => True) k 2 3 p3 := GrI.of_a (hap3 ▸ hi3)
 have hg3 := hi3.gen
 have hc3 := hi3.clock
 refine Zl (Yu rfl)<|Zl (Xa rfl rfl)<|Zl (Xi rfl rfl)<|stN H 0 (#[.int .i64 (p3.clock), .int .i64 (p3.wait), .int .i64 (p3.gen), .slice p3.mA p3.ms.length p3.mC, .slice p3.oA p3.os.length p3.oC]) siz_Group rfl rfl rfl rfl rfl (by kernel_rfl) (by kernel_rfl) fun w11 H =>Zl (Wi rfl)<|Zn<|Zs<|Zr<|Zl (Zw agg_Group H 0 rfl rfl rfl)<|cal cb_group_Beat (beatSc_ok p3 na 2 _ (Hp.gr H 0 rfl) hi3.ok (by kernel_rfl)) rfl rfl ?_
 have hi4 := hi3.a.beat (s := na) (gn := 2) (by rw [hap3, gs_beat])
 rintro _ w12 ⟨p4, rfl, hap4, hnp4⟩; replace H := H.learn hnp4.2 (FGr w11.heap.size w12.heap.size p4) hnp4.1 (Nat.le_refl _) (Nat.le_refl _); clear hnp4
 rw [hap3, gs_beat] at hap4 hi4
 rw [hap3, gs_beat]
 dsimp only at hap4
 replace hi4 : GrI (fun _ => True) k 2 4 p4 := GrI.of_a (hap4 ▸ hi4)
 have hg4 := hi4.gen
 have hc4 := hi4.clock
 refine Zl (Yu rfl)<|Zl (Xa rfl rfl)<|Zl (Xi rfl rfl)<|stN H 0 (#[.int .i64 (p4.clock), .int .i64 (p4.wait), .int .i64 (p4.gen), .slice p4.mA p4.ms.length p4.mC, .slice p4.oA p4.os.length p4.oC]) siz_Group rfl rfl rfl rfl rfl (by kernel_rfl) (by kernel_rfl) fun w13 H =>Zl (Wi rfl)<|Zn<|Zs<|Zr<|Zl (Zw agg_Group H 0 rfl rfl rfl)<|Zl (Yi rfl)<|Zl (Yi rfl)<|Zl (sub_r rfl rfl (by omega) (by omega))<|cal cb_group_Tick (gtickSc_ok p4 ((k : Int) - t) 2 _ (Hp.gr H 0 rfl) hi4.ok (by omega) (by omega) (by omega) (by omega) (by omega)) rfl rfl ?_
 rintro _ w14 ⟨p5, rfl, hap5, hnp5⟩; replace H := H.learn hnp5.2 (FGr w13.heap.size w14.heap.size p5) hnp5.1 (Nat.le_refl _) (Nat.le_refl _); clear hnp5; replace H := Hp.grRow H 0 rfl
 unfold gtickS at hap5
 rw [hap4] at hap5
 dsimp only at hap5
 rw [gs_tick2] at hap5
 have hln := len_of_a hap5
 have hgn : p5.gen = (gs4 k t).gen := by rw [← hap5]; rfl
 unfold gs4 at hln hgn
 refine Zl (Yu rfl)<|Zl (Xa rfl rfl)<|Zl (Xi rfl rfl)<|alo H z_Group rfl fun w15 b13 H =>stN H 0 (#[.int .i64 (p5.clock), .int .i64 (p5.wait), .int .i64 (p5.gen), .slice p5.mA p5.ms.length p5.mC, .slice p5.oA p5.os.length p5.oC]) siz_Group rfl rfl rfl rfl rfl (by kernel_rfl) (by kernel_rfl) fun w16 H =>Zl (Wi rfl)<|Zn<|Zs<|Zs<|Zr<|Zl (Yi rfl)<|Zl (neqF_r rfl rfl rfl)<|Zl (Yb rfl)<|ZG ?_
 refine Zl (Yi rfl)<|ZG<|Zl (neqF_r rfl rfl rfl)<|Zl (Kf rfl rfl)<|Zl (Yb rfl)<|ZG<|Zl (Yi rfl)<|ZG<|Zl (neqF_r rfl rfl rfl)<|Zl (Kf rfl rfl)<|Zl (Yb rfl)<|ZG<|Zl (Yi rfl)<|ZG ?_
 refine Zl (neqF_r rfl rfl rfl)<|Zl (Kf rfl rfl)<|Zl (Yb rfl)<|ZG<|Zl (Yi rfl)<|ZG<|Zl (neqF_r rfl rfl rfl)<|Zl (Kf rfl rfl)<|Zl (Yb rfl)<|ZG<|Zl (Yi rfl)<|ZG<|Zl (neqF_r rfl rfl rfl)<|Zl (Kf rfl rfl) ?_
 refine Zn<|ZF rfl<|Zk<|Zs<|Zs<|Zr<|Zl (Yi rfl) ?_
 refine lwD (eql_r rfl rfl) rfl rfl rfl (fun h78 => ?_) (fun h78 => ?_)
 ·
  have ht0 : t = 0 := by omega
  rw [if_pos ht0] at hln hgn
  dsimp only [List.length_nil] at hln hgn
  refine Zn<|ZT rfl<|Zs<|Zr<|Zl (Zf fd_Group_3 rfl)<|Zl (Zd one_LMember H 0 rfl rfl rfl)<|Zl (lenS_r len_LMember rfl)<|Zl (eqlT_r rfl rfl (by omega))<|Zl (Yb rfl)<|ZG<|Zl (Zf fd_Group_2 rfl)<|ZG<|Zl (Zd one_int H 0 rfl rfl rfl)<|ZG ?_
  refine Zl (eqlT_r rfl rfl hgn)<|Zl (Kt rfl rfl)<|Zl (Wb rfl)<|Zn<|Zt ?_
  exact fin1 (v := .bool true) rfl rfl ⟨rfl, H.below⟩
 ·
  have ht0 : ¬ t = 0 := by omega
  rw [if_neg ht0] at hln hgn
  dsimp only [List.length_cons, List.length_nil] at hln hgn
  obtain ⟨x, hx⟩ : ∃ x, p5.ms[0]? = some x := ⟨_, List.getElem?_eq_getElem (by omega)⟩
  have hx1 := List.mem_of_getElem? hx
  have hxa : x.a = ⟨na, t, [0, 1], none, 0, 0, 0⟩ := by have := congrArg (fun g : Gr => g.ms[0]?) hap5; unfold gs4 at this; rw [if_neg ht0] at this; simpa [Gr.a, hx] using this
  have hxn : x.name = na := congrArg Mem.name hxa
  have hxp : x.parts = [0, 1] := congrArg Mem.parts hxa
  refine Zn<|ZF rfl<|Zk<|Zs<|Zr<|Zl (Zf fd_Group_3 rfl)<|Zl (Zd one_LMember H 0 rfl rfl rfl)<|Zl (lenS_r len_LMember rfl)<|Zl (eqlT_r rfl rfl (by omega))<|Zl (Yb rfl)<|ZG<|Zl (Zf fd_Group_3 rfl)<|ZG<|Zl (Zd one_LMember H 0 rfl rfl rfl) ?_
  refine ZG<|ixF (k := 0) H 0 rfl sl_LMember rfl rfl (by omega) (by omega) rfl fun bq17 o17 x17 e17 => ?_
  obtain rfl : x = x17 := by have := e17.at_; rw [hx] at this; exact Option.some.inj this
  refine ZG<|Zl (Zf fd_Member_0 rfl)<|ZG<|Zl (ld_r one_string rfl (e17.cl 0 _ rfl))<|ZG<|Zl (seqlT_r rfl rfl (by rw [hxn]))<|Zl (Kt rfl rfl)<|Zl (Yb rfl)<|ZG<|Zl (Zf fd_Group_2 rfl)<|ZG<|Zl (Zd one_int H 0 rfl rfl rfl)<|ZG<|Zl (eqlT_r rfl rfl hgn) ?_
  refine Zl (Kt rfl rfl)<|Zl (Yb rfl)<|ZG<|Zl (Zf fd_Group_3 rfl)<|ZG<|Zl (Zd one_LMember H 0 rfl rfl rfl)<|ZG<|ixF (k := 0) H 0 rfl sl_LMember rfl rfl (by omega) (by omega) rfl fun bq18 o18 x18 e18 => ?_
  obtain rfl : x = x18 := by have := e18.at_; rw [hx] at this; exact Option.some.inj this
  refine ZG<|Zl (Zf fd_Member_2 rfl)<|ZG<|Zl (ld_r one_Lint rfl (e18.cl 2 _ rfl))<|ZG<|bsv (vs := [.int .i64 (0), .int .i64 (1)]) H sl_Lint z_int rfl rfl rfl rfl rfl rfl fun w19 b111 H =>ZG<|cal cb_slices_Equal_Lint_int (eq_int_ok x.parts [0, 1] _ _ _ _ _ (Rd.mono ((Hp.gr H 1 rfl).parts x hx1) (Nat.le_refl _) (Nat.le_refl _)) (Row.rd0 row01 (H.ent (i := 0) rfl)) (by rw [hxp]; decide)) rfl rfl ?_
  rintro _ w20 ⟨rfl, hb⟩; replace H := H.later hb; clear hb
  rw [hxp, decide_eq_true rfl]
  refine Zl (Kt rfl rfl)<|Zl (Wb rfl)<|Zn<|Zt ?_
  exact fin1 (v := .bool true) rfl rfl ⟨rfl, H.below⟩
end Go.Proofs.Ytemnchkebhclpaa
