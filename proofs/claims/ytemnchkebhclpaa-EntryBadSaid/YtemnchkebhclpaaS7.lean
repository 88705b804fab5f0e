/- S7: a part of the proofs over this seat: what stands in its theorems holds for every input that they name. -/
import Derived.Test.YtemnchkebhclpaaS6
import Derived.Test.YtemnchkebhclpaaGE
namespace Go.Proofs.Ytemnchkebhclpaa
open Go Go.Eng Go.RowKit
set_option linter.unusedSimpArgs false
theorem segSync_at0 {A : Option Addr} {c k : Nat} {es : List Ent} {w : World} (hg : ∀ e ∈ es, Good e) (hl : es.length ≤ 20) (hk : k ≤ es.length) (hc : (flat (es.take k)).length ≤ c) (hr : Rd byteL 0 w.heap.size A (flat (es.take k)) w) :
    Ret Try.prog i_seg_Sync [.agg #[.slice A (flat (es.take k)).length c, .int .i64 0]] w fun v w2 => ∃ A' c', v = .tuple #[.agg #[.slice A' (flat (es.take k)).length c', .int .i64 (lsz es k : Nat)], .int .i64 0] ∧ (flat (es.take k)).length ≤ c' ∧ Rd byteL w.heap.size w2.heap.size A' (flat (es.take k)) w2 ∧ Below w.heap.size w w2 := by
  have hgt : ∀ e ∈ es.take k, Good e := fun e he => hg e (List.take_subset _ _ he)
  have hfl := flat_le (es.take k) hgt
  have hlt : (es.take k).length = k := by rw [List.length_take]; omega
  have h := segSync_ok ⟨A, c, es.take k, 0⟩ w ⟨⟨hgt, by dsimp only; omega, by dsimp only; omega, by dsimp only; omega⟩, hc, hr⟩
  dsimp only [LogR.c] at h
  rw [lsz_zero, hlt, lsz_take (Nat.le_refl _)] at h
  refine h.mono ?_
  rintro v w2 ⟨A', c', rfl, ⟨h1, h2, h3⟩, hb⟩
  exact ⟨A', c', rfl, h2, h3, hb⟩
theorem GL.mk20 {es : List Ent} {k : Nat} (hg : ∀ e ∈ es, Good e) (hl : es.length ≤ 20) (hk : k ≤ es.length) : GL es k := by
  have hfl := flat_le es hg
  exact ⟨hg, by omega, by omega, hk⟩
theorem mem134 {a b c d : Fact} : ∀ f ∈ [a, c, d], f ∈ [a, b, c, d] := by simp
set_option maxHeartbeats 4000000 in
set_option maxRecDepth 10000 in
theorem logGrows_ok (l : List Raw) (A : Option Addr) (c : Nat) (sync_ : Int) (w : World) (hr : Rd rawL 0 w.heap.size A l w) (hok : ∀ r ∈ l, r.ok) (hl : l.length ≤ 9223372036854775807) (ha : i64 sync_) :
    Ret Try.prog i_tailracekeep_LogGrows [.slice A l.length c, .int .i64 sync_] w fun v w2 => v = .bool true ∧ Below w.heap.size w w2 := by
  refine ret_of fn_tailracekeep_LogGrows rfl rfl ?_
  have H := Hp.startRd hr
  obtain ⟨ha1, ha2⟩ := ha
  refine cw_seq ?_
  refine cw_region ?_ -- region 0 low.go:111
  refine l1 (asB_r rfl) rfl rfl rfl ?_
  refine lw_nil ?_
  refine cw_seq ?_
  refine cw_region ?_ -- region 1 low.go:112
  refine l1 (mvS_r rfl) rfl rfl rfl ?_
  refine cal cb_tailracekeep_many (many_ok l 20 _ _ _ (H.rd0 0 rfl) hok hl (by decide)) rfl rfl ?_
  rintro _ w2 ⟨Aes, ces, rfl, hr1, hces, hb1⟩; replace H := H.learnRd hb1 hr1; clear hr1 hb1
  generalize hes : manyE l 20 = es at H hces ⊢
  refine l1 (asS_r rfl) rfl rfl rfl ?_
  refine lw_nil ?_
  refine cw_seq ?_
  refine cw_region ?_ -- region 2 low.go:113
  have hgood : ∀ e ∈ es, Good e := by rw [← hes]; exact manyE_good
  have hel : es.length ≤ 20 := by rw [← hes]; exact manyE_len l 20
  have hfl := flat_le es hgood
  refine l1 (mvI_r rfl) rfl rfl rfl ?_
  refine l1 (mvS_r rfl) rfl rfl rfl ?_
  refine l1 (lenS_r len_LEntry rfl) rfl rfl rfl ?_
  refine l1 (add_r rfl rfl (by omega) (by omega)) rfl rfl rfl ?_
  rw [show (es.length : Int) + 1 = ((es.length + 1 : Nat) : Int) by omega]
  refine cal cb_tailracekeep_picked (picked_ok sync_ (es.length + 1) _ (by omega) (by omega) (by omega) (by omega)) rfl rfl ?_
  rintro _ w3 ⟨rfl, hb⟩; replace H := H.later hb; clear hb
  have hkl := pk_lt sync_ (show 0 < es.length + 1 by omega)
  generalize pk sync_ (es.length + 1) = k at hkl ⊢
  refine l1 (asI_r rfl) rfl rfl rfl ?_
  refine lw_nil ?_
  refine cw_seq ?_
  refine cw_region ?_ -- region 3 low.go:114
  refine l1 (mvS_r rfl) rfl rfl rfl ?_
  refine l1 (mvI_r rfl) rfl rfl rfl ?_
  refine sliHiF (k := k) H 0 rfl sl_LEntry rfl rfl hces (by omega) rfl ?_; intro A27 H
  have hgt : ∀ e ∈ es.take k, Good e := fun e he => hgood e (List.take_subset _ _ he)
  have hlt : (es.take k).length = k := by rw [List.length_take]; omega
  have hfk := logOf_ok (es.take k) A27 ces _ (H.rd0 0 rfl) hgt (by omega)
  rw [hlt] at hfk
  refine cal cb_tailracekeep_logOf (hfk) rfl rfl ?_
  have hlo28 := H.size
  rintro _ w4 ⟨A28, c28, rfl, ⟨hgl28, hcap28, hr28⟩, hb28⟩; replace H := H.learnRd hb28 hr28; clear hr28 hb28
  refine l1 (mvU_r rfl) rfl rfl rfl ?_
  refine l1 (exA_r rfl rfl) rfl rfl rfl ?_
  refine l1 (exB_r rfl rfl) rfl rfl rfl ?_
  refine alo H z_Log rfl ?_; intro w5 b7 H
  refine stN H 0 (#[.slice A28 (flat (es.take k)).length c28, .int .i64 0]) siz_Log rfl rfl rfl rfl rfl (by kernel_rfl) (by kernel_rfl) ?_; intro w6 H
  refine l1 (asB_r rfl) rfl rfl rfl ?_
  refine lw_nil ?_
  refine cw_seq ?_
  refine cw_region ?_ -- region 4 low.go:115
  refine l1 (ldW_r agg_Log rfl (H.ent (i := 0) rfl) rfl) rfl rfl rfl ?_
  refine cal cb_seg_Sync (segSync_at0 hgood hel (by omega) hcap28 (H.rd0 0 rfl)) rfl rfl ?_
  have hlo33 := H.size
  rintro _ w7 ⟨A33, c33, rfl, hc33, hr33, hb33⟩; replace H := H.learnRd hb33 hr33; clear hr33 hb33
  refine l1 (mvU_r rfl) rfl rfl rfl ?_
  refine l1 (exA_r rfl rfl) rfl rfl rfl ?_
  refine l1 (exI_r rfl rfl) rfl rfl rfl ?_
  refine stN H 0 (#[.slice A33 (flat (es.take k)).length c33, .int .i64 (lsz es k : Nat)]) siz_Log rfl rfl rfl rfl rfl (by kernel_rfl) (by kernel_rfl) ?_; intro w8 H
  refine l1 (asI_r rfl) rfl rfl rfl ?_
  refine lw_nil ?_
  refine cw_seq ?_
  refine cw_seq ?_
  refine cw_region ?_ -- region 5 low.go:116
  refine l1 (mvS_r rfl) rfl rfl rfl ?_
  refine l1 (mvI_r rfl) rfl rfl rfl ?_
  refine sliLoF (k := k) H 3 rfl sl_LEntry rfl rfl rfl hces (by omega) rfl ?_; intro A38 H
  obtain ⟨ds, hds⟩ : ∃ ds, es.drop k = ds := ⟨_, rfl⟩
  rw [hds] at H
  have hdl : es.length - k = ds.length := by rw [← hds]; simp
  rw [hdl]
  refine l1 (lenS_r len_LEntry rfl) rfl rfl rfl ?_
  refine l1 (mvI_r rfl) rfl rfl rfl ?_
  refine lw_nil ?_
  refine cw_block ?_ -- block 0
  refine cw_loop (τ := Nat × Option Addr × Nat × Nat × Nat) [4, 11, 12, 13, 40, 41, 42, 43, 44, 45, 46, 47, 48, 49, 50, 51, 52, 53] (fun (j, A1, c1, lo, hi) => [(40, .int .i64 (j : Nat))]) (fun (j, A1, c1, lo, hi) w' => j ≤ ds.length ∧ (flat (es.take (k + j))).length ≤ c1 ∧ w.heap.size ≤ lo ∧ Hp w w' [(b7, .cells #[.slice A1 (flat (es.take (k + j))).length c1, .int .i64 (lsz es k : Nat)] T_Log (0, 0))] [FRd byteL lo hi A1 (flat (es.take (k + j))), FRd entL w.heap.size w2.heap.size A38 ds, FRd entL w.heap.size w2.heap.size Aes es]) (fun (j, _, _, _, _) => ds.length - j) (0, A33, c33, w6.heap.size, w7.heap.size) ⟨by omega, hc33, hlo33, H.forget (List.Sublist.refl _) (by simp)⟩ (sl1 rfl) ?_ -- LOOP 0
  rintro ⟨j, A1, c1, lo, hi⟩ ρ1 w9 ⟨hj, hc1, hlo, H⟩
  show CW _ _ _ _ (updL (ovr _ _ ρ1) [(40, .int .i64 (j : Nat))]) w9
  refine cw_seq ?_
  refine cw_region ?_ -- region 6 low.go:116
  refine lwD (lss_r rfl rfl) rfl rfl rfl (fun h41 => ?_) (fun h41 => ?_)
  · -- slot 41 True
    refine lw_nil ?_
    refine cw_seq ?_
    refine cw_true rfl ?_
    refine cw_skip ?_
    refine cw_seq ?_
    refine cw_block ?_ -- block 1
    refine cw_seq ?_
    refine cw_region ?_ -- region 7 low.go:116
    refine ixF H 1 rfl sl_LEntry rfl rfl (by omega) (by omega) rfl ?_; intro b10 o10 x10 e10
    have hxk : es[k + j]? = some x10 := by have := e10.at_; rwa [← hds, List.getElem?_drop] at this
    refine l1 (ldA_r (xs := Ent.c x10) agg_Entry rfl rfl e10.cl) rfl rfl rfl ?_
    refine alo H z_Entry rfl ?_; intro w11 b11 H
    refine stW H 0 siz_Entry rfl rfl rfl rfl rfl rfl ?_; intro w12 H
    refine lw_nil ?_
    refine cw_seq ?_
    refine cw_region ?_ -- region 8 low.go:117
    refine l1 (ldW_r agg_Log rfl (H.ent (i := 1) rfl) rfl) rfl rfl rfl ?_
    refine l1 (ldW_r agg_Entry rfl (H.ent (i := 0) rfl) rfl) rfl rfl rfl ?_
    refine cal cb_seg_Append (segAppend_step (s := k) hxk hgood hel (by omega) hc1 (H.rd0 0 rfl)) rfl rfl ?_
    have hlo3 := H.size
    rintro _ w13 ⟨A3, c3, rfl, hc3, hr3, hb3⟩; replace H := H.learnRd hb3 hr3; clear hr3 hb3
    refine l1 (mvU_r rfl) rfl rfl rfl ?_
    refine l1 (exA_r rfl rfl) rfl rfl rfl ?_
    refine l1 (exI_r rfl rfl) rfl rfl rfl ?_
    refine alo H z_Log rfl ?_; intro w14 b12 H
    refine stN H 0 (#[.slice A3 (flat (es.take (k + j + 1))).length c3, .int .i64 (lsz es k : Nat)]) siz_Log rfl rfl rfl rfl rfl (by kernel_rfl) (by kernel_rfl) ?_; intro w15 H
    refine l1 (asI_r rfl) rfl rfl rfl ?_
    refine lw_nil ?_
    refine cw_seq ?_
    refine cw_seq ?_
    refine cw_region ?_ -- region 9 low.go:118
    refine l1 (mvI_r rfl) rfl rfl rfl ?_
    refine l1 (neqF_r rfl rfl rfl) rfl rfl rfl ?_
    refine lw_nil ?_
    refine cw_false rfl ?_
    refine cw_skip ?_
    refine cw_region ?_ -- region 11 low.go:121
    refine l1 (ldW_r agg_Log rfl (H.ent (i := 0) rfl) rfl) rfl rfl rfl ?_
    refine stN H 2 (#[.slice A3 (flat (es.take (k + j + 1))).length c3, .int .i64 (lsz es k : Nat)]) siz_Log rfl rfl rfl rfl rfl (by kernel_rfl) (by kernel_rfl) ?_; intro w16 H
    refine lw_nil ?_
    refine cw_region ?_ -- region 12 low.go:116
    refine l1 (add_r rfl rfl (by omega) (by omega)) rfl rfl rfl ?_
    refine l1 (mvI_r rfl) rfl rfl rfl ?_
    refine lw_nil ?_
    refine ⟨(j + 1, A3, c3, _, _), ⟨by omega, hc3, hlo3, H.forget (.cons _ (.cons _ (List.Sublist.refl _))) mem134⟩, sl1 rfl, by repeat (first | exact Agr.refl _ _ | exact agr_ovr | refine agr_upd rfl ?_ | refine agr_updL _ rfl ?_ | refine agr_ovr2 rfl ?_), by show ds.length - (j + 1) < ds.length - j; omega⟩
  · -- slot 41 False
    have hke : k + j = es.length := by omega
    rw [hke, List.take_length] at H hc1
    refine lw_nil ?_
    refine cw_seq ?_
    refine cw_false rfl ?_
    refine cw_exit ?_ -- 0
    refine cw_seq ?_
    refine cw_region ?_ -- region 13 low.go:123
    refine l1 (ldW_r agg_Log rfl (H.ent (i := 0) rfl) rfl) rfl rfl rfl ?_
    refine cal cb_seg_Entries (segEntries_at A1 c1 es k _ ⟨GL.mk20 hgood hel (show k ≤ es.length by omega), hc1, H.rd0 0 rfl⟩) rfl rfl ?_
    rintro _ w17 ⟨A56, c56, rfl, hr56, hc56, hb56⟩; replace H := H.learnRd hb56 hr56; clear hr56 hb56
    refine l1 (mvU_r rfl) rfl rfl rfl ?_
    refine l1 (exS_r rfl rfl) rfl rfl rfl ?_
    refine l1 (exI_r rfl rfl) rfl rfl rfl ?_
    refine l1 (exI_r rfl rfl) rfl rfl rfl ?_
    refine l1 (asS_r rfl) rfl rfl rfl ?_
    refine l1 (asI_r rfl) rfl rfl rfl ?_
    refine l1 (asI_r rfl) rfl rfl rfl ?_
    refine lw_nil ?_
    refine cw_seq ?_
    refine cw_region ?_ -- region 14 low.go:124
    refine l1 (mvB_r rfl) rfl rfl rfl ?_
    refine l1 (mvB_r rfl) rfl rfl rfl ?_
    refine lwG rfl ?_
    refine l1 (mvI_r rfl) rfl rfl rfl ?_
    refine lwG rfl ?_
    refine l1 (eqlT_r rfl rfl rfl) rfl rfl rfl ?_
    refine l1 (pkTB_r rfl rfl) rfl rfl rfl ?_
    refine l1 (mvB_r rfl) rfl rfl rfl ?_
    refine lwG rfl ?_
    refine l1 (mvI_r rfl) rfl rfl rfl ?_
    refine lwG rfl ?_
    refine l1 (eqlT_r rfl rfl rfl) rfl rfl rfl ?_
    refine l1 (pkTB_r rfl rfl) rfl rfl rfl ?_
    refine l1 (mvB_r rfl) rfl rfl rfl ?_
    refine lwG rfl ?_
    refine l1 (mvI_r rfl) rfl rfl rfl ?_
    refine lwG rfl ?_
    refine l1 (mvI_r rfl) rfl rfl rfl ?_
    refine lwG rfl ?_
    refine l1 (eqlT_r rfl rfl rfl) rfl rfl rfl ?_
    refine l1 (pkTB_r rfl rfl) rfl rfl rfl ?_
    refine l1 (mvB_r rfl) rfl rfl rfl ?_
    refine lwG rfl ?_
    refine l1 (mvS_r rfl) rfl rfl rfl ?_
    refine lwG rfl ?_
    refine l1 (mvS_r rfl) rfl rfl rfl ?_
    refine lwG rfl ?_
    refine cal cb_slices_Equal_LEntry_Entry (eqEnt_ok es es _ _ _ _ _ (H.rd0 0 rfl) (H.rd0 3 rfl) (by omega)) rfl rfl ?_
    rintro _ w18 ⟨rfl, hb⟩; replace H := H.later hb; clear hb
    rw [decide_eq_true rfl]
    refine l1 (pkTB_r rfl rfl) rfl rfl rfl ?_
    refine l1 (mvB_r rfl) rfl rfl rfl ?_
    refine lwG rfl ?_
    refine l1 (ldW_r agg_Log rfl (H.ent (i := 0) rfl) rfl) rfl rfl rfl ?_
    refine lwG rfl ?_
    refine cal cb_seg_Check (segCheck_at A1 c1 es k _ ⟨GL.mk20 hgood hel (show k ≤ es.length by omega), hc1, H.rd0 1 rfl⟩) rfl rfl ?_
    rintro _ w19 ⟨rfl, hb⟩; replace H := H.later hb; clear hb
    refine lwG rfl ?_
    refine l1 (eqlT_r rfl rfl rfl) rfl rfl rfl ?_
    refine l1 (pkTB_r rfl rfl) rfl rfl rfl ?_
    refine l1 (asB_r rfl) rfl rfl rfl ?_
    refine lw_nil ?_
    refine cw_ret ?_
    exact fin1 (v := .bool true) rfl rfl ⟨rfl, H.below⟩
end Go.Proofs.Ytemnchkebhclpaa
