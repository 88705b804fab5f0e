/- S9: a part of the proofs over this seat: what stands in its theorems holds for every input that they name. -/
import Derived.Test.YtemnchkebhclpaaS8
namespace Go.Proofs.Ytemnchkebhclpaa
open Go Go.Eng Go.RowKit
set_option linter.unusedSimpArgs false
theorem segCut_at0 {A : Option Addr} {c k : Nat} {es : List Ent} {w : World} (hg : ∀ e ∈ es, Good e) (hl : es.length ≤ 20) (hk : k ≤ es.length) (hc : (flat es).length ≤ c) (hr : Rd byteL 0 w.heap.size A (flat es) w) :
    Ret Try.prog i_seg_Cut [.agg #[.slice A (flat es).length c, .int .i64 0], .int .i64 (k : Nat)] w fun v w2 => ∃ A' c', v = .tuple #[.agg #[.slice A' (flat (es.take k)).length c', .int .i64 0], .int .i64 0] ∧ (flat (es.take k)).length ≤ c' ∧ Rd byteL w.heap.size w2.heap.size A' (flat (es.take k)) w2 ∧ Below w.heap.size w w2 := by
  have h := segCut_ok ⟨A, c, es, 0⟩ k w ⟨GL.mk20 hg hl (Nat.zero_le _), hc, hr⟩ hk
  dsimp only [LogR.c] at h
  rw [Nat.zero_min, lsz_zero, lsz_zero] at h
  refine h.mono ?_
  rintro v w2 ⟨A', c', rfl, ⟨h1, h2, h3⟩, hb⟩
  exact ⟨A', c', rfl, h2, h3, hb⟩
theorem segCut_bad0 {A : Option Addr} {c : Nat} {n : Int} {es : List Ent} {w : World} (hg : ∀ e ∈ es, Good e) (hl : es.length ≤ 20) (hn : (es.length : Int) < n) (hc : (flat es).length ≤ c) (hr : Rd byteL 0 w.heap.size A (flat es) w) :
    Ret Try.prog i_seg_Cut [.agg #[.slice A (flat es).length c, .int .i64 0], .int .i64 n] w fun v w2 => v = .tuple #[.agg #[.slice none 0 0, .int .i64 0], .int .i64 2] ∧ Below w.heap.size w w2 := by
  have h := segCut_bad ⟨A, c, es, 0⟩ n w ⟨GL.mk20 hg hl (Nat.zero_le _), hc, hr⟩ (.inr hn)
  dsimp only [LogR.c] at h
  rw [lsz_zero] at h
  exact h
theorem segAppend_at0 {A : Option Addr} {c : Nat} {es : List Ent} {x : Ent} {w : World} (hg : ∀ e ∈ es, Good e) (hl : es.length ≤ 20) (hx : Good x) (hc : (flat es).length ≤ c) (hr : Rd byteL 0 w.heap.size A (flat es) w) :
    Ret Try.prog i_seg_Append [.agg #[.slice A (flat es).length c, .int .i64 0], x.v] w fun v w2 => ∃ A' c', v = .tuple #[.agg #[.slice A' (flat (es ++ [x])).length c', .int .i64 0], .int .i64 0] ∧ (flat (es ++ [x])).length ≤ c' ∧ Rd byteL w.heap.size w2.heap.size A' (flat (es ++ [x])) w2 ∧ Below w.heap.size w w2 := by
  have hfl := flat_le es hg
  have hel := encB_le hx
  have h := segAppend_ok ⟨A, c, es, 0⟩ x w ⟨GL.mk20 hg hl (Nat.zero_le _), hc, hr⟩ hx (by dsimp only [full]; omega)
  dsimp only [LogR.c] at h
  rw [lsz_zero, lsz_zero] at h
  refine h.mono ?_
  rintro v w2 ⟨A', c', rfl, ⟨h1, h2, h3⟩, hb⟩
  exact ⟨A', c', rfl, h2, h3, hb⟩
theorem segEntries_at0 {A : Option Addr} {c : Nat} {es : List Ent} {w : World} (h : GL es 0) (hc : (flat es).length ≤ c) (hr : Rd byteL 0 w.heap.size A (flat es) w) :
    Ret Try.prog i_seg_Entries [.agg #[.slice A (flat es).length c, .int .i64 0]] w fun v w2 => ∃ A' c', v = .tuple #[.slice A' es.length c', .int .i64 0, .int .i64 0] ∧ Rd entL w.heap.size w2.heap.size A' es w2 ∧ es.length ≤ c' ∧ Below w.heap.size w w2 := by
  have h := segEntries_at A c es 0 w ⟨h, hc, hr⟩
  rw [lsz_zero] at h
  exact h
theorem GL.mk21 {es : List Ent} (hg : ∀ e ∈ es, Good e) (hl : es.length ≤ 21) : GL es 0 := by
  have hfl := flat_le es hg
  exact ⟨hg, by omega, by omega, by omega⟩
set_option maxHeartbeats 4000000 in
set_option maxRecDepth 10000 in
theorem logCuts_ok (l : List Raw) (A : Option Addr) (c : Nat) (n_ : Int) (r : Raw) (w : World) (hr : Rd rawL 0 w.heap.size A l w) (hok : ∀ r ∈ l, r.ok) (hl : l.length ≤ 9223372036854775807) (ha : i64 n_) (hok2 : r.ok) :
    Ret Try.prog i_tailracekeep_LogCuts [.slice A l.length c, .int .i64 n_, .agg r.cs.toArray] w fun v w2 => v = .bool true ∧ Below w.heap.size w w2 := by
  refine ret_of fn_tailracekeep_LogCuts rfl rfl ?_
  have H := Hp.startRd hr
  obtain ⟨ha1, ha2⟩ := ha
  have hgr := entry_good r
  refine cw_seq ?_
  refine cw_region ?_ -- region 0 low.go:144
  refine bxA H rfl rfl ?_; intro w1 b5 H
  refine l1 (asB_r rfl) rfl rfl rfl ?_
  refine lw_nil ?_
  refine cw_seq ?_
  refine cw_region ?_ -- region 1 low.go:145
  refine l1 (mvS_r rfl) rfl rfl rfl ?_
  refine cal cb_tailracekeep_many (many_ok l 20 _ _ _ (H.rd0 0 rfl) hok hl (by decide)) rfl rfl ?_
  rintro _ w3 ⟨Aes, ces, rfl, hr2, hces, hb2⟩; replace H := H.learnRd hb2 hr2; clear hr2 hb2
  generalize hes : manyE l 20 = es at H hces ⊢
  refine l1 (asS_r rfl) rfl rfl rfl ?_
  refine lw_nil ?_
  refine cw_seq ?_
  refine cw_region ?_ -- region 2 low.go:146
  have hgood : ∀ e ∈ es, Good e := by rw [← hes]; exact manyE_good
  have hel : es.length ≤ 20 := by rw [← hes]; exact manyE_len l 20
  have hfl := flat_le es hgood
  refine l1 (mvI_r rfl) rfl rfl rfl ?_
  refine l1 (mvS_r rfl) rfl rfl rfl ?_
  refine l1 (lenS_r len_LEntry rfl) rfl rfl rfl ?_
  refine l1 (add_r rfl rfl (by omega) (by omega)) rfl rfl rfl ?_
  rw [show (es.length : Int) + 1 = ((es.length + 1 : Nat) : Int) by omega]
  refine cal cb_tailracekeep_picked (picked_ok n_ (es.length + 1) _ (by omega) (by omega) (by omega) (by omega)) rfl rfl ?_
  rintro _ w4 ⟨rfl, hb⟩; replace H := H.later hb; clear hb
  have hkl := pk_lt n_ (show 0 < es.length + 1 by omega)
  generalize pk n_ (es.length + 1) = k at hkl ⊢
  refine l1 (asI_r rfl) rfl rfl rfl ?_
  refine lw_nil ?_
  refine cw_seq ?_
  refine cw_region ?_ -- region 3 low.go:147
  refine l1 (mvS_r rfl) rfl rfl rfl ?_
  have hgt : ∀ e ∈ es.take k, Good e := fun e he => hgood e (List.take_subset _ _ he)
  have hlt : (es.take k).length = k := by rw [List.length_take]; omega
  have hke2 : k ≤ es.length := by omega
  have hga : ∀ e ∈ es.take k ++ [r.entry], Good e := by intro e he; rcases List.mem_append.1 he with he | he; exact hgt e he; rw [List.mem_singleton.1 he]; exact hgr
  have hla : (es.take k ++ [r.entry]).length ≤ 21 := by rw [List.length_append]; show _ + 1 ≤ 21; omega
  refine cal cb_tailracekeep_logOf (logOf_ok es _ _ _ (H.rd0 0 rfl) hgood hel) rfl rfl ?_
  have hlo28 := H.size
  rintro _ w5 ⟨A28, c28, rfl, ⟨hgl28, hcap28, hr28⟩, hb28⟩; replace H := H.learnRd hb28 hr28; clear hr28 hb28
  refine l1 (mvU_r rfl) rfl rfl rfl ?_
  refine l1 (exA_r rfl rfl) rfl rfl rfl ?_
  refine l1 (exB_r rfl rfl) rfl rfl rfl ?_
  refine alo H z_Log rfl ?_; intro w6 b9 H
  refine stN H 0 (#[.slice A28 (flat es).length c28, .int .i64 0]) siz_Log rfl rfl rfl rfl rfl (by kernel_rfl) (by kernel_rfl) ?_; intro w7 H
  refine l1 (asB_r rfl) rfl rfl rfl ?_
  refine lw_nil ?_
  refine cw_seq ?_
  refine cw_region ?_ -- region 4 low.go:148
  refine l1 (ldW_r agg_Log rfl (H.ent (i := 0) rfl) rfl) rfl rfl rfl ?_
  refine l1 (mvI_r rfl) rfl rfl rfl ?_
  refine cal cb_seg_Cut (segCut_at0 hgood hel hke2 hcap28 (H.rd0 0 rfl)) rfl rfl ?_
  have hlo34 := H.size
  rintro _ w8 ⟨A34, c34, rfl, hc34, hr34, hb34⟩; replace H := H.learnRd hb34 hr34; clear hr34 hb34
  refine l1 (mvU_r rfl) rfl rfl rfl ?_
  refine l1 (exA_r rfl rfl) rfl rfl rfl ?_
  refine l1 (exI_r rfl rfl) rfl rfl rfl ?_
  refine alo H z_Log rfl ?_; intro w9 b11 H
  refine stN H 0 (#[.slice A34 (flat (es.take k)).length c34, .int .i64 0]) siz_Log rfl rfl rfl rfl rfl (by kernel_rfl) (by kernel_rfl) ?_; intro w10 H
  refine l1 (asI_r rfl) rfl rfl rfl ?_
  refine lw_nil ?_
  refine cw_seq ?_
  -- region 5 draws
  refine cw_draw mixed [0, 1, 2, 3, 4, 5, 6] [7, 8] [2, 3] [4, 5, 6] (sp [(2, Sp.one (r.entry.v)), (3, Sp.nrow w10.heap.size byteL (flat (es.take k ++ [r.entry])) (fun A c => .tuple #[.agg #[.slice A (flat (es.take k ++ [r.entry])).length c, .int .i64 0], .int .i64 0]))]) (by kernel_rfl) (by kernel_rfl) (by kernel_rfl) (by kernel_rfl) (fun _ _ _ h => h) (sp_st _) ?_
  refine aw rfl rfl rfl rfl rfl (fun w' hw' => ldW_r agg_Log rfl ((H.later hw').ent (i := 0) rfl) rfl) ?_
  refine aw rfl rfl rfl rfl rfl (fun w' hw' => ldW_r agg_Raw rfl ((H.later hw').ent (i := 2) rfl) rfl) ?_
  refine awCalV cb_tailracekeep_Entry rfl rfl rfl rfl rfl (fun w' hw' => entry_ok r w' hok2) rfl ?_
  refine awNRow (gv := (fun A c => .tuple #[.agg #[.slice A (flat (es.take k ++ [r.entry])).length c, .int .i64 0], .int .i64 0])) cb_seg_Append rfl rfl rfl rfl rfl (fun w' hw' => hw'.size) (fun w' hw' => segAppend_at0 hgt (by omega) hgr hc34 ((H.later hw').rd0 0 rfl)) rfl ?_; intro A41 c41 hc41
  refine aw rfl rfl rfl rfl rfl (fun w' hw' => mvU_r rfl) ?_
  refine aw rfl rfl rfl rfl rfl (fun w' hw' => exA_r rfl rfl) ?_
  refine aw rfl rfl rfl rfl rfl (fun w' hw' => exI_r rfl rfl) ?_
  refine aw_nil ?_
  intro w11 hw' hF
  obtain ⟨hF, Aq, cq, eq, hcq, hrw41⟩ := hF; cases eq; clear hcq
  obtain ⟨hF, -⟩ := hF
  replace H := H.learnRd hw' hrw41
  clear hw' hF
  refine stN H 0 (#[.slice A41 (flat (es.take k ++ [r.entry])).length c41, .int .i64 0]) siz_Log rfl rfl rfl rfl rfl (by kernel_rfl) (by kernel_rfl) ?_; intro w12 H
  refine l1 (asI_r rfl) rfl rfl rfl ?_
  refine lw_nil ?_
  refine cw_seq ?_
  refine cw_region ?_ -- region 6 low.go:150
  refine l1 (ldW_r agg_Log rfl (H.ent (i := 0) rfl) rfl) rfl rfl rfl ?_
  refine cal cb_seg_Entries (segEntries_at0 (GL.mk21 hga hla) hc41 (H.rd0 0 rfl)) rfl rfl ?_
  rintro _ w13 ⟨A46, c46, rfl, hr46, hc46, hb46⟩; replace H := H.learnRd hb46 hr46; clear hr46 hb46
  refine l1 (mvU_r rfl) rfl rfl rfl ?_
  refine l1 (exS_r rfl rfl) rfl rfl rfl ?_
  refine l1 (exI_r rfl rfl) rfl rfl rfl ?_
  refine l1 (exI_r rfl rfl) rfl rfl rfl ?_
  refine l1 (asS_r rfl) rfl rfl rfl ?_
  refine l1 (asI_r rfl) rfl rfl rfl ?_
  refine l1 (asI_r rfl) rfl rfl rfl ?_
  refine lw_nil ?_
  refine cw_seq ?_
  refine cw_region ?_ -- region 7 low.go:151
  refine l1 (ldW_r agg_Log rfl (H.ent (i := 1) rfl) rfl) rfl rfl rfl ?_
  refine l1 (mvS_r rfl) rfl rfl rfl ?_
  refine l1 (lenS_r len_LEntry rfl) rfl rfl rfl ?_
  refine l1 (add_r rfl rfl (by omega) (by omega)) rfl rfl rfl ?_
  refine cal cb_seg_Cut (segCut_bad0 hgood hel (by omega) hcap28 (H.rd0 3 rfl)) rfl rfl ?_
  rintro _ w14 ⟨rfl, hb⟩; replace H := H.later hb; clear hb
  refine l1 (mvU_r rfl) rfl rfl rfl ?_
  refine l1 (exA_r rfl rfl) rfl rfl rfl ?_
  refine l1 (exI_r rfl rfl) rfl rfl rfl ?_
  refine alo H z_Log rfl ?_; intro w15 b17 H
  refine stN H 0 (#[.slice none 0 0, .int .i64 0]) siz_Log rfl rfl rfl rfl rfl (by kernel_rfl) (by kernel_rfl) ?_; intro w16 H
  refine l1 (asI_r rfl) rfl rfl rfl ?_
  refine lw_nil ?_
  refine cw_seq ?_
  -- region 8 draws
  refine cw_tree mixed [0, 1, 2, 3, 4, 5, 6, 7, 8, 9, 10, 11, 12, 13, 14, 15, 16, 17, 18, 19, 20, 21] [22, 23, 24, 25, 26, 27, 28, 29] [0, 1, 2, 3, 4, 5, 6, 7, 8, 9, 10, 11, 12, 13, 14, 15, 16, 17, 18, 19, 20, 21] 8 (by kernel_rfl) (by kernel_rfl) (by kernel_rfl) (fun _ _ _ h => h) ?_
  refine aw rfl rfl rfl rfl rfl (fun w' hw' => mvB_r rfl) ?_
  refine aw rfl rfl rfl rfl rfl (fun w' hw' => mvB_r rfl) ?_
  refine aw rfl rfl rfl rfl rfl (fun w' hw' => mvI_r rfl) ?_
  refine aw rfl rfl rfl rfl rfl (fun w' hw' => eqlT_r rfl rfl rfl) ?_
  refine aw rfl rfl rfl rfl rfl (fun w' hw' => pkTB_r rfl rfl) ?_
  refine aw rfl rfl rfl rfl rfl (fun w' hw' => mvB_r rfl) ?_
  refine aw rfl rfl rfl rfl rfl (fun w' hw' => mvI_r rfl) ?_
  refine aw rfl rfl rfl rfl rfl (fun w' hw' => eqlT_r rfl rfl rfl) ?_
  refine aw rfl rfl rfl rfl rfl (fun w' hw' => pkTB_r rfl rfl) ?_
  refine aw rfl rfl rfl rfl rfl (fun w' hw' => mvB_r rfl) ?_
  refine aw rfl rfl rfl rfl rfl (fun w' hw' => mvI_r rfl) ?_
  refine aw rfl rfl rfl rfl rfl (fun w' hw' => eqlT_r rfl rfl rfl) ?_
  refine aw rfl rfl rfl rfl rfl (fun w' hw' => pkTB_r rfl rfl) ?_
  refine aw rfl rfl rfl rfl rfl (fun w' hw' => mvB_r rfl) ?_
  refine aw rfl rfl rfl rfl rfl (fun w' hw' => mvI_r rfl) ?_
  refine aw rfl rfl rfl rfl rfl (fun w' hw' => eqlT_r rfl rfl rfl) ?_
  refine aw rfl rfl rfl rfl rfl (fun w' hw' => pkTB_r rfl rfl) ?_
  refine aw rfl rfl rfl rfl rfl (fun w' hw' => mvB_r rfl) ?_
  refine aw rfl rfl rfl rfl rfl (fun w' hw' => mvS_r rfl) ?_
  refine aw rfl rfl rfl rfl rfl (fun w' hw' => mvS_r rfl) ?_
  refine aw rfl rfl rfl rfl rfl (fun w' hw' => mvI_r rfl) ?_
  refine aw rfl rfl rfl rfl rfl (fun w' hw' => sliHi_r (i := ((k : Nat) : Int)) sl_LEntry rfl rfl (by omega) (by omega)) ?_
  refine aw_nil ?_
  intro w17 hw'; replace H := H.later hw'; clear hw'
  refine xw2 22 23 (by kernel_rfl) rfl rfl ?_ ?_ 
  · -- first 22
    refine lwG rfl ?_
    have hC := fun sz => clone_Entry_ok (es.take k) (cut Aes ces 0 sz) ces _ (Rd.cut0 (H.rd0 4 rfl) k) (by omega)
    rw [hlt] at hC
    refine cal cb_slices_Clone_LEntry_Entry ((hC _)) rfl rfl ?_
    rintro _ w18 ⟨A80, c80, L80, rfl, hc80, hm80, ho80, hj80⟩; replace H := H.joinR hj80; clear hj80
    refine lw_nil ?_
    refine xw1 23 (by kernel_rfl) rfl ?_ 
    refine lwG rfl ?_
    refine l1 (ldW_r agg_Raw rfl (H.ent (i := 3) rfl) rfl) rfl rfl rfl ?_
    refine lw_nil ?_
    refine xw1 24 (by kernel_rfl) rfl ?_ 
    refine lwG rfl ?_
    refine cal cb_tailracekeep_Entry (entry_ok r _ hok2) rfl rfl ?_
    rintro _ w19 ⟨rfl, hb⟩; replace H := H.later hb; clear hb
    refine lw_nil ?_
    refine xw1 25 (by kernel_rfl) rfl ?_ 
    refine lwG rfl ?_
    refine bsv (vs := [r.entry.v]) H sl_LEntry z_Entry rfl rfl rfl rfl rfl rfl ?_; intro w20 b83 H
    refine lw_nil ?_
    refine xw1 26 (by kernel_rfl) rfl ?_ 
    refine lwG rfl ?_
    refine apO (Y := entL) ap_LEntry (K := [(b83, _), (b17, _), (b11, _), (b9, _), (b5, _)]) (L := L80) (M := []) H ho80 (news := [r.entry]) rfl rfl rfl (Src.row (m := 1) (sz := entL.sz) (H.ent (i := 0) rfl) rfl) (by simp only [List.length_singleton]; omega) rfl ?_
    intro A84 c84 w21 L84 h84 _ ho84 H
    refine lw_nil ?_
    refine xw1 27 (by kernel_rfl) rfl ?_ 
    refine lwG rfl ?_
    refine cal cb_slices_Equal_LEntry_Entry (eqEnt_ok (es.take k ++ [r.entry]) (es.take k ++ [r.entry]) _ _ _ _ _ (H.rd0 0 rfl) ((ho84.rd H).mono (Nat.zero_le _) (Nat.le_refl _)) (by omega)) rfl rfl ?_
    rintro _ w22 ⟨rfl, hb⟩; replace H := H.later hb; clear hb
    rw [decide_eq_true rfl]
    refine lw_nil ?_
    refine xw1 28 (by kernel_rfl) rfl ?_ 
    refine l1 (pkTB_r rfl rfl) rfl rfl rfl ?_
    refine lw_nil ?_
    refine xw1 29 (by kernel_rfl) rfl ?_ 
    refine l1 (asB_r rfl) rfl rfl rfl ?_
    refine lw_nil ?_
    refine xw_end (by kernel_rfl) ?_
    refine cw_ret ?_
    exact fin1 (v := .bool true) rfl rfl ⟨rfl, H.below⟩
  · -- first 23
    refine lwG rfl ?_
    refine l1 (ldW_r agg_Raw rfl (H.ent (i := 3) rfl) rfl) rfl rfl rfl ?_
    refine lw_nil ?_
    refine xw1 22 (by kernel_rfl) rfl ?_ 
    refine lwG rfl ?_
    have hC := fun sz => clone_Entry_ok (es.take k) (cut Aes ces 0 sz) ces _ (Rd.cut0 (H.rd0 4 rfl) k) (by omega)
    rw [hlt] at hC
    refine cal cb_slices_Clone_LEntry_Entry ((hC _)) rfl rfl ?_
    rintro _ w23 ⟨A80, c80, L80, rfl, hc80, hm80, ho80, hj80⟩; replace H := H.joinR hj80; clear hj80
    refine lw_nil ?_
    refine xw1 24 (by kernel_rfl) rfl ?_ 
    refine lwG rfl ?_
    refine cal cb_tailracekeep_Entry (entry_ok r _ hok2) rfl rfl ?_
    rintro _ w24 ⟨rfl, hb⟩; replace H := H.later hb; clear hb
    refine lw_nil ?_
    refine xw1 25 (by kernel_rfl) rfl ?_ 
    refine lwG rfl ?_
    refine bsv (vs := [r.entry.v]) H sl_LEntry z_Entry rfl rfl rfl rfl rfl rfl ?_; intro w25 b83 H
    refine lw_nil ?_
    refine xw1 26 (by kernel_rfl) rfl ?_ 
    refine lwG rfl ?_
    refine apO (Y := entL) ap_LEntry (K := [(b83, _), (b17, _), (b11, _), (b9, _), (b5, _)]) (L := L80) (M := []) H ho80 (news := [r.entry]) rfl rfl rfl (Src.row (m := 1) (sz := entL.sz) (H.ent (i := 0) rfl) rfl) (by simp only [List.length_singleton]; omega) rfl ?_
    intro A84 c84 w26 L84 h84 _ ho84 H
    refine lw_nil ?_
    refine xw1 27 (by kernel_rfl) rfl ?_ 
    refine lwG rfl ?_
    refine cal cb_slices_Equal_LEntry_Entry (eqEnt_ok (es.take k ++ [r.entry]) (es.take k ++ [r.entry]) _ _ _ _ _ (H.rd0 0 rfl) ((ho84.rd H).mono (Nat.zero_le _) (Nat.le_refl _)) (by omega)) rfl rfl ?_
    rintro _ w27 ⟨rfl, hb⟩; replace H := H.later hb; clear hb
    rw [decide_eq_true rfl]
    refine lw_nil ?_
    refine xw1 28 (by kernel_rfl) rfl ?_ 
    refine l1 (pkTB_r rfl rfl) rfl rfl rfl ?_
    refine lw_nil ?_
    refine xw1 29 (by kernel_rfl) rfl ?_ 
    refine l1 (asB_r rfl) rfl rfl rfl ?_
    refine lw_nil ?_
    refine xw_end (by kernel_rfl) ?_
    refine cw_ret ?_
    exact fin1 (v := .bool true) rfl rfl ⟨rfl, H.below⟩
end Go.Proofs.Ytemnchkebhclpaa
