/- S8: a part of the proofs over this seat: what stands in its theorems holds for every input that they name. -/
import Derived.Test.YtemnchkebhclpaaS7
namespace Go.Proofs.Ytemnchkebhclpaa
open Go Go.Eng Go.RowKit
set_option linter.unusedSimpArgs false
/-- Append's answer, whatever it is, is a log -/
theorem logCell_apart {w : World} {b : Nat} {l : List UInt8} (h : w.heap[b]? = some (.cells #[.slice none 0 0, .int .i64 0] T_Log (0, 0))) (h0 : 0 < l.length) : ∃ (j : Nat) (u : Value), (byteL.all l)[j]? = some u ∧ ∀ k, w.cell? ⟨b, k, none⟩ ≠ some u := by
  obtain ⟨x, l, rfl⟩ : ∃ x t, l = x :: t := by cases l <;> simp at h0 ⊢
  refine ⟨0, .int .u8 (x.toNat : Nat), rfl, fun k hk => ?_⟩
  have := cell_in h hk
  simp at this
theorem segCrash_at {A : Option Addr} {c s keep : Nat} {es : List Ent} {w : World} (h : GL es s) (hkb : keep ≤ 1000000000000) (hc : (flat es).length ≤ c) (hr : Rd byteL 0 w.heap.size A (flat es) w) :
    Ret Try.prog i_seg_Crash [.agg #[.slice A (flat es).length c, .int .i64 (lsz es s : Nat)], .int .i64 (keep : Nat)] w fun v w2 => ∃ A' c', v = .tuple #[.agg #[.slice A' (flat (es.take (crashN es s keep))).length c', .int .i64 (lsz (es.take (crashN es s keep)) (crashN es s keep) : Nat)], .int .i64 0] ∧ (flat (es.take (crashN es s keep))).length ≤ c' ∧ Rd byteL w.heap.size w2.heap.size A' (flat (es.take (crashN es s keep))) w2 ∧ Below w.heap.size w w2 := by
  refine (segCrash_ok ⟨A, c, es, s⟩ keep w ⟨h, hc, hr⟩ hkb).mono ?_
  rintro v w2 ⟨A', c', rfl, ⟨h1, h2, h3⟩, hb⟩
  exact ⟨A', c', rfl, h2, h3, hb⟩
set_option maxHeartbeats 4000000 in
set_option maxRecDepth 10000 in
theorem logCrashes_ok (l : List Raw) (A : Option Addr) (c : Nat) (sync_ keep_ : Int) (w : World) (hr : Rd rawL 0 w.heap.size A l w) (hok : ∀ r ∈ l, r.ok) (hl : l.length ≤ 9223372036854775807) (ha : i64 sync_) (hb : i64 keep_) :
    Ret Try.prog i_tailracekeep_LogCrashes [.slice A l.length c, .int .i64 sync_, .int .i64 keep_] w fun v w2 => v = .bool true ∧ Below w.heap.size w w2 := by
  refine ret_of fn_tailracekeep_LogCrashes rfl rfl ?_
  have H := Hp.startRd hr
  obtain ⟨ha1, ha2⟩ := ha
  obtain ⟨hb1, hb2⟩ := hb
  refine cw_seq ?_
  refine cw_region ?_ -- region 0 low.go:128
  refine l1 (asB_r rfl) rfl rfl rfl ?_
  refine lw_nil ?_
  refine cw_seq ?_
  refine cw_region ?_ -- region 1 low.go:129
  refine l1 (mvS_r rfl) rfl rfl rfl ?_
  refine cal cb_tailracekeep_many (many_ok l 20 _ _ _ (H.rd0 0 rfl) hok hl (by decide)) rfl rfl ?_
  rintro _ w2 ⟨Aes, ces, rfl, hr1, hces, hb1⟩; replace H := H.learnRd hb1 hr1; clear hr1 hb1
  generalize hes : manyE l 20 = es at H hces ⊢
  refine l1 (asS_r rfl) rfl rfl rfl ?_
  refine lw_nil ?_
  refine cw_seq ?_
  refine cw_region ?_ -- region 2 low.go:130
  have hgood : ∀ e ∈ es, Good e := by rw [← hes]; exact manyE_good
  have hel : es.length ≤ 20 := by rw [← hes]; exact manyE_len l 20
  have hfl := flat_le es hgood
  refine l1 (mvI_r rfl) rfl rfl rfl ?_
  refine l1 (mvS_r rfl) rfl rfl rfl ?_
  refine l1 (lenS_r len_LEntry rfl) rfl rfl rfl ?_
  refine l1 (add_r rfl rfl (by omega) (by omega)) rfl rfl rfl ?_
  rw [show (es.length : Int) + 1 = ((es.length + 1 : Nat) : Int) by omega]
  refine cal cb_tailracekeep_picked (picked_ok sync_ (es.length + 1) _ (by omega) (by omega) (by omega) (by omega)) rfl rfl ?_
  rintro _ w3 ⟨rfl, hb⟩; replace H := H.later hb; clear hb
  have hkl := pk_lt sync_ (show 0 < es.length + 1 by omega)
  generalize pk sync_ (es.length + 1) = k at hkl ⊢
  refine l1 (asI_r rfl) rfl rfl rfl ?_
  refine lw_nil ?_
  refine cw_seq ?_
  refine cw_region ?_ -- region 3 low.go:131
  refine l1 (mvS_r rfl) rfl rfl rfl ?_
  refine l1 (mvI_r rfl) rfl rfl rfl ?_
  refine sliHiF (k := k) H 0 rfl sl_LEntry rfl rfl hces (by omega) rfl ?_; intro A27 H
  have hgt : ∀ e ∈ es.take k, Good e := fun e he => hgood e (List.take_subset _ _ he)
  have hlt : (es.take k).length = k := by rw [List.length_take]; omega
  have hke2 : k ≤ es.length := by omega
  have hfk := logOf_ok (es.take k) A27 ces _ (H.rd0 0 rfl) hgt (by omega)
  rw [hlt] at hfk
  refine cal cb_tailracekeep_logOf (hfk) rfl rfl ?_
  have hlo28 := H.size
  rintro _ w4 ⟨A28, c28, rfl, ⟨hgl28, hcap28, hr28⟩, hb28⟩; replace H := H.learnRd hb28 hr28; clear hr28 hb28
  refine l1 (mvU_r rfl) rfl rfl rfl ?_
  refine l1 (exA_r rfl rfl) rfl rfl rfl ?_
  refine l1 (exB_r rfl rfl) rfl rfl rfl ?_
  refine alo H z_Log rfl ?_; intro w5 b9 H
  refine stN H 0 (#[.slice A28 (flat (es.take k)).length c28, .int .i64 0]) siz_Log rfl rfl rfl rfl rfl (by kernel_rfl) (by kernel_rfl) ?_; intro w6 H
  refine l1 (asB_r rfl) rfl rfl rfl ?_
  refine lw_nil ?_
  refine cw_seq ?_
  refine cw_region ?_ -- region 4 low.go:132
  refine l1 (ldW_r agg_Log rfl (H.ent (i := 0) rfl) rfl) rfl rfl rfl ?_
  refine cal cb_seg_Sync (segSync_at0 hgood hel (by omega) hcap28 (H.rd0 0 rfl)) rfl rfl ?_
  have hlo33 := H.size
  rintro _ w7 ⟨A33, c33, rfl, hc33, hr33, hb33⟩; replace H := H.learnRd hb33 hr33; clear hr33 hb33
  refine l1 (mvU_r rfl) rfl rfl rfl ?_
  refine l1 (exA_r rfl rfl) rfl rfl rfl ?_
  refine l1 (exI_r rfl rfl) rfl rfl rfl ?_
  refine stN H 0 (#[.slice A33 (flat (es.take k)).length c33, .int .i64 (lsz es k : Nat)]) siz_Log rfl rfl rfl rfl rfl (by kernel_rfl) (by kernel_rfl) ?_; intro w8 H
  refine l1 (asI_r rfl) rfl rfl rfl ?_
  refine lw_nil ?_
  refine cw_seq ?_
  refine cw_seq ?_
  refine cw_region ?_ -- region 5 low.go:133
  refine l1 (mvS_r rfl) rfl rfl rfl ?_
  refine l1 (mvI_r rfl) rfl rfl rfl ?_
  refine sliLoF (k := k) H 3 rfl sl_LEntry rfl rfl rfl hces (by omega) rfl ?_; intro A38 H
  obtain ⟨ds, hds⟩ : ∃ ds, es.drop k = ds := ⟨_, rfl⟩
  rw [hds] at H
  have hdl : es.length - k = ds.length := by rw [← hds]; simp
  rw [hdl]
  refine l1 (lenS_r len_LEntry rfl) rfl rfl rfl ?_
  refine l1 (mvI_r rfl) rfl rfl rfl ?_
  refine lw_nil ?_
  refine cw_block ?_ -- block 0
  refine cw_loop (τ := Nat × Option Addr × Nat × Nat × Nat) [13, 47, 48, 49, 50, 51, 52, 53, 54, 55, 56, 57] (fun (j, A1, c1, lo, hi) => [(47, .int .i64 (j : Nat))]) (fun (j, A1, c1, lo, hi) w' => j ≤ ds.length ∧ (flat (es.take (k + j))).length ≤ c1 ∧ w.heap.size ≤ lo ∧ Hp w w' [(b9, .cells #[.slice A1 (flat (es.take (k + j))).length c1, .int .i64 (lsz es k : Nat)] T_Log (0, 0))] [FRd byteL lo hi A1 (flat (es.take (k + j))), FRd entL w.heap.size w2.heap.size A38 ds, FRd entL w.heap.size w2.heap.size Aes es]) (fun (j, _, _, _, _) => ds.length - j) (0, A33, c33, w6.heap.size, w7.heap.size) ⟨by omega, hc33, hlo33, H.forget (List.Sublist.refl _) (by simp)⟩ (sl1 rfl) ?_ -- LOOP 0
  rintro ⟨j, A1, c1, lo, hi⟩ ρ1 w9 ⟨hj, hc1, hlo, H⟩
  show CW _ _ _ _ (updL (ovr _ _ ρ1) [(47, .int .i64 (j : Nat))]) w9
  refine cw_seq ?_
  refine cw_region ?_ -- region 6 low.go:133
  refine lwD (lss_r rfl rfl) rfl rfl rfl (fun h48 => ?_) (fun h48 => ?_)
  · -- slot 48 True
    refine lw_nil ?_
    refine cw_seq ?_
    refine cw_true rfl ?_
    refine cw_skip ?_
    refine cw_seq ?_
    refine cw_block ?_ -- block 1
    refine cw_seq ?_
    refine cw_region ?_ -- region 7 low.go:133
    refine ixF H 1 rfl sl_LEntry rfl rfl (by omega) (by omega) rfl ?_; intro b10 o10 x10 e10
    have hxk : es[k + j]? = some x10 := by have := e10.at_; rwa [← hds, List.getElem?_drop] at this
    refine l1 (ldA_r (xs := Ent.c x10) agg_Entry rfl rfl e10.cl) rfl rfl rfl ?_
    refine alo H z_Entry rfl ?_; intro w11 b13 H
    refine stW H 0 siz_Entry rfl rfl rfl rfl rfl rfl ?_; intro w12 H
    refine lw_nil ?_
    refine cw_region ?_ -- region 8 low.go:134
    refine l1 (ldW_r agg_Log rfl (H.ent (i := 1) rfl) rfl) rfl rfl rfl ?_
    refine l1 (ldW_r agg_Entry rfl (H.ent (i := 0) rfl) rfl) rfl rfl rfl ?_
    refine cal cb_seg_Append (segAppend_step (s := k) hxk hgood hel (by omega) hc1 (H.rd0 0 rfl)) rfl rfl ?_
    have hlo3 := H.size
    rintro _ w13 ⟨A3, c3, rfl, hc3, hr3, hb3⟩; replace H := H.learnRd hb3 hr3; clear hr3 hb3
    refine l1 (mvU_r rfl) rfl rfl rfl ?_
    refine l1 (exA_r rfl rfl) rfl rfl rfl ?_
    refine l1 (exI_r rfl rfl) rfl rfl rfl ?_
    refine stN H 1 (#[.slice A3 (flat (es.take (k + j + 1))).length c3, .int .i64 (lsz es k : Nat)]) siz_Log rfl rfl rfl rfl rfl (by kernel_rfl) (by kernel_rfl) ?_; intro w14 H
    refine lw_nil ?_
    refine cw_region ?_ -- region 9 low.go:133
    refine l1 (add_r rfl rfl (by omega) (by omega)) rfl rfl rfl ?_
    refine l1 (mvI_r rfl) rfl rfl rfl ?_
    refine lw_nil ?_
    refine ⟨(j + 1, A3, c3, _, _), ⟨by omega, hc3, hlo3, H.forget (.cons _ (List.Sublist.refl _)) mem134⟩, sl1 rfl, by repeat (first | exact Agr.refl _ _ | exact agr_ovr | refine agr_upd rfl ?_ | refine agr_updL _ rfl ?_ | refine agr_ovr2 rfl ?_), by show ds.length - (j + 1) < ds.length - j; omega⟩
  · -- slot 48 False
    have hke : k + j = es.length := by omega
    rw [hke, List.take_length] at H hc1
    refine lw_nil ?_
    refine cw_seq ?_
    refine cw_false rfl ?_
    refine cw_exit ?_ -- 0
    refine cw_seq ?_
    obtain ⟨kp, hkp⟩ : ∃ kp, pk keep_ 300 = kp := ⟨_, rfl⟩
    have hkpl : kp < 300 := by rw [← hkp]; exact pk_lt _ (by omega)
    obtain ⟨m, hm⟩ : ∃ m, crashN es k kp = m := ⟨_, rfl⟩
    have hmk : k ≤ m := by rw [← hm]; exact crashN_ge hke2
    have hml : m ≤ es.length := by rw [← hm]; exact crashN_le _ _ _
    have hlm : (es.take m).length = m := by rw [List.length_take]; omega
    -- region 10 draws
    refine cw_draw mixed [0, 1, 2, 3, 4, 5, 6, 7] [8, 9] [2, 3, 7] [1, 4, 5, 6] (sp [(2, Sp.one (.int .i64 (kp : Nat))), (3, Sp.nrow w9.heap.size byteL (flat (es.take m)) (fun A c => .tuple #[.agg #[.slice A (flat (es.take m)).length c, .int .i64 (lsz (es.take m) m : Nat)], .int .i64 0])), (7, Sp.blk w9.heap.size (.agg #[.slice none 0 0, .int .i64 0]) T_Log)]) (by kernel_rfl) (by kernel_rfl) (by kernel_rfl) (by kernel_rfl) (fun _ _ _ h => h) (sp_st _) ?_
    refine aw rfl rfl rfl rfl rfl (fun w' hw' => ldW_r agg_Log rfl ((H.later hw').ent (i := 0) rfl) rfl) ?_
    refine aw rfl rfl rfl rfl rfl (fun w' hw' => mvI_r rfl) ?_
    refine awCalV cb_tailracekeep_picked rfl rfl rfl rfl rfl (fun w' hw' => by have := picked_ok keep_ 300 w' (by omega) (by omega) (by omega) (by omega); rwa [hkp] at this) rfl ?_
    refine awNRow (gv := (fun A c => .tuple #[.agg #[.slice A (flat (es.take m)).length c, .int .i64 (lsz (es.take m) m : Nat)], .int .i64 0])) cb_seg_Crash rfl rfl rfl rfl rfl (fun w' hw' => hw'.size) (fun w' hw' => by have := segCrash_at (keep := kp) (GL.mk20 hgood hel hke2) (by omega) hc1 ((H.later hw').rd0 0 rfl); rwa [hm] at this) rfl ?_; intro A62 c62 hc62
    refine aw rfl rfl rfl rfl rfl (fun w' hw' => mvU_r rfl) ?_
    refine aw rfl rfl rfl rfl rfl (fun w' hw' => exA_r rfl rfl) ?_
    refine aw rfl rfl rfl rfl rfl (fun w' hw' => exI_r rfl rfl) ?_
    refine awAl z_Log rfl rfl rfl rfl rfl (fun w' hw' => hw'.size) ?_; intro b14
    refine aw_nil ?_
    intro w15 hw' hF
    obtain ⟨hF, bq, eq, hge14, hbl14⟩ := hF; cases eq
    obtain ⟨hF, Aq, cq, eq, hcq, hrw62⟩ := hF; cases eq; clear hcq
    obtain ⟨hF, -⟩ := hF
    have Hb := H
    replace H := H.adoptNew hw' hbl14 hge14
    obtain ⟨lo62, hi62, hlo62, H'⟩ := Hb.learnApart H hw'.size hrw62 (logCell_apart hbl14); replace H := H'; clear H'
    clear hw' hF
    refine stN H 0 (#[.slice A62 (flat (es.take m)).length c62, .int .i64 (lsz (es.take m) m : Nat)]) siz_Log rfl rfl rfl rfl rfl (by kernel_rfl) (by kernel_rfl) ?_; intro w16 H
    refine l1 (asI_r rfl) rfl rfl rfl ?_
    refine lw_nil ?_
    refine cw_seq ?_
    refine cw_region ?_ -- region 11 low.go:137
    refine l1 (ldW_r agg_Log rfl (H.ent (i := 0) rfl) rfl) rfl rfl rfl ?_
    refine cal cb_seg_Entries (segEntries_at A62 c62 (es.take m) m _ ⟨(GL.mk20 hgood hel hke2).take m (show m ≤ (es.take m).length by omega), hc62, H.rd0 0 rfl⟩) rfl rfl ?_
    rintro _ w17 ⟨A56, c56, rfl, hr56, hc56, hb56⟩; replace H := H.learnRd hb56 hr56; clear hr56 hb56
    refine l1 (mvU_r rfl) rfl rfl rfl ?_
    refine l1 (exS_r rfl rfl) rfl rfl rfl ?_
    refine l1 (exI_r rfl rfl) rfl rfl rfl ?_
    refine l1 (exI_r rfl rfl) rfl rfl rfl ?_
    refine l1 (asS_r rfl) rfl rfl rfl ?_
    refine l1 (asI_r rfl) rfl rfl rfl ?_
    refine l1 (asI_r rfl) rfl rfl rfl ?_
    refine lw_nil ?_
    refine cw_seq ?_
    refine cw_region ?_ -- region 12 low.go:138
    refine l1 (ldW_r agg_Log rfl (H.ent (i := 1) rfl) rfl) rfl rfl rfl ?_
    refine cal cb_seg_Crash (segCrash_at (keep := 0) (GL.mk20 hgood hel hke2) (by omega) hc1 (H.rd0 2 rfl)) rfl rfl ?_
    rintro _ w18 ⟨A73, c73, rfl, hc73, hr73, hb73⟩; replace H := H.learnRd hb73 hr73; clear hr73 hb73
    rw [crashN_zero hke2] at H hc73 ⊢
    refine l1 (mvU_r rfl) rfl rfl rfl ?_
    refine l1 (exA_r rfl rfl) rfl rfl rfl ?_
    refine l1 (exI_r rfl rfl) rfl rfl rfl ?_
    refine alo H z_Log rfl ?_; intro w19 b19 H
    refine stN H 0 (#[.slice A73 (flat (es.take k)).length c73, .int .i64 (lsz (es.take k) k : Nat)]) siz_Log rfl rfl rfl rfl rfl (by kernel_rfl) (by kernel_rfl) ?_; intro w20 H
    refine l1 (asI_r rfl) rfl rfl rfl ?_
    refine lw_nil ?_
    refine cw_seq ?_
    refine cw_region ?_ -- region 13 low.go:139
    refine l1 (ldW_r agg_Log rfl (H.ent (i := 0) rfl) rfl) rfl rfl rfl ?_
    refine cal cb_seg_Entries (segEntries_at A73 c73 (es.take k) k _ ⟨(GL.mk20 hgood hel hke2).take k (show k ≤ (es.take k).length by omega), hc73, H.rd0 0 rfl⟩) rfl rfl ?_
    rw [hlt]
    rintro _ w21 ⟨A78, c78, rfl, hr78, hc78, hb78⟩; replace H := H.learnRd hb78 hr78; clear hr78 hb78
    refine l1 (mvU_r rfl) rfl rfl rfl ?_
    refine l1 (exS_r rfl rfl) rfl rfl rfl ?_
    refine l1 (exI_r rfl rfl) rfl rfl rfl ?_
    refine l1 (exI_r rfl rfl) rfl rfl rfl ?_
    refine l1 (asS_r rfl) rfl rfl rfl ?_
    refine l1 (asI_r rfl) rfl rfl rfl ?_
    refine l1 (asI_r rfl) rfl rfl rfl ?_
    refine lw_nil ?_
    refine cw_seq ?_
    refine cw_region ?_ -- region 14 low.go:140
    refine l1 (mvB_r rfl) rfl rfl rfl ?_
    refine l1 (mvB_r rfl) rfl rfl rfl ?_
    refine lwG rfl ?_
    refine l1 (mvI_r rfl) rfl rfl rfl ?_
    refine lwG rfl ?_
    refine l1 (eqlT_r rfl rfl rfl) rfl rfl rfl ?_
    refine l1 (pkTB_r rfl rfl) rfl rfl rfl ?_
    refine l1 (mvB_r rfl) rfl rfl rfl ?_
    refine lwG rfl ?_
    refine l1 (mvI_r rfl) rfl rfl rfl ?_
    refine lwG rfl ?_
    refine l1 (eqlT_r rfl rfl rfl) rfl rfl rfl ?_
    refine l1 (pkTB_r rfl rfl) rfl rfl rfl ?_
    refine l1 (mvB_r rfl) rfl rfl rfl ?_
    refine lwG rfl ?_
    refine l1 (mvI_r rfl) rfl rfl rfl ?_
    refine lwG rfl ?_
    refine l1 (eqlT_r rfl rfl rfl) rfl rfl rfl ?_
    refine l1 (pkTB_r rfl rfl) rfl rfl rfl ?_
    refine l1 (mvB_r rfl) rfl rfl rfl ?_
    refine lwG rfl ?_
    refine l1 (mvI_r rfl) rfl rfl rfl ?_
    refine lwG rfl ?_
    refine l1 (eqlT_r rfl rfl rfl) rfl rfl rfl ?_
    refine l1 (pkTB_r rfl rfl) rfl rfl rfl ?_
    refine l1 (mvB_r rfl) rfl rfl rfl ?_
    refine lwG rfl ?_
    refine l1 (mvI_r rfl) rfl rfl rfl ?_
    refine lwG rfl ?_
    refine l1 (eqlT_r rfl rfl rfl) rfl rfl rfl ?_
    refine l1 (pkTB_r rfl rfl) rfl rfl rfl ?_
    refine l1 (mvB_r rfl) rfl rfl rfl ?_
    refine lwG rfl ?_
    refine l1 (mvS_r rfl) rfl rfl rfl ?_
    refine lwG rfl ?_
    refine l1 (lenS_r len_LEntry rfl) rfl rfl rfl ?_
    refine lwG rfl ?_
    refine l1 (mvI_r rfl) rfl rfl rfl ?_
    refine lwG rfl ?_
    refine l1 (geqT_r rfl rfl (by omega)) rfl rfl rfl ?_
    refine l1 (pkTB_r rfl rfl) rfl rfl rfl ?_
    refine l1 (mvB_r rfl) rfl rfl rfl ?_
    refine lwG rfl ?_
    refine l1 (mvI_r rfl) rfl rfl rfl ?_
    refine lwG rfl ?_
    refine l1 (mvS_r rfl) rfl rfl rfl ?_
    refine lwG rfl ?_
    refine l1 (lenS_r len_LEntry rfl) rfl rfl rfl ?_
    refine lwG rfl ?_
    refine l1 (eqlT_r rfl rfl (by omega)) rfl rfl rfl ?_
    refine l1 (pkTB_r rfl rfl) rfl rfl rfl ?_
    refine l1 (mvB_r rfl) rfl rfl rfl ?_
    refine lwG rfl ?_
    refine l1 (mvS_r rfl) rfl rfl rfl ?_
    refine lwG rfl ?_
    refine l1 (mvS_r rfl) rfl rfl rfl ?_
    refine lwG rfl ?_
    refine l1 (mvS_r rfl) rfl rfl rfl ?_
    refine lwG rfl ?_
    refine l1 (lenS_r len_LEntry rfl) rfl rfl rfl ?_
    refine lwG rfl ?_
    refine sliHiF (k := (es.take m).length) H 6 rfl sl_LEntry rfl rfl hces (by omega) rfl ?_; intro A120 H
    rw [hlm] at H
    refine lwG rfl ?_
    refine cal cb_slices_Equal_LEntry_Entry (eqEnt_ok (es.take m) (es.take m) _ _ _ _ _ (H.rd0 3 rfl) (H.rd0 0 rfl) (by omega)) rfl rfl ?_
    rintro _ w22 ⟨rfl, hb⟩; replace H := H.later hb; clear hb
    rw [decide_eq_true rfl]
    refine l1 (pkTB_r rfl rfl) rfl rfl rfl ?_
    refine l1 (mvB_r rfl) rfl rfl rfl ?_
    refine lwG rfl ?_
    refine l1 (mvS_r rfl) rfl rfl rfl ?_
    refine lwG rfl ?_
    refine l1 (mvS_r rfl) rfl rfl rfl ?_
    refine lwG rfl ?_
    refine l1 (mvI_r rfl) rfl rfl rfl ?_
    refine lwG rfl ?_
    refine sliHiF (k := k) H 7 rfl sl_LEntry rfl rfl hces (by omega) rfl ?_; intro A127 H
    refine lwG rfl ?_
    have hC := fun c c2 => eqEnt_ok (es.take k) (es.take k) A78 A127 c c2 _ (H.rd0 2 rfl) (H.rd0 0 rfl) (by omega)
    rw [hlt] at hC
    refine cal cb_slices_Equal_LEntry_Entry ((hC _ _)) rfl rfl ?_
    rintro _ w23 ⟨rfl, hb⟩; replace H := H.later hb; clear hb
    rw [decide_eq_true rfl]
    refine l1 (pkTB_r rfl rfl) rfl rfl rfl ?_
    refine l1 (asB_r rfl) rfl rfl rfl ?_
    refine lw_nil ?_
    refine cw_ret ?_
    exact fin1 (v := .bool true) rfl rfl ⟨rfl, H.below⟩
end Go.Proofs.Ytemnchkebhclpaa
