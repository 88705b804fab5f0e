/- S6: a part of the proofs over this seat: what stands in its theorems holds for every input that they name. -/
import Derived.Test.YtemnchkebhclpaaGS
namespace Go.Proofs.Ytemnchkebhclpaa
open Go Go.Eng Go.RowKit
set_option linter.unusedSimpArgs false
theorem whole_lt : ∀ (es : List Ent) (k : Nat) {x : Ent}, es[whole es k]? = some x → k < (flat (es.take (whole es k))).length + (encB x).length
  | [], k, x, h => by simp [whole] at h
  | e :: es, k, x, h => by
    unfold whole at h ⊢
    split at h
    · rename_i hk
      rw [if_pos hk]
      rw [Nat.add_comm 1, List.getElem?_cons_succ] at h
      have := whole_lt es _ h
      rw [Nat.add_comm 1, List.take_succ_cons, flat_cons, List.length_append]
      omega
    · rename_i hk
      rw [if_neg hk]
      simp at h
      subst h
      simp [flat]
      omega
set_option maxHeartbeats 4000000 in
set_option maxRecDepth 10000 in
theorem entryTorn_ok (l : List Raw) (A : Option Addr) (c : Nat) (cut_ : Int) (w : World) (hr : Rd rawL 0 w.heap.size A l w) (hok : ∀ r ∈ l, r.ok) (hl : l.length ≤ 9223372036854775807) (ha : i64 cut_) :
    Ret Try.prog i_tailracekeep_EntryTorn [.slice A l.length c, .int .i64 cut_] w fun v w2 => v = .bool true ∧ Below w.heap.size w w2 := by
  refine ret_of fn_tailracekeep_EntryTorn rfl rfl ?_
  have H := Hp.startRd hr
  obtain ⟨ha1, ha2⟩ := ha
  refine cw_seq ?_
  refine cw_region ?_ -- region 0 low.go:68
  refine l1 (asB_r rfl) rfl rfl rfl ?_
  refine lw_nil ?_
  refine cw_seq ?_
  refine cw_seq ?_
  refine cw_region ?_ -- region 1 low.go:69
  refine cal cb_tailracekeep_wireTells (wireTells_ok _) rfl rfl ?_
  rintro _ w1 ⟨rfl, hb⟩; replace H := H.later hb; clear hb
  refine l1 (not_r rfl) rfl rfl rfl ?_
  refine lw_nil ?_
  refine cw_false rfl ?_
  refine cw_skip ?_
  refine cw_seq ?_
  refine cw_region ?_ -- region 3 low.go:72
  refine l1 (mvS_r rfl) rfl rfl rfl ?_
  refine cal cb_tailracekeep_many (many_ok l 20 _ _ _ (H.rd0 0 rfl) hok hl (by decide)) rfl rfl ?_
  rintro _ w3 ⟨Aes, ces, rfl, hr2, hces, hb2⟩; replace H := H.learnRd hb2 hr2; clear hr2 hb2
  generalize hes : manyE l 20 = es at H hces ⊢
  have hgood : ∀ e ∈ es, Good e := by rw [← hes]; exact manyE_good
  have hel : es.length ≤ 20 := by rw [← hes]; exact manyE_len l 20
  have hfl := flat_le es hgood
  refine cal cb_tailracekeep_logOf (logOf_ok es _ _ _ (H.rd0 0 rfl) hgood hel) rfl rfl ?_
  have hlo19 := H.size
  rintro _ w4 ⟨A19, c19, rfl, ⟨hgl19, hcap19, hr19⟩, hb19⟩; replace H := H.learnRd hb19 hr19; clear hr19 hb19
  refine l1 (mvU_r rfl) rfl rfl rfl ?_
  refine l1 (exA_r rfl rfl) rfl rfl rfl ?_
  refine l1 (exB_r rfl rfl) rfl rfl rfl ?_
  refine alo H z_Log rfl ?_; intro w5 b5 H
  refine stN H 0 (#[.slice A19 (flat es).length c19, .int .i64 0]) siz_Log rfl rfl rfl rfl rfl (by kernel_rfl) (by kernel_rfl) ?_; intro w6 H
  refine l1 (asB_r rfl) rfl rfl rfl ?_
  refine lw_nil ?_
  refine cw_seq ?_
  refine cw_region ?_ -- region 4 low.go:73
  refine l1 (mvI_r rfl) rfl rfl rfl ?_
  refine l1 (fad_r fd_Log_0 rfl) rfl rfl rfl ?_
  refine l1 (ld_r one_Lbyte rfl (cellE (H.ent (i := 0) rfl) rfl)) rfl rfl rfl ?_
  refine l1 (lenS_r len_Lbyte rfl) rfl rfl rfl ?_
  refine l1 (add_r rfl rfl (by omega) (by omega)) rfl rfl rfl ?_
  rw [show ((flat es).length : Int) + 1 = (((flat es).length + 1 : Nat) : Int) by omega]
  refine cal cb_tailracekeep_picked (picked_ok cut_ ((flat es).length + 1) _ (by omega) (by omega) (by omega) (by omega)) rfl rfl ?_
  rintro _ w7 ⟨rfl, hb⟩; replace H := H.later hb; clear hb
  have hkl := pk_lt cut_ (show 0 < (flat es).length + 1 by omega)
  generalize pk cut_ ((flat es).length + 1) = k at hkl ⊢
  refine l1 (asI_r rfl) rfl rfl rfl ?_
  refine lw_nil ?_
  refine cw_seq ?_
  have hmle := whole_le es k
  have hmf := whole_flat_le es k
  have hwl := @whole_lt es k
  have hdt := dec_take es k hgood
  generalize whole es k = m at *
  have hlk : ((flat es).take k).length = k := by rw [List.length_take]; omega
  have hlm : (es.take m).length = m := by rw [List.length_take]; omega
  have hda := dec_flat es hgood
  refine cw_region ?_ -- region 5 low.go:74
  refine l1 (fad_r fd_Log_0 rfl) rfl rfl rfl ?_
  refine l1 (ld_r one_Lbyte rfl (cellE (H.ent (i := 0) rfl) rfl)) rfl rfl rfl ?_
  refine l1 (mvI_r rfl) rfl rfl rfl ?_
  refine sliHiF (k := k) H 0 rfl sl_Lbyte rfl rfl hcap19 (by omega) rfl ?_; intro A32 H
  have hD := decode_ok ((flat es).take k) _ c19 _ (H.rd0 0 rfl) (by omega) (by omega)
  rw [hlk] at hD
  refine cal cb_wire_Decode hD rfl rfl ?_; rintro _ w8 ⟨fs33, n33, A33, c33, rfl, hd33, hr33, hc33, hb33⟩; replace H := H.learnRd hb33 hr33; clear hr33 hb33 hD
  obtain ⟨e1, e2⟩ := dec_fun hdt hd33
  subst e1; subst e2
  refine l1 (mvU_r rfl) rfl rfl rfl ?_
  refine l1 (exS_r rfl rfl) rfl rfl rfl ?_
  refine l1 (exI_r rfl rfl) rfl rfl rfl ?_
  refine l1 (asS_r rfl) rfl rfl rfl ?_
  refine l1 (asI_r rfl) rfl rfl rfl ?_
  refine lw_nil ?_
  refine cw_seq ?_
  refine cw_region ?_ -- region 6 low.go:75
  refine l1 (fad_r fd_Log_0 rfl) rfl rfl rfl ?_
  refine l1 (ld_r one_Lbyte rfl (cellE (H.ent (i := 0) rfl) rfl)) rfl rfl rfl ?_
  have hD := decode_ok (flat es) _ c19 _ (H.rd0 2 rfl) (by omega) (by omega)
  refine cal cb_wire_Decode hD rfl rfl ?_; rintro _ w9 ⟨fs39, n39, A39, c39, rfl, hd39, hr39, hc39, hb39⟩; replace H := H.learnRd hb39 hr39; clear hr39 hb39 hD
  obtain ⟨e1, e2⟩ := dec_fun hda hd39
  subst e1; subst e2
  refine l1 (mvU_r rfl) rfl rfl rfl ?_
  refine l1 (exS_r rfl rfl) rfl rfl rfl ?_
  refine l1 (exI_r rfl rfl) rfl rfl rfl ?_
  refine l1 (asS_r rfl) rfl rfl rfl ?_
  refine l1 (asI_r rfl) rfl rfl rfl ?_
  refine lw_nil ?_
  refine cw_seq ?_
  refine cw_seq ?_
  refine cw_region ?_ -- region 7 low.go:76
  refine l1 (mvB_r rfl) rfl rfl rfl ?_
  refine l1 (not_r rfl) rfl rfl rfl ?_
  refine l1 (mvB_r rfl) rfl rfl rfl ?_
  refine lwG rfl ?_
  refine l1 (mvI_r rfl) rfl rfl rfl ?_
  refine lwG rfl ?_
  refine l1 (fad_r fd_Log_0 rfl) rfl rfl rfl ?_
  refine lwG rfl ?_
  refine l1 (ld_r one_Lbyte rfl (cellE (H.ent (i := 0) rfl) rfl)) rfl rfl rfl ?_
  refine lwG rfl ?_
  refine l1 (lenS_r len_Lbyte rfl) rfl rfl rfl ?_
  refine lwG rfl ?_
  refine l1 (neqF_r rfl rfl rfl) rfl rfl rfl ?_
  refine l1 (pkFB_r rfl rfl) rfl rfl rfl ?_
  refine l1 (mvB_r rfl) rfl rfl rfl ?_
  refine lwG rfl ?_
  refine l1 (mvI_r rfl) rfl rfl rfl ?_
  refine lwG rfl ?_
  refine l1 (mvI_r rfl) rfl rfl rfl ?_
  refine lwG rfl ?_
  refine l1 (gtrF_r rfl rfl (by omega)) rfl rfl rfl ?_
  refine l1 (pkFB_r rfl rfl) rfl rfl rfl ?_
  refine l1 (mvB_r rfl) rfl rfl rfl ?_
  refine lwG rfl ?_
  refine l1 (mvS_r rfl) rfl rfl rfl ?_
  refine lwG rfl ?_
  refine l1 (mvS_r rfl) rfl rfl rfl ?_
  refine lwG rfl ?_
  refine l1 (mvS_r rfl) rfl rfl rfl ?_
  refine lwG rfl ?_
  refine l1 (lenS_r len_LEntry rfl) rfl rfl rfl ?_
  refine lwG rfl ?_
  refine sliHiF (k := (es.take m).length) H 0 rfl sl_LEntry rfl rfl hc39 (by omega) rfl ?_; intro A61 H
  rw [hlm] at H
  refine lwG rfl ?_
  refine cal cb_slices_Equal_LEntry_Entry (eqEnt_ok (es.take m) (es.take m) _ _ _ _ _ (H.rd0 2 rfl) (H.rd0 0 rfl) (by omega)) rfl rfl ?_
  rintro _ w10 ⟨rfl, hb⟩; replace H := H.later hb; clear hb
  rw [decide_eq_true rfl]
  refine lwG rfl ?_
  refine l1 (not_r rfl) rfl rfl rfl ?_
  refine l1 (pkFB_r rfl rfl) rfl rfl rfl ?_
  refine lw_nil ?_
  refine cw_false rfl ?_
  refine cw_skip ?_
  refine cw_seq ?_
  refine cw_seq ?_
  refine cw_region ?_ -- region 9 low.go:79
  refine l1 (mvS_r rfl) rfl rfl rfl ?_
  refine l1 (lenS_r len_LEntry rfl) rfl rfl rfl ?_
  refine l1 (mvS_r rfl) rfl rfl rfl ?_
  refine l1 (lenS_r len_LEntry rfl) rfl rfl rfl ?_
  refine lwD (eql_r rfl rfl) rfl rfl rfl (fun h69 => ?_) (fun h69 => ?_)
  · -- slot 69 True
    have hme : m = es.length := by omega
    subst hme
    rw [List.take_length] at hmf
    refine lw_nil ?_
    refine cw_true rfl ?_
    refine cw_seq ?_
    refine cw_region ?_ -- region 10 low.go:80
    refine l1 (mvI_r rfl) rfl rfl rfl ?_
    refine l1 (mvI_r rfl) rfl rfl rfl ?_
    refine l1 (eql_r rfl rfl) rfl rfl rfl ?_
    refine l1 (asB_r rfl) rfl rfl rfl ?_
    refine lw_nil ?_
    refine cw_ret ?_
    exact fin1 (v := .bool (decide ((k : Int) = ((flat es).length : Nat)))) rfl rfl ⟨by rw [decide_eq_true (by omega)], H.below⟩
  · -- slot 69 False
    refine lw_nil ?_
    refine cw_false rfl ?_
    refine cw_skip ?_
    refine cw_seq ?_
    refine cw_region ?_ -- region 11 low.go:82
    refine l1 (mvS_r rfl) rfl rfl rfl ?_
    refine l1 (mvS_r rfl) rfl rfl rfl ?_
    refine l1 (lenS_r len_LEntry rfl) rfl rfl rfl ?_
    refine ixF H 1 rfl sl_LEntry rfl rfl (by omega) (by omega) rfl ?_; intro b11 o11 x11 e11
    have hxk : es[m]? = some x11 := by have := e11.at_; rwa [hlm] at this
    have hg := hgood _ (List.mem_of_getElem? hxk)
    have hel2 := encB_le hg
    have hwx := hwl hxk
    refine l1 (ldA_r (xs := Ent.c x11) agg_Entry rfl rfl e11.cl) rfl rfl rfl ?_
    refine cal cb_wire_Encode (encode_ok x11 _ hg) rfl rfl ?_
    rintro _ w13 ⟨A12, c12, rfl, hr12, hc12, hb12⟩; replace H := H.learnRd hb12 hr12; clear hr12 hb12
    refine l1 (mvU_r rfl) rfl rfl rfl ?_
    refine l1 (exS_r rfl rfl) rfl rfl rfl ?_
    refine l1 (exI_r rfl rfl) rfl rfl rfl ?_
    refine l1 (asS_r rfl) rfl rfl rfl ?_
    refine l1 (asI_r rfl) rfl rfl rfl ?_
    refine lw_nil ?_
    refine cw_seq ?_
    refine cw_region ?_ -- region 12 low.go:83
    refine l1 (mvI_r rfl) rfl rfl rfl ?_
    refine l1 (eqlT_r rfl rfl rfl) rfl rfl rfl ?_
    refine l1 (mvB_r rfl) rfl rfl rfl ?_
    refine lwG rfl ?_
    refine l1 (mvI_r rfl) rfl rfl rfl ?_
    refine lwG rfl ?_
    refine l1 (mvS_r rfl) rfl rfl rfl ?_
    refine lwG rfl ?_
    refine l1 (lenS_r len_Lbyte rfl) rfl rfl rfl ?_
    refine lwG rfl ?_
    refine l1 (add_r rfl rfl (by omega) (by omega)) rfl rfl rfl ?_
    refine lwG rfl ?_
    refine l1 (mvI_r rfl) rfl rfl rfl ?_
    refine lwG rfl ?_
    refine lwD (gtr_r rfl rfl) rfl rfl rfl (fun h90 => ?_) (fun h90 => ?_)
    · -- slot 90 True
      refine l1 (pkTB_r rfl rfl) rfl rfl rfl ?_
      refine l1 (asB_r rfl) rfl rfl rfl ?_
      refine lw_nil ?_
      refine cw_ret ?_
      exact fin1 (v := .bool true) rfl rfl ⟨rfl, H.below⟩
    · -- slot 90 False
      exfalso; omega
end Go.Proofs.Ytemnchkebhclpaa
