/- W16: a part of the proofs over this seat: what stands in its theorems holds for every input that they name. -/
import Derived.Test.YtemnchkebhclpaaW15
import Derived.Test.YtemnchkebhclpaaEngK
namespace Go.Proofs.Ytemnchkebhclpaa
open Go Go.Eng Go.RowKit
theorem und_bool : Try.prog.underlying T_bool = some .bool := by kernel_rfl
theorem spoilt_law {e : Ent} (hg : Good e) {k : Nat} {x d : UInt8} (hx : (encB e)[k]? = some x) {fs : List Ent} {n : Nat} (hd : Dec ((encB e).set k (x + d)) fs n) : ((d.toNat : Int) = 0) ↔ fs = [e] := by
  obtain ⟨hk, hxe⟩ := getE hx
  constructor
  · intro h
    have hd0 : d = 0 := by
      apply UInt8.toNat_inj.1
      simp; omega
    subst hd0
    have e1 : (encB e).set k (x + 0) = flat [e] := by
      rw [flat_one, UInt8.add_zero, ← hxe, List.set_getElem_self]
    rw [e1] at hd
    exact (dec_fun hd (dec_flat [e] (by simpa using hg))).1
  · intro h
    subst h
    obtain ⟨h1, h2, h3, -, -⟩ := dec_inv hd
    rw [flat_one] at h1 h2
    have h4 : (encB e).set k (x + d) = encB e := by
      rw [List.take_of_length_le (by rw [List.length_set]; omega)] at h1
      exact h1
    have h5 : ((encB e).set k (x + d))[k]? = some (x + d) := by rw [List.getElem?_set_self hk]
    rw [h4, hx] at h5
    injection h5 with h5
    have h6 := congrArg UInt8.toNat h5
    rw [UInt8.toNat_add] at h6
    have := UInt8.toNat_lt x
    have := UInt8.toNat_lt d
    omega
set_option maxHeartbeats 4000000 in
set_option maxRecDepth 10000 in
theorem entrySpoilt_ok (r : Raw) (at_ : Int) (by_ : UInt8) (w : World) (hok : r.ok) (hat : i64 at_) :
    Ret Try.prog i_tailracekeep_EntrySpoilt [.agg r.cs.toArray, .int .i64 at_, .int .u8 (by_.toNat : Nat)] w fun v w2 => v = .bool true ∧ Below w.heap.size w w2 := by
  refine ret_of fn_tailracekeep_EntrySpoilt rfl rfl ?_
  have H := Hp.start w
  have hg := entry_good r
  obtain ⟨ha1, ha2⟩ := hat
  have hel := encB_le hg
  have hpos : 0 < (encB r.entry).length := by rw [encB_len]; omega
  obtain ⟨k, hk⟩ : ∃ k, pk at_ (encB r.entry).length = k := ⟨_, rfl⟩
  have hkl : k < (encB r.entry).length := by rw [← hk]; exact pk_lt _ hpos
  obtain ⟨x, hx⟩ : ∃ x, (encB r.entry)[k]? = some x := ⟨_, List.getElem?_eq_getElem hkl⟩
  refine cw_seq ?_
  refine cw_region ?_ -- region 0 low.go:87
  refine bxA H rfl rfl ?_; intro w1 b3 H
  refine l1 (asB_r rfl) rfl rfl rfl ?_
  refine lw_nil ?_
  refine cw_seq ?_
  refine cw_region ?_ -- region 1 low.go:88
  refine l1 (ldW_r agg_Raw rfl (H.ent (i := 0) rfl) rfl) rfl rfl rfl ?_
  refine cal cb_tailracekeep_Entry (entry_ok r _ hok) rfl rfl ?_
  rintro _ w2 ⟨rfl, hb⟩; replace H := H.later hb; clear hb
  refine alo H z_Entry rfl ?_; intro w3 b7 H
  refine stW H 0 siz_Entry rfl rfl rfl rfl rfl rfl ?_; intro w4 H
  refine lw_nil ?_
  refine cw_seq ?_
  refine cw_region ?_ -- region 2 low.go:89
  refine l1 (ldW_r agg_Entry rfl (H.ent (i := 0) rfl) rfl) rfl rfl rfl ?_
  refine cal cb_wire_Encode (encode_ok r.entry _ hg) rfl rfl ?_
  rintro _ w6 ⟨A5, c5, rfl, hr5, hc5, hb5⟩; replace H := H.learnRd hb5 hr5; clear hr5 hb5
  refine l1 (mvU_r rfl) rfl rfl rfl ?_
  refine l1 (exS_r rfl rfl) rfl rfl rfl ?_
  refine l1 (exI_r rfl rfl) rfl rfl rfl ?_
  refine l1 (asS_r rfl) rfl rfl rfl ?_
  refine l1 (asI_r rfl) rfl rfl rfl ?_
  refine lw_nil ?_
  refine cw_seq ?_
  refine cw_seq ?_
  refine cw_region ?_ -- region 3 low.go:90
  refine l1 (mvI_r rfl) rfl rfl rfl ?_
  refine l1 (neqF_r rfl rfl rfl) rfl rfl rfl ?_
  refine l1 (mvB_r rfl) rfl rfl rfl ?_
  refine lwG rfl ?_
  refine l1 (mvS_r rfl) rfl rfl rfl ?_
  refine lwG rfl ?_
  refine l1 (lenS_r len_Lbyte rfl) rfl rfl rfl ?_
  refine lwG rfl ?_
  refine l1 (eqlF_r rfl rfl (by omega)) rfl rfl rfl ?_
  refine l1 (pkFB_r rfl rfl) rfl rfl rfl ?_
  refine lw_nil ?_
  refine cw_false rfl ?_
  refine cw_skip ?_
  refine cw_seq ?_
  refine cw_region ?_ -- region 5 low.go:93
  refine l1 (mvS_r rfl) rfl rfl rfl ?_
  refine cal cb_slices_Clone_Lbyte_byte (clone_byte_ok (encB r.entry) _ _ _ (H.rd0 0 rfl) (by omega)) rfl rfl ?_
  rintro _ w8 ⟨A7, c7, L7, rfl, hc7, hm7, ho7, hj7⟩; replace H := H.join hj7; clear hj7
  obtain ⟨g7, cur7, rfl, rfl, row7⟩ := ho7.row hpos; clear ho7
  refine l1 (asS_r rfl) rfl rfl rfl ?_
  refine lw_nil ?_
  refine cw_seq ?_
  refine cw_region ?_ -- region 6 low.go:94
  refine l1 (mvS_r rfl) rfl rfl rfl ?_
  refine l1 (mvI_r rfl) rfl rfl rfl ?_
  refine l1 (mvS_r rfl) rfl rfl rfl ?_
  refine l1 (lenS_r len_Lbyte rfl) rfl rfl rfl ?_
  refine cal cb_tailracekeep_picked (picked_ok at_ (encB r.entry).length _ (by omega) (by omega) hpos (by omega)) rfl rfl ?_
  rintro _ w9 ⟨rfl, hb⟩; replace H := H.later hb; clear hb; rw [hk]
  refine l1 (ixR_r sl_Lbyte rfl rfl (by omega)) rfl rfl rfl ?_
  refine l1 (ldR_r one_byte row7 hx 0 rfl (H.ent (i := 0) rfl) rfl) rfl rfl rfl ?_
  refine l1 (mvI_r rfl) rfl rfl rfl ?_
  refine l1 (add8_r (a := x) (b := by_) rfl rfl) rfl rfl rfl ?_
  refine l1 (ixR_r sl_Lbyte rfl rfl (by omega)) rfl rfl rfl ?_
  refine stR H 0 (x + by_) siz_byte row7 hx 0 rfl rfl rfl rfl rfl rfl (by kernel_rfl) ?_; intro w11 cur10 row10 H
  refine lw_nil ?_
  refine cw_seq ?_
  refine cw_region ?_ -- region 7 low.go:95
  refine l1 (mvS_r rfl) rfl rfl rfl ?_
  have hD := decode_ok ((encB r.entry).set k (x + by_)) _ _ _ ((Own.rd (K := []) (Row.own row10) H).mono (Nat.zero_le _) (Nat.le_refl _)) row10.le (by rw [List.length_set]; omega)
  rw [List.length_set] at hD
  refine cal cb_wire_Decode (hD) rfl rfl ?_
  rintro _ w12 ⟨fs, nfs, Afs, cfs, rfl, hdfs, hrf, hcfs, hbf⟩; replace H := H.learnRd hbf hrf; clear hrf hbf
  refine l1 (mvU_r rfl) rfl rfl rfl ?_
  refine l1 (exS_r rfl rfl) rfl rfl rfl ?_
  refine l1 (exI_r rfl rfl) rfl rfl rfl ?_
  refine l1 (asS_r rfl) rfl rfl rfl ?_
  refine l1 (asI_r rfl) rfl rfl rfl ?_
  refine lw_nil ?_
  refine cw_seq ?_
  have hlaw := spoilt_law hg hx hdfs
  -- region 8 draws
  refine cw_draw mixed [0, 1, 2, 3, 4, 5, 6, 7, 8, 9, 10, 11, 12, 13] [] [] [0, 1, 2, 3, 4, 5, 6, 7, 10, 11, 12, 13] (sp []) (by kernel_rfl) (by kernel_rfl) (by kernel_rfl) (by kernel_rfl) (fun _ _ _ h => h) (sp_st _) ?_
  refine aw rfl rfl rfl rfl rfl (fun w' hw' => mvI_r rfl) ?_
  refine aw rfl rfl rfl rfl rfl (fun w' hw' => eql_r rfl rfl) ?_
  refine aw rfl rfl rfl rfl rfl (fun w' hw' => mvS_r rfl) ?_
  refine aw rfl rfl rfl rfl rfl (fun w' hw' => lenS_r len_LEntry rfl) ?_
  refine awD rfl rfl rfl rfl rfl (fun w' hw' => eql_r rfl rfl) (fun h48 => ?_) (fun h48 => ?_)
  · -- slot 48 True
    obtain ⟨f, rfl⟩ : ∃ f, fs = [f] := List.length_eq_one_iff.1 (by omega)
    refine aw rfl rfl rfl rfl rfl (fun w' hw' => mvB_r rfl) ?_
    refine aw rfl rfl rfl rfl rfl (fun w' hw' => mvS_r rfl) ?_
    refine awIxF (k := 0) H 0 rfl rfl rfl rfl rfl sl_LEntry rfl rfl (by omega) (by omega) ?_; intro b13 o13 x13 e13
    obtain rfl : f = x13 := by simpa using e13.at_
    refine aw rfl rfl rfl rfl rfl (fun w' hw' => ldA_r (xs := Ent.c f) agg_Entry rfl rfl (e13.later hw')) ?_
    refine aw rfl rfl rfl rfl rfl (fun w' hw' => ldW_r agg_Entry rfl ((H.later hw').ent (i := 1) rfl) rfl) ?_
    refine aw rfl rfl rfl rfl rfl (fun _ _ => aeql_r (r := decide (f = r.entry)) ent_struct ent_stood ent_guard rfl rfl (ent_cmp f r.entry) (ent_inj f r.entry)) ?_
    refine aw rfl rfl rfl rfl rfl (fun w' hw' => pkTB_r rfl rfl) ?_
    refine aw rfl rfl rfl rfl rfl (fun w' hw' => beql_r und_bool rfl rfl) ?_
    refine aw rfl rfl rfl rfl rfl (fun w' hw' => asB_r rfl) ?_
    refine aw_nil ?_
    intro w14 hw' hF
    replace H := H.later hw'; clear hw' hF
    refine lw_nil ?_
    refine cw_ret ?_
    have hv : (decide ((by_.toNat : Int) = 0) == decide (f = r.entry)) = true := by
      rw [beq_iff_eq, decide_eq_decide, hlaw]; simp
    exact fin1 (v := .bool (decide ((by_.toNat : Int) = 0) == decide (f = r.entry))) rfl rfl ⟨by rw [hv], H.below⟩
  · -- slot 48 False
    refine aw rfl rfl rfl rfl rfl (fun w' hw' => mvB_r rfl) ?_
    refine awN rfl rfl rfl rfl ?_
    refine awN rfl rfl rfl rfl ?_
    refine awN rfl rfl rfl rfl ?_
    refine awN rfl rfl rfl rfl ?_
    refine awN rfl rfl rfl rfl ?_
    refine aw rfl rfl rfl rfl rfl (fun w' hw' => pkFB_r rfl rfl) ?_
    refine aw rfl rfl rfl rfl rfl (fun w' hw' => beql_r und_bool rfl rfl) ?_
    refine aw rfl rfl rfl rfl rfl (fun w' hw' => asB_r rfl) ?_
    refine aw_nil ?_
    intro w15 hw' hF
    replace H := H.later hw'; clear hw' hF
    refine lw_nil ?_
    refine cw_ret ?_
    have hv : (decide ((by_.toNat : Int) = 0) == false) = true := by
      rw [beq_iff_eq, decide_eq_false_iff_not, hlaw]; rintro rfl; exact h48 rfl
    exact fin1 (v := .bool (decide ((by_.toNat : Int) = 0) == false)) rfl rfl ⟨by rw [hv], H.below⟩
end Go.Proofs.Ytemnchkebhclpaa
