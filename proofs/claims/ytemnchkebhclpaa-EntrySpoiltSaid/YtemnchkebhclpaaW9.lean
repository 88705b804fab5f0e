/- W9: a part of the proofs over this seat: what stands in its theorems holds for every input that they name. -/
import Derived.Test.YtemnchkebhclpaaW8
namespace Go.Proofs.Ytemnchkebhclpaa
open Go Go.Eng Go.RowKit

theorem flat_one (e : Ent) : flat [e] = encB e := by simp [flat]
theorem flat_succ {es : List Ent} {k : Nat} (h : k < es.length) : flat (es.take (k + 1)) = flat (es.take k) ++ encB es[k] := by
  unfold flat
  rw [List.take_succ_eq_append_getElem h, List.flatMap_append, List.flatMap_singleton]
theorem flat_take_le (es : List Ent) (k : Nat) : (flat (es.take k)).length ≤ (flat es).length := by
  have : flat es = flat (es.take k) ++ flat (es.drop k) := by
    unfold flat; rw [← List.flatMap_append, List.take_append_drop]
  rw [this, List.length_append]; omega

def e0 : Ent := ⟨0, 1, 0, 0, 2, true, ⟨#[]⟩⟩
set_option maxRecDepth 10000 in
theorem wireTells_ok (w : World) : Ret Try.prog i_tailracekeep_wireTells [] w fun v w2 => v = .bool true ∧ Below w.heap.size w w2 := by
  have hg : Good e0 := by unfold Good; decide
  refine ret_of fn_tailracekeep_wireTells rfl rfl ?_
  have H := Hp.start w
  refine cw_seq ?_
  refine cw_region ?_ -- region 0
  refine asB rfl rfl ?_  -- 0 alive.go:12
  refine lw_nil ?_
  refine cw_seq ?_
  refine cw_region ?_ -- region 1
  refine l1 (v := e0.v) (bld_r st_Entry z_Entry rfl) rfl rfl rfl ?_
  refine cal cb_wire_Encode (encode_ok e0 _ hg) rfl rfl ?_; rintro _ w1 ⟨A1, c1, rfl, hr1, hc1, hb1⟩; replace H := H.later hb1
  refine mvU rfl rfl ?_  -- 5 alive.go:13
  refine exV rfl rfl rfl ?_  -- 8 alive.go:13
  refine exV rfl rfl rfl ?_  -- 9 alive.go:13
  refine asS rfl rfl ?_  -- 1 alive.go:13
  refine asI rfl rfl ?_  -- 2 alive.go:13
  refine lw_nil ?_
  have hl := encB_len e0
  obtain ⟨hbl, hb0⟩ := bodyB_len hg
  refine cw_seq ?_
  refine cw_region ?_ -- region 2
  refine mvS rfl rfl ?_  -- 11 alive.go:14
  refine cal cb_wire_Decode (decode_ok (encB e0) A1 c1 _ (hr1.mono (Nat.zero_le _) (Nat.le_refl _)) hc1 (by omega)) rfl rfl ?_; rintro _ w2 ⟨es, n, A2, c2, rfl, hd, -, -, hb2⟩; replace H := H.later hb2 -- args ['11']  -- 12 alive.go:14
  have hd1 := dec_enc [e0] [] (by simp [hg]) rfl
  rw [List.append_nil, flat_one] at hd1
  obtain ⟨rfl, rfl⟩ := dec_fun hd hd1
  refine mvU rfl rfl ?_  -- 10 alive.go:14
  refine exV rfl rfl rfl ?_  -- 13 alive.go:14
  refine exV rfl rfl rfl ?_  -- 14 alive.go:14
  refine asS rfl rfl ?_  -- 3 alive.go:14
  refine asI rfl rfl ?_  -- 4 alive.go:14
  refine lw_nil ?_
  refine cw_seq ?_
  refine cw_region ?_ -- region 3
  refine mvI rfl rfl ?_  -- 15 alive.go:15
  refine eqlT rfl rfl rfl rfl ?_
  refine mvB rfl rfl ?_  -- 17 alive.go:15
  refine lwG rfl ?_
  refine mvS rfl rfl ?_  -- 18 alive.go:15
  refine lwG rfl ?_
  refine lenS len_Lbyte rfl rfl ?_  -- 19 alive.go:15
  refine lwG rfl ?_
  refine gtrT rfl rfl (by omega) rfl ?_
  refine pkTB rfl rfl rfl ?_ -- or pkFB  -- 21 alive.go:15
  refine mvB rfl rfl ?_  -- 22 alive.go:15
  refine lwG rfl ?_
  refine mvI rfl rfl ?_  -- 23 alive.go:15
  refine lwG rfl ?_
  refine mvS rfl rfl ?_  -- 24 alive.go:15
  refine lwG rfl ?_
  refine lenS len_Lbyte rfl rfl ?_  -- 25 alive.go:15
  refine lwG rfl ?_
  refine eqlT rfl rfl rfl rfl ?_
  refine pkTB rfl rfl rfl ?_ -- or pkFB  -- 27 alive.go:15
  refine mvB rfl rfl ?_  -- 28 alive.go:15
  refine lwG rfl ?_
  refine mvS rfl rfl ?_  -- 29 alive.go:15
  refine lwG rfl ?_
  refine lenS len_LEntry rfl rfl ?_  -- 30 alive.go:15
  refine lwG rfl ?_
  refine eqlT rfl rfl rfl rfl ?_
  refine pkTB rfl rfl rfl ?_ -- or pkFB  -- 32 alive.go:15
  refine asB rfl rfl ?_  -- 0 alive.go:15
  refine lw_nil ?_
  refine cw_ret ?_
  exact fin1 (v := .bool true) rfl rfl ⟨rfl, H.below⟩

set_option maxRecDepth 10000 in
theorem entryFixed_ok (l : List UInt8) (A : Option Addr) (c : Nat) (w : World) (hr : Rd byteL 0 w.heap.size A l w) (hc : l.length ≤ c) (hbd : l.length ≤ 1000000000000) :
    Ret Try.prog i_tailracekeep_EntryFixed [.slice A l.length c] w fun v w2 => v = .bool true ∧ Below w.heap.size w w2 := by
  refine ret_of fn_tailracekeep_EntryFixed rfl rfl ?_
  refine cw_seq ?_
  refine cw_region ?_ -- region 0
  refine asB rfl rfl ?_  -- 2 low.go:51
  refine lw_nil ?_
  refine cw_seq ?_
  refine cw_seq ?_
  refine cw_region ?_ -- region 1
  refine cal cb_tailracekeep_wireTells (wireTells_ok _) rfl rfl ?_; rintro _ w1 ⟨rfl, hb1⟩
  refine not rfl rfl ?_  -- 11 low.go:52
  refine lw_nil ?_
  refine cw_false rfl ?_
  refine cw_skip ?_
  refine cw_seq ?_
  refine cw_region ?_ -- region 3
  refine mvS rfl rfl ?_  -- 13 low.go:55
  refine cal cb_wire_Decode (decode_ok l A c _ ((hr.below hb1).mono (Nat.le_refl _) hb1.size) hc hbd) rfl rfl ?_; rintro _ w2 ⟨es, n, A2, c2, rfl, hd, hr2, hc2, hb2⟩
  have hb02 : Below w.heap.size w w2 := hb1.trans (hb2.mono hb1.size)
  obtain ⟨d1, d2, d3, d4, -⟩ := dec_inv hd
  have H := Hp.start w2
  refine mvU rfl rfl ?_  -- 12 low.go:55
  refine exV rfl rfl rfl ?_  -- 15 low.go:55
  refine exV rfl rfl rfl ?_  -- 16 low.go:55
  refine asS rfl rfl ?_  -- 3 low.go:55
  refine asI rfl rfl ?_  -- 4 low.go:55
  refine lw_nil ?_
  refine cw_seq ?_
  refine cw_region ?_ -- region 4
  refine asS rfl rfl ?_  -- 5 low.go:56
  refine lw_nil ?_
  refine cw_seq ?_
  refine cw_seq ?_
  refine cw_region ?_ -- region 5
  refine mvS rfl rfl ?_  -- 17 low.go:57
  refine lenS len_LEntry rfl rfl ?_  -- 18 low.go:57
  refine mvI rfl rfl ?_  -- 19 low.go:57
  refine lw_nil ?_
  refine cw_block ?_ -- block 0
  have hel : es.length ≤ (flat es).length := by
    clear d1 d2 d3 d4 hd hr2 hc2
    induction es with
    | nil => simp
    | cons e es ih =>
      have := encB_len e
      have e1 : flat (e :: es) = encB e ++ flat es := by simp [flat]
      rw [e1, List.length_append, List.length_cons]
      omega
  refine cw_loop (τ := Nat × Option Addr × Nat) [2, 5, 7, 8, 9, 19, 20, 21, 22, 23, 24, 25, 26, 27, 28, 29, 30, 31, 32, 33]
    (fun (k, A1, c1) => [(5, .slice A1 (flat (es.take k)).length c1), (19, .int .i64 (k : Nat))])
    (fun (k, A1, c1) w' => k ≤ es.length ∧ ∃ L', Own byteL (.slice A1 (flat (es.take k)).length c1) T_byte (flat (es.take k)) L' ∧ Hp w2 w' ([] ++ L' ++ []) [])
    (fun (k, _, _) => es.length - k) (0, none, 0) ⟨by omega, [], Own.nil, H⟩ (sl2 rfl rfl) ?_ -- LOOP
  rintro ⟨k, A1, c1⟩ ρ1 w3 ⟨hk, L1, ho, H⟩
  show CW _ _ _ _ (updL (ovr _ _ ρ1) [(5, .slice A1 (flat (es.take k)).length c1), (19, .int .i64 (k : Nat))]) w3
  refine cw_seq ?_
  refine cw_region ?_ -- region 6
  refine lssS rfl rfl rfl (fun h20 => ?_) (fun h20 => ?_)  -- 20 low.go:57
  all_goals refine lw_nil ?_
  all_goals refine cw_seq ?_
  -- IF slot 20
  · refine cw_true rfl ?_
    refine cw_skip ?_
    have hkl : k < es.length := by omega
    obtain ⟨bb, o, rfl, -, hbl, hcl⟩ := hr2.at_ hkl
    have hge : Good es[k] := d4 _ (List.getElem_mem hkl)
    have hfs := flat_succ hkl
    have hfl := flat_take_le es (k + 1)
    rw [hfs, List.length_append] at hfl
    generalize es[k] = e at *
    refine cw_seq ?_
    refine cw_block ?_ -- block 1
    refine cw_seq ?_
    refine cw_region ?_ -- region 7
    refine ixa sl_LEntry rfl rfl (by omega) (by omega) rfl ?_  -- 21 low.go:57
    refine ldA (xs := e.c) agg_Entry rfl rfl (fun j v hj => (H.below.cell (p := ⟨bb, _, none⟩) hbl).trans (hcl j v hj)) rfl ?_  -- 22 low.go:57
    refine alo H z_Entry rfl ?_; intro w4 b7 H  -- 7 low.go:57
    refine stW H 0 siz_Entry rfl rfl rfl rfl rfl rfl ?_; intro w5 H  -- None low.go:57
    refine lw_nil ?_
    refine cw_seq ?_
    refine cw_region ?_ -- region 8
    refine ldW H 0 agg_Entry rfl rfl rfl rfl ?_  -- 24 low.go:58
    refine cal cb_wire_Encode (encode_ok e _ hge) rfl rfl ?_; rintro _ w6 ⟨A6, c6, rfl, hr6, hc6, hb6⟩; replace H := H.later hb6 -- args ['24']  -- 25 low.go:58
    refine mvU rfl rfl ?_  -- 23 low.go:58
    refine exV rfl rfl rfl ?_  -- 26 low.go:58
    refine exV rfl rfl rfl ?_  -- 27 low.go:58
    refine asS rfl rfl ?_  -- 8 low.go:58
    refine asI rfl rfl ?_  -- 9 low.go:58
    refine lw_nil ?_
    refine cw_seq ?_
    refine cw_seq ?_
    refine cw_region ?_ -- region 9
    refine mvI rfl rfl ?_  -- 28 low.go:59
    refine l1 (neqF_r rfl rfl rfl) rfl rfl rfl ?_
    refine lw_nil ?_
    refine cw_false rfl ?_
    refine cw_skip ?_
    refine cw_region ?_ -- region 11
    refine mvS rfl rfl ?_  -- 30 low.go:62
    refine mvS rfl rfl ?_  -- 31 low.go:62
    refine apO (Y := byteL) ap_Lbyte (K := [_]) (L := L1) (M := []) H ho (news := encB e) rfl rfl rfl hr6.src (by omega) rfl ?_
    intro A7 c7 w7 L7 _ _ ho7 H7
    refine asS rfl rfl ?_  -- 5 low.go:62
    refine lw_nil ?_
    refine cw_region ?_ -- region 12
    refine add rfl rfl (by omega) (by omega) rfl ?_  -- 33 low.go:57
    refine mvI rfl rfl ?_  -- 19 low.go:57
    refine lw_nil ?_
    rw [← hfs] at ho7
    refine ⟨(k + 1, A7, c7), ⟨by omega, L7, ho7, H7.forget (by simp) (fun _ h => h)⟩, sl2 (by rw [hfs]; rfl) rfl, by repeat (first | exact agr_ovr | refine agr_upd rfl ?_ | refine agr_updL _ rfl ?_), by show es.length - (k + 1) < es.length - k; omega⟩
  · refine cw_false rfl ?_
    refine cw_exit ?_ -- 0
    have hk : k = es.length := by omega
    subst hk
    rw [List.take_length] at ho
    have hrn : Rd byteL 0 w2.heap.size (cut A c 0 1) (l.take n) w2 := (((hr.below hb02).mono (Nat.le_refl _) hb02.size).from_ (k := 0) (cut_from hc) (fun h => h)).take n
    have hnl : (l.take n).length = n := by rw [List.length_take]; omega
    refine cw_seq ?_
    refine cw_draw mixed [0, 1, 2, 3, 4, 5, 6, 7, 8, 9, 10, 11, 12, 13] [] [] [0, 1, 2, 3, 4, 5, 7, 8, 9, 11, 12, 13] (sp []) (by kernel_rfl) (by kernel_rfl) (by kernel_rfl) (by kernel_rfl) (fun _ _ _ h => h) (sp_st _) ?_
    refine aw rfl rfl rfl rfl rfl (fun _ _ => mv_r rfl) ?_  -- 34 low.go:64
    refine aw rfl rfl rfl rfl rfl (fun _ _ => mv_r rfl) ?_  -- 35 low.go:64
    refine aw rfl rfl rfl rfl rfl (fun _ _ => lenS_r len_Lbyte rfl) ?_  -- 36 low.go:64
    refine aw rfl rfl rfl rfl rfl (fun _ _ => leqT_r rfl rfl (by omega)) ?_  -- slot 37
    refine aw rfl rfl rfl rfl rfl (fun _ _ => mv_r rfl) ?_  -- 38 low.go:64
    refine aw rfl rfl rfl rfl rfl (fun _ _ => mv_r rfl) ?_  -- 39 low.go:64
    refine aw rfl rfl rfl rfl rfl (fun w' hw' => cvBT_r sl_Lbyte int_byte str_string rfl (by rw [List.take_length]) (fun _ => rfl) (ho.rd (H.later hw'))) ?_  -- 40 low.go:64
    refine aw rfl rfl rfl rfl rfl (fun _ _ => mv_r rfl) ?_  -- 41 low.go:64
    refine aw rfl rfl rfl rfl rfl (fun _ _ => mv_r rfl) ?_  -- 42 low.go:64
    refine aw rfl rfl rfl rfl rfl (fun _ _ => sliHi_r (i := (n : Nat)) sl_Lbyte rfl rfl (by omega) (by omega)) ?_
    refine aw rfl rfl rfl rfl rfl (fun w' hw' => cvBT_r sl_Lbyte int_byte str_string rfl (by rw [hnl]; rfl) (fun _ => rfl) (hrn.below (H.later hw').below)) ?_  -- 44 low.go:64
    refine aw rfl rfl rfl rfl rfl (fun _ _ => seqlT_r rfl rfl (by rw [d1])) ?_  -- 45 low.go:64
    refine aw rfl rfl rfl rfl rfl (fun _ _ => pkT_r rfl rfl) ?_ -- or pkFB  -- 46 low.go:64
    refine aw rfl rfl rfl rfl rfl (fun _ _ => as_r rfl) ?_  -- 2 low.go:64
    refine aw_nil ?_
    intro w' hw' hF; replace H := H.later hw'; clear hw'
    refine lw_nil ?_
    refine cw_ret ?_
    exact fin1 (v := .bool true) rfl rfl ⟨rfl, hb02.trans (H.below.mono hb02.size)⟩
end Go.Proofs.Ytemnchkebhclpaa
