/- S10: a part of the proofs over this seat: what stands in its theorems holds for every input that they name. -/
import Derived.Test.YtemnchkebhclpaaS9
import Derived.Test.YtemnchkebhclpaaGE
namespace Go.Proofs.Ytemnchkebhclpaa
open Go Go.Eng Go.RowKit
set_option linter.unusedSimpArgs false
theorem info_byte : (Try.prog.info? 5).map (fun i => (i.zero, i.size, i.bytes)) = some (some (.int .u8 0), 1, 1) := by kernel_rfl
def zeros (n : Nat) : ByteArray := ⟨(List.replicate n (0 : UInt8)).toArray⟩
theorem zeros_size (n : Nat) : (zeros n).size = n := by show (List.replicate n (0 : UInt8)).toArray.size = n; simp
theorem zeros_all (n : Nat) : (List.replicate n (Value.int .u8 0)).toArray.toList = byteL.all (List.replicate n 0) := by
  show List.replicate n (Value.int .u8 0) = _
  induction n with
  | zero => rfl
  | succ n ih => rw [List.replicate_succ, ih, List.replicate_succ]; rfl
def no : ByteArray := ⟨#[]⟩
def od (k : Nat) : List Ent := [⟨0, 0, 0, 0, 0, false, no⟩, ⟨0, 0, 0, 0, 3 + (k : Nat), false, no⟩, ⟨-(k : Nat), 0, 0, 0, 1, false, no⟩, ⟨0, 1073741824 + (k : Nat), 0, 0, 1, false, no⟩, ⟨0, 0, 0, 0, 1, false, zeros (40 + k)⟩, ⟨0, 0, 0, 0, 2, false, no⟩, ⟨0, (k : Nat), 0, 0, 2, false, no⟩, ⟨0, (k : Nat), 0, (k : Nat), 3, true, no⟩, ⟨0, 0, 0, 0, 1, true, no⟩, ⟨0, 0, 0, (k : Nat), 1, false, no⟩]
def er : List Int := [3, 3, 2, 2, 1, 4, 4, 4, 4, 4]
theorem no_size : no.size = 0 := rfl
theorem od_law {k : Nat} (h1 : 1 ≤ k) (h2 : k ≤ 100) {i : Nat} {x : Ent} (h : (od k)[i]? = some x) {z : Int} (hz : er[i]? = some z) : entCheck x = z ∧ z ≠ 0 := by
  have hi : i < 10 := (List.getElem?_eq_some_iff.1 h).1
  have hzs := zeros_size (40 + k)
  have hns := no_size
  have b1 : ¬ (k : Int) = 0 := by omega
  match i, hi with
  | 0, _ => cases h; cases hz; exact ⟨by simp [entCheck], by decide⟩
  | 1, _ => cases h; cases hz; exact ⟨by unfold entCheck; rw [if_pos (by dsimp only; omega)], by decide⟩
  | 2, _ => cases h; cases hz; exact ⟨by unfold entCheck; rw [if_neg (by dsimp only; omega), if_pos (by simp [Ent.nums, inNum]; omega)], by decide⟩
  | 3, _ => cases h; cases hz; exact ⟨by unfold entCheck; rw [if_neg (by dsimp only; omega), if_pos (by simp [Ent.nums, inNum]; omega)], by decide⟩
  | 4, _ => cases h; cases hz; exact ⟨by unfold entCheck; rw [if_neg (by dsimp only; omega), if_neg (by simp [Ent.nums, inNum]), if_pos (by dsimp only; omega)], by decide⟩
  | 5, _ => cases h; cases hz; exact ⟨by unfold entCheck; rw [if_neg (by dsimp only; omega), if_neg (by simp [Ent.nums, inNum]), if_neg (by dsimp only; omega), if_pos (by simp [Ent.noForm])], by decide⟩
  | 6, _ => cases h; cases hz; exact ⟨by unfold entCheck; rw [if_neg (by dsimp only; omega), if_neg (by simp [Ent.nums, inNum]; omega), if_neg (by dsimp only; omega), if_pos (by simp [Ent.noForm])], by decide⟩
  | 7, _ => cases h; cases hz; exact ⟨by unfold entCheck; rw [if_neg (by dsimp only; omega), if_neg (by simp [Ent.nums, inNum]; omega), if_neg (by dsimp only; omega), if_pos (by left; exact ⟨show (3 : Int) ≠ 1 by decide, .inr (.inr (.inl b1))⟩)], by decide⟩
  | 8, _ => cases h; cases hz; exact ⟨by unfold entCheck; rw [if_neg (by dsimp only; omega), if_neg (by simp [Ent.nums, inNum]), if_neg (by dsimp only; omega), if_pos (by simp [Ent.noForm])], by decide⟩
  | 9, _ => cases h; cases hz; exact ⟨by unfold entCheck; rw [if_neg (by dsimp only; omega), if_neg (by simp [Ent.nums, inNum]; omega), if_neg (by dsimp only; omega), if_pos (by right; exact ⟨rfl, .inr (by dsimp only; omega)⟩)], by decide⟩
set_option maxHeartbeats 4000000 in
set_option maxRecDepth 10000 in
theorem entryBad_ok (a_ b_ : Int) (w : World) (ha : i64 a_) (hb : i64 b_) :
    Ret Try.prog i_tailracekeep_EntryBad [.int .i64 a_, .int .i64 b_] w fun v w2 => v = .bool true ∧ Below w.heap.size w w2 := by
  refine ret_of fn_tailracekeep_EntryBad rfl rfl ?_
  have H := Hp.start w
  obtain ⟨ha1, ha2⟩ := ha
  obtain ⟨hb1, hb2⟩ := hb
  refine cw_seq ?_
  refine cw_region ?_ -- region 0 low.go:100
  refine l1 (asB_r rfl) rfl rfl rfl ?_
  refine lw_nil ?_
  refine cw_seq ?_
  refine cw_region ?_ -- region 1 low.go:101
  refine l1 (mvI_r rfl) rfl rfl rfl ?_
  refine cal cb_tailracekeep_picked (picked_ok b_ 100 _ (by omega) (by omega) (by omega) (by omega)) rfl rfl ?_
  rintro _ w1 ⟨rfl, hb⟩; replace H := H.later hb; clear hb
  have hpl := pk_lt b_ (show 0 < 100 by omega)
  generalize pk b_ 100 = p at hpl ⊢
  refine l1 (add_r rfl rfl (by omega) (by omega)) rfl rfl rfl ?_
  obtain ⟨k, hk⟩ : ∃ k : Nat, (1 : Int) + (p : Nat) = k := ⟨1 + p, by omega⟩
  rw [hk]
  have hk1 : 1 ≤ k := by omega
  have hk2 : k ≤ 100 := by omega
  refine l1 (asI_r rfl) rfl rfl rfl ?_
  refine lw_nil ?_
  refine cw_seq ?_
  refine cw_region ?_ -- region 2 low.go:102
  refine l1 (bld_r (cs := #[.int .i64 0, .int .i64 0, .int .i64 0, .int .i64 0, .int .i64 0, .bool false, .string no]) st_Entry z_Entry (by kernel_rfl)) rfl rfl rfl ?_
  refine l1 (mvI_r rfl) rfl rfl rfl ?_
  refine l1 (add_r rfl rfl (by omega) (by omega)) rfl rfl rfl ?_
  refine l1 (bld_r (cs := #[.int .i64 0, .int .i64 0, .int .i64 0, .int .i64 0, .int .i64 (3 + (k : Nat)), .bool false, .string no]) st_Entry z_Entry (by kernel_rfl)) rfl rfl rfl ?_
  refine l1 (mvI_r rfl) rfl rfl rfl ?_
  refine l1 (neg_r rfl (by omega) (by omega)) rfl rfl rfl ?_
  refine l1 (bld_r (cs := #[.int .i64 (-(k : Nat)), .int .i64 0, .int .i64 0, .int .i64 0, .int .i64 1, .bool false, .string no]) st_Entry z_Entry (by kernel_rfl)) rfl rfl rfl ?_
  refine l1 (mvI_r rfl) rfl rfl rfl ?_
  refine l1 (add_r rfl rfl (by omega) (by omega)) rfl rfl rfl ?_
  refine l1 (bld_r (cs := #[.int .i64 0, .int .i64 (1073741824 + (k : Nat)), .int .i64 0, .int .i64 0, .int .i64 1, .bool false, .string no]) st_Entry z_Entry (by kernel_rfl)) rfl rfl rfl ?_
  refine l1 (mvI_r rfl) rfl rfl rfl ?_
  refine l1 (add_r rfl rfl (by omega) (by omega)) rfl rfl rfl ?_
  rw [show (40 : Int) + (k : Nat) = ((40 + k : Nat) : Int) by omega]
  refine mks (m := 40 + k) H sl_Lbyte info_byte rfl rfl rfl (by omega) (by omega) rfl ?_; intro w2 b28 H
  replace H := H.settle (Y := byteL) (es := List.replicate (40 + k) 0) (zeros_all _)
  refine l1 (cvBT_r (Y := byteL) (l := List.replicate (40 + k) 0) sl_Lbyte int_byte str_string rfl (by simp) (fun _ => rfl) (H.fact (i := 0) rfl)) rfl rfl rfl ?_
  refine l1 (bld_r (cs := #[.int .i64 0, .int .i64 0, .int .i64 0, .int .i64 0, .int .i64 1, .bool false, .string (zeros (40 + k))]) st_Entry z_Entry (by kernel_rfl)) rfl rfl rfl ?_
  refine l1 (bld_r (cs := #[.int .i64 0, .int .i64 0, .int .i64 0, .int .i64 0, .int .i64 2, .bool false, .string no]) st_Entry z_Entry (by kernel_rfl)) rfl rfl rfl ?_
  refine l1 (mvI_r rfl) rfl rfl rfl ?_
  refine l1 (bld_r (cs := #[.int .i64 0, .int .i64 (k : Nat), .int .i64 0, .int .i64 0, .int .i64 2, .bool false, .string no]) st_Entry z_Entry (by kernel_rfl)) rfl rfl rfl ?_
  refine l1 (mvI_r rfl) rfl rfl rfl ?_
  refine l1 (mvI_r rfl) rfl rfl rfl ?_
  refine l1 (bld_r (cs := #[.int .i64 0, .int .i64 (k : Nat), .int .i64 0, .int .i64 (k : Nat), .int .i64 3, .bool true, .string no]) st_Entry z_Entry (by kernel_rfl)) rfl rfl rfl ?_
  refine l1 (bld_r (cs := #[.int .i64 0, .int .i64 0, .int .i64 0, .int .i64 0, .int .i64 1, .bool true, .string no]) st_Entry z_Entry (by kernel_rfl)) rfl rfl rfl ?_
  refine l1 (mvI_r rfl) rfl rfl rfl ?_
  refine l1 (bld_r (cs := #[.int .i64 0, .int .i64 0, .int .i64 0, .int .i64 (k : Nat), .int .i64 1, .bool false, .string no]) st_Entry z_Entry (by kernel_rfl)) rfl rfl rfl ?_
  refine bsv (vs := (od k).map Ent.v) H sl_LEntry z_Entry rfl rfl rfl rfl rfl rfl ?_; intro w3 b40 H
  replace H := H.settle (Y := entL) (es := od k) rfl
  have hodl : (od k).length = 10 := rfl
  refine l1 (asS_r rfl) rfl rfl rfl ?_
  refine lw_nil ?_
  refine cw_seq ?_
  refine cw_region ?_ -- region 3 low.go:103
  refine bsv (vs := er.map fun z => .int .i64 z) H sl_LErrno z_Errno rfl rfl rfl rfl rfl rfl ?_; intro w4 b41 H
  replace H := H.settle (Y := intL) (es := er) rfl
  have herl : er.length = 10 := rfl
  refine l1 (asS_r rfl) rfl rfl rfl ?_
  refine lw_nil ?_
  refine cw_seq ?_
  refine cw_region ?_ -- region 4 low.go:104
  refine l1 (mvI_r rfl) rfl rfl rfl ?_
  refine l1 (mvS_r rfl) rfl rfl rfl ?_
  refine l1 (lenS_r len_LEntry rfl) rfl rfl rfl ?_
  refine cal cb_tailracekeep_picked (picked_ok a_ 10 _ (by omega) (by omega) (by omega) (by omega)) rfl rfl ?_
  rintro _ w5 ⟨rfl, hb⟩; replace H := H.later hb; clear hb
  have hil := pk_lt a_ (show 0 < 10 by omega)
  generalize pk a_ 10 = i at hil ⊢
  refine l1 (asI_r rfl) rfl rfl rfl ?_
  refine lw_nil ?_
  refine cw_seq ?_
  obtain ⟨z, hz⟩ : ∃ z, er[i]? = some z := ⟨_, List.getElem?_eq_getElem (by omega)⟩
  have hz0 : z ≠ 0 := (od_law hk1 hk2 (List.getElem?_eq_getElem (show i < (od k).length by omega)) hz).2
  refine cw_region ?_ -- region 5 low.go:105
  refine l1 (mvS_r rfl) rfl rfl rfl ?_
  refine l1 (mvI_r rfl) rfl rfl rfl ?_
  refine ixF H 1 rfl sl_LEntry rfl rfl (by omega) (by omega) rfl ?_; intro b6 o6 x6 e6
  have hEa := (od_law hk1 hk2 e6.at_ hz).1
  have hNa : entCheck x6 ≠ 0 := by rw [hEa]; exact hz0
  refine l1 (ldA_r (xs := Ent.c x6) agg_Entry rfl rfl e6.cl) rfl rfl rfl ?_
  refine cal cb_wire_Encode (encode_bad x6 _ hNa) rfl rfl ?_
  rw [hEa]
  rintro _ w7 ⟨rfl, hb⟩; replace H := H.later hb; clear hb
  refine l1 (mvU_r rfl) rfl rfl rfl ?_
  refine l1 (exS_r rfl rfl) rfl rfl rfl ?_
  refine l1 (exI_r rfl rfl) rfl rfl rfl ?_
  refine l1 (asS_r rfl) rfl rfl rfl ?_
  refine l1 (asI_r rfl) rfl rfl rfl ?_
  refine lw_nil ?_
  refine cw_seq ?_
  refine cw_region ?_ -- region 6 low.go:106
  refine l1 (bld_r (cs := #[.slice none 0 0, .int .i64 0]) st_Log z_Log (by kernel_rfl)) rfl rfl rfl ?_
  refine l1 (mvS_r rfl) rfl rfl rfl ?_
  refine l1 (mvI_r rfl) rfl rfl rfl ?_
  refine ixF H 1 rfl sl_LEntry rfl rfl (by omega) (by omega) rfl ?_; intro b8 o8 x8 e8
  have hEb := (od_law hk1 hk2 e8.at_ hz).1
  have hNb : entCheck x8 ≠ 0 := by rw [hEb]; exact hz0
  refine l1 (ldA_r (xs := Ent.c x8) agg_Entry rfl rfl e8.cl) rfl rfl rfl ?_
  refine cal cb_seg_Append (segAppend_bad ⟨none, 0, [], 0⟩ x8 _ ⟨⟨by simp, by simp, by simp [flat], by simp⟩, Nat.le_refl _, Rd.nil⟩ hNb) rfl rfl ?_
  rw [hEb]
  rintro _ w9 ⟨rfl, hb⟩; replace H := H.later hb; clear hb
  refine l1 (mvU_r rfl) rfl rfl rfl ?_
  refine l1 (exA_r rfl rfl) rfl rfl rfl ?_
  refine l1 (exI_r rfl rfl) rfl rfl rfl ?_
  refine alo H z_Log rfl ?_; intro w10 b11 H
  refine stN H 0 (#[.slice none 0 0, .int .i64 0]) siz_Log rfl rfl rfl rfl rfl (by kernel_rfl) (by kernel_rfl) ?_; intro w11 H
  refine l1 (asI_r rfl) rfl rfl rfl ?_
  refine lw_nil ?_
  refine cw_seq ?_
  -- region 7 draws
  refine cw_draw mixed [0, 1, 2, 3, 4, 5, 6, 7, 8, 9, 10, 11, 12, 13, 14, 15, 16, 17, 18, 20, 21, 22, 23, 19, 24, 25, 26] [] [19] [0, 1, 2, 3, 5, 6, 7, 8, 9, 10, 12, 13, 14, 15, 16, 17, 20, 21, 22, 24, 25, 26] (sp [(19, Sp.one (.int .i64 z))]) (by kernel_rfl) (by kernel_rfl) (by kernel_rfl) (by kernel_rfl) (fun _ _ _ h => h) (sp_st _) ?_
  refine aw rfl rfl rfl rfl rfl (fun w' hw' => mvI_r rfl) ?_
  refine aw rfl rfl rfl rfl rfl (fun w' hw' => mvS_r rfl) ?_
  refine aw rfl rfl rfl rfl rfl (fun w' hw' => mvI_r rfl) ?_
  refine awIxF H 0 rfl rfl rfl rfl rfl sl_LErrno rfl rfl (by omega) (by omega) ?_; intro b12 o12 x12 e12
  obtain rfl : z = x12 := by have := e12.at_; rw [hz] at this; injection this
  refine aw rfl rfl rfl rfl rfl (fun w' hw' => ld_r one_Errno rfl (e12.later hw' 0 _ rfl)) ?_
  refine aw rfl rfl rfl rfl rfl (fun w' hw' => eqlT_r rfl rfl rfl) ?_
  refine aw rfl rfl rfl rfl rfl (fun w' hw' => mvB_r rfl) ?_
  refine aw rfl rfl rfl rfl rfl (fun w' hw' => mvI_r rfl) ?_
  refine aw rfl rfl rfl rfl rfl (fun w' hw' => mvS_r rfl) ?_
  refine aw rfl rfl rfl rfl rfl (fun w' hw' => mvI_r rfl) ?_
  refine awIxF H 0 rfl rfl rfl rfl rfl sl_LErrno rfl rfl (by omega) (by omega) ?_; intro b13 o13 x13 e13
  obtain rfl : z = x13 := by have := e13.at_; rw [hz] at this; injection this
  refine aw rfl rfl rfl rfl rfl (fun w' hw' => ld_r one_Errno rfl (e13.later hw' 0 _ rfl)) ?_
  refine aw rfl rfl rfl rfl rfl (fun w' hw' => eqlT_r rfl rfl rfl) ?_
  refine aw rfl rfl rfl rfl rfl (fun w' hw' => pkTB_r rfl rfl) ?_
  refine aw rfl rfl rfl rfl rfl (fun w' hw' => mvB_r rfl) ?_
  refine aw rfl rfl rfl rfl rfl (fun w' hw' => mvS_r rfl) ?_
  refine aw rfl rfl rfl rfl rfl (fun w' hw' => mvI_r rfl) ?_
  refine awIxF H 1 rfl rfl rfl rfl rfl sl_LEntry rfl rfl (by omega) (by omega) ?_; intro b14 o14 x14 e14
  have hEc := (od_law hk1 hk2 e14.at_ hz).1
  have hNc : entCheck x14 ≠ 0 := by rw [hEc]; exact hz0
  refine aw rfl rfl rfl rfl rfl (fun w' hw' => ldA_r (xs := Ent.c x14) agg_Entry rfl rfl (e14.later hw')) ?_
  refine aw rfl rfl rfl rfl rfl (fun w' hw' => mvS_r rfl) ?_
  refine aw rfl rfl rfl rfl rfl (fun w' hw' => mvI_r rfl) ?_
  refine awIxF H 0 rfl rfl rfl rfl rfl sl_LErrno rfl rfl (by omega) (by omega) ?_; intro b15 o15 x15 e15
  obtain rfl : z = x15 := by have := e15.at_; rw [hz] at this; injection this
  refine aw rfl rfl rfl rfl rfl (fun w' hw' => ld_r one_Errno rfl (e15.later hw' 0 _ rfl)) ?_
  refine awCalV cb_wire_Check rfl rfl rfl rfl rfl (fun w' hw' => by have := wcheck_ok x14 w'; rwa [hEc] at this) rfl ?_
  refine aw rfl rfl rfl rfl rfl (fun w' hw' => eqlT_r rfl rfl rfl) ?_
  refine aw rfl rfl rfl rfl rfl (fun w' hw' => pkTB_r rfl rfl) ?_
  refine aw rfl rfl rfl rfl rfl (fun w' hw' => asB_r rfl) ?_
  refine aw_nil ?_
  intro w16 hw' hF
  replace H := H.later hw'; clear hw' hF
  refine lw_nil ?_
  refine cw_ret ?_
  exact fin1 (v := .bool true) rfl rfl ⟨rfl, H.below⟩
end Go.Proofs.Ytemnchkebhclpaa
