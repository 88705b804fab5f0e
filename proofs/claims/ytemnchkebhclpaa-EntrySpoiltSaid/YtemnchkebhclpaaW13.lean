/- W13: a part of the proofs over this seat: what stands in its theorems holds for every input that they name. -/
import Derived.Test.YtemnchkebhclpaaW12
import Derived.Test.YtemnchkebhclpaaEngI
namespace Go.Proofs.Ytemnchkebhclpaa
open Go Go.Eng Go.RowKit
structure Raw where
  kind : Int
  a : Int
  b : Int
  c : Int
def Raw.cs (r : Raw) : List Value := [.int .i64 r.kind, .int .i64 r.a, .int .i64 r.b, .int .i64 r.c]
def rawL : Lay Raw := ⟨Raw.cs, 4, fun _ => rfl, by decide, fun a u hu => by
  simp only [Raw.cs, List.mem_cons, List.mem_nil_iff, or_false] at hu
  rcases hu with h | h | h | h <;> subst h <;> rfl⟩
def i64 (n : Int) : Prop := -9223372036854775808 ≤ n ∧ n ≤ 9223372036854775807
def Raw.ok (r : Raw) : Prop := i64 r.kind ∧ i64 r.a ∧ i64 r.b ∧ i64 r.c
/-- a word: a number's digits as letters, the lowest first -/
def wordB (n : Nat) : List UInt8 := if h : n = 0 then [] else UInt8.ofNat (97 + n % 10) :: wordB (n / 10)
termination_by n
decreasing_by omega
theorem wordB_pos {n : Nat} (h : 0 < n) : wordB n = UInt8.ofNat (97 + n % 10) :: wordB (n / 10) := by rw [wordB, dif_neg (by omega)]
theorem wordB_zero : wordB 0 = [] := by rw [wordB]; simp
theorem wordB_len : ∀ (k n : Nat), n < 10 ^ k → (wordB n).length ≤ k
  | 0, n, h => by
    have : n = 0 := by simpa using h
    subst this; rw [wordB_zero]; simp
  | k + 1, n, h => by
    by_cases hn : n = 0
    · subst hn; rw [wordB_zero]; simp
    · rw [wordB_pos (by omega)]
      have := wordB_len k (n / 10) (by rw [Nat.pow_succ] at h; omega)
      simp; omega
def wordT (n : Int) : ByteArray := ⟨(wordB (pk n 10000)).toArray⟩
theorem ba_app (a b : List UInt8) : (⟨a.toArray⟩ : ByteArray) ++ ⟨b.toArray⟩ = ⟨(a ++ b).toArray⟩ := by
  apply ByteArray.ext
  simp
theorem wordT_len (n : Int) : (wordT n).size ≤ 4 := by
  have := wordB_len 4 (pk n 10000) (pk_lt n (by decide))
  simpa [wordT, ByteArray.size] using this
set_option maxHeartbeats 4000000 in
set_option maxRecDepth 10000 in
theorem word_ok (n : Int) (w : World) (hn : i64 n) : Ret Try.prog i_tailracekeep_word [.int .i64 n] w fun v w2 => v = .string (wordT n) ∧ Below w.heap.size w w2 := by
  refine ret_of fn_tailracekeep_word rfl rfl ?_
  have H := Hp.start w
  obtain ⟨hn1, hn2⟩ := hn
  have hpk := pk_lt n (show 0 < 10000 by decide)
  refine cw_seq ?_
  refine cw_region ?_ -- region 0 raw.go:34
  refine l1 (asT_r rfl) rfl rfl rfl ?_
  refine lw_nil ?_
  refine cw_seq ?_
  refine cw_region ?_ -- region 1 raw.go:35
  refine l1 (asT_r rfl) rfl rfl rfl ?_
  refine lw_nil ?_
  refine cw_seq ?_
  refine cw_seq ?_
  refine cw_region ?_ -- region 2 raw.go:36
  refine l1 (mvI_r rfl) rfl rfl rfl ?_
  refine cal cb_tailracekeep_picked (picked_ok _ 10000 _ (by omega) (by omega) (by decide) (by decide)) rfl rfl ?_
  rintro _ w1 ⟨rfl, hb⟩; replace H := H.later hb; clear hb
  refine l1 (asI_r rfl) rfl rfl rfl ?_
  refine lw_nil ?_
  refine cw_block ?_ -- block 0
  refine cw_loop (τ := Nat × List UInt8) [0, 3, 6, 7, 8, 9, 10, 11, 12, 13, 14, 15, 16] (fun (m, s) => [(0, .int .i64 (m : Nat)), (3, .string ⟨s.toArray⟩)]) (fun (m, s) w' => m < 10000 ∧ s ++ wordB m = wordB (pk n 10000) ∧ Hp w w' [] []) (fun (m, _) => m) (pk n 10000, []) ⟨hpk, rfl, H⟩ (sl2 rfl rfl) ?_ -- LOOP 0
  rintro ⟨m, s⟩ ρ1 w1 ⟨hm, hs, H⟩
  show CW _ _ _ _ (updL (ovr _ _ ρ1) [(0, .int .i64 (m : Nat)), (3, .string ⟨s.toArray⟩)]) w1
  have hsl : (⟨s.toArray⟩ : ByteArray).size ≤ 4 := by
    have h4 := wordB_len 4 (pk n 10000) (by simpa using hpk)
    rw [← hs, List.length_append] at h4
    show s.toArray.size ≤ 4
    simp; omega
  refine cw_seq ?_
  refine cw_seq ?_
  refine cw_region ?_ -- region 3 raw.go:36
  refine l1 (mvI_r rfl) rfl rfl rfl ?_
  refine lwD (gtr_r rfl rfl) rfl rfl rfl (fun h7 => ?_) (fun h7 => ?_)
  · -- slot 7 True
    refine lw_nil ?_
    refine cw_true rfl ?_
    refine cw_skip ?_
    refine cw_seq ?_
    refine cw_block ?_ -- block 1
    refine cw_region ?_ -- region 5 raw.go:37
    refine l1 (mvT_r rfl) rfl rfl rfl ?_
    refine l1 (mvI_r rfl) rfl rfl rfl ?_
    refine l1 (rem_r rfl rfl (by omega) (by omega)) rfl rfl rfl ?_
    refine l1 (add_r rfl rfl (by omega) (by omega)) rfl rfl rfl ?_
    have e13 : (97 : Int) + (m : Int) % 10 = (97 + m % 10 : Nat) := by omega
    rw [e13]
    refine l1 (cvI_r int_int int_int32 rfl (wrap31 (by omega))) rfl rfl rfl ?_
    refine l1 (cvIT_r int_int32 str_string rfl rfl (by omega)) rfl rfl rfl ?_
    refine l1 (sadd_r rfl rfl (by simp only [ByteArray.size] at hsl ⊢; simp at hsl ⊢; omega)) rfl rfl rfl ?_
    rw [show (⟨#[UInt8.ofNat (97 + m % 10)]⟩ : ByteArray) = ⟨[UInt8.ofNat (97 + m % 10)].toArray⟩ from rfl, ba_app]
    refine l1 (asT_r rfl) rfl rfl rfl ?_
    refine lw_nil ?_
    refine cw_region ?_ -- region 4 raw.go:36
    refine l1 (mvI_r rfl) rfl rfl rfl ?_
    refine l1 (quo_r rfl rfl (by omega) (by omega) (by omega)) rfl rfl rfl ?_
    refine l1 (asI_r rfl) rfl rfl rfl ?_
    refine lw_nil ?_
    refine ⟨(m / 10, s ++ [UInt8.ofNat (97 + m % 10)]), ⟨by omega, by rw [← hs, wordB_pos (n := m) (by omega)]; simp, H⟩, sl2 rfl rfl, by repeat (first | exact Agr.refl _ _ | exact agr_ovr | refine agr_upd rfl ?_ | refine agr_updL _ rfl ?_), by show m / 10 < m; omega⟩
  · -- slot 7 False
    refine lw_nil ?_
    refine cw_false rfl ?_
    refine cw_exit ?_ -- 0
    refine cw_seq ?_
    refine cw_region ?_ -- region 6 raw.go:39
    refine l1 (mvT_r rfl) rfl rfl rfl ?_
    refine l1 (asT_r rfl) rfl rfl rfl ?_
    refine lw_nil ?_
    refine cw_ret ?_
    have hm0 : m = 0 := by omega
    subst hm0
    rw [wordB_zero, List.append_nil] at hs
    subst hs
    exact fin1 (v := .string (wordT n)) rfl rfl ⟨rfl, H.below⟩
def Raw.entry (r : Raw) : Ent :=
  let p := pk r.b 4
  if p = 0 then ⟨pk r.a 4, 0, 0, 0, 1, false, wordT r.c⟩
  else if pk r.kind 6 = 0 ∨ pk r.kind 6 = 1 then ⟨pk r.a 4, p, pk r.a 3, 0, 2 + pk r.c 2, true, ⟨#[]⟩⟩
  else ⟨pk r.a 4, p, pk r.a 3, pk r.c 5, 1, decide (((pk r.c 2 : Nat) : Int) = 0), wordT r.c⟩
set_option maxHeartbeats 4000000 in
set_option maxRecDepth 10000 in
theorem entry_ok (r : Raw) (w : World) (hr : r.ok) : Ret Try.prog i_tailracekeep_Entry [.agg r.cs.toArray] w fun v w2 => v = r.entry.v ∧ Below w.heap.size w w2 := by
  refine ret_of fn_tailracekeep_Entry rfl rfl ?_
  have H := Hp.start w
  obtain ⟨⟨k1, k2⟩, ⟨a1, a2⟩, ⟨b1, b2⟩, ⟨c1, c2⟩⟩ := hr
  obtain ⟨rk, ra, rb, rc⟩ := r
  simp only at k1 k2 a1 a2 b1 b2 c1 c2
  have hp2 := pk_lt rc (show 0 < 2 by decide)
  refine cw_seq ?_
  refine cw_region ?_ -- region 0 raw.go:18
  refine bxA H rfl rfl ?_; intro w1 b1 H
  refine alo H z_Entry rfl ?_; intro w2 b2 H
  refine lw_nil ?_
  refine cw_seq ?_
  -- region 1 draws
  refine cw_draw mixed [0, 1, 3, 4, 6, 7, 2, 5, 8, 9, 10] [11] [2, 5, 8, 10] [0, 3, 6, 9] (sp [(2, Sp.one (.int .i64 (pk ra 4 : Nat))), (5, Sp.one (.int .i64 (pk rb 4 : Nat))), (8, Sp.one (.string (wordT rc))), (10, Sp.blk w2.heap.size (.agg #[.int .i64 0, .int .i64 0, .int .i64 0, .int .i64 0, .int .i64 0, .bool false, .string ⟨#[]⟩]) T_Entry)]) (by kernel_rfl) (by kernel_rfl) (by kernel_rfl) (by kernel_rfl) (fun _ _ _ h => h) (sp_st _) ?_
  refine aw rfl rfl rfl rfl rfl (fun w' hw' => fad_r fd_Raw_1 rfl) ?_
  refine aw rfl rfl rfl rfl rfl (fun w' hw' => ld_r one_int rfl (cellE ((H.later hw').ent (i := 1) rfl) rfl)) ?_
  refine aw rfl rfl rfl rfl rfl (fun w' hw' => fad_r fd_Raw_2 rfl) ?_
  refine aw rfl rfl rfl rfl rfl (fun w' hw' => ld_r one_int rfl (cellE ((H.later hw').ent (i := 1) rfl) rfl)) ?_
  refine aw rfl rfl rfl rfl rfl (fun w' hw' => fad_r fd_Raw_3 rfl) ?_
  refine aw rfl rfl rfl rfl rfl (fun w' hw' => ld_r one_int rfl (cellE ((H.later hw').ent (i := 1) rfl) rfl)) ?_
  refine awCalV cb_tailracekeep_picked rfl rfl rfl rfl rfl (fun w' hw' => picked_ok ra 4 _ (by omega) (by omega) (by decide) (by decide)) rfl ?_
  refine awCalV cb_tailracekeep_picked rfl rfl rfl rfl rfl (fun w' hw' => picked_ok rb 4 _ (by omega) (by omega) (by decide) (by decide)) rfl ?_
  refine awCalV cb_tailracekeep_word rfl rfl rfl rfl rfl (fun w' hw' => word_ok rc _ ⟨by omega, by omega⟩) rfl ?_
  refine aw rfl rfl rfl rfl rfl (fun w' hw' => bld_r (cs := (Ent.c ⟨pk ra 4, pk rb 4, 0, 0, 1, false, wordT rc⟩).toArray) st_Entry z_Entry (by kernel_rfl)) ?_
  refine awAl z_Entry rfl rfl rfl rfl rfl (fun w' hw' => hw'.size) ?_; intro b3
  refine aw_nil ?_
  intro w3 hw' hF
  obtain ⟨hF, bq, eq, hge3, hbl3⟩ := hF; cases eq
  obtain ⟨hF, -⟩ := hF
  obtain ⟨hF, -⟩ := hF
  obtain ⟨hF, -⟩ := hF
  replace H := H.adoptNew hw' hbl3 hge3; clear hw' hF
  refine stN H 0 ((Ent.c ⟨pk ra 4, pk rb 4, 0, 0, 1, false, wordT rc⟩).toArray) siz_Entry rfl rfl rfl rfl rfl (by kernel_rfl) (by kernel_rfl) ?_; intro w4 H
  refine lw_nil ?_
  refine cw_seq ?_
  refine cw_seq ?_
  refine cw_region ?_ -- region 2 raw.go:20
  refine l1 (fad_r fd_Entry_1 rfl) rfl rfl rfl ?_
  refine l1 (ld_r one_int rfl (cellE (H.ent (i := 0) rfl) rfl)) rfl rfl rfl ?_
  refine lwD (eql_r rfl rfl) rfl rfl rfl (fun h16 => ?_) (fun h16 => ?_)
  · -- slot 16 True
    refine lw_nil ?_
    refine cw_true rfl ?_
    refine cw_seq ?_
    refine cw_region ?_ -- region 3 raw.go:21
    refine l1 (ldW_r agg_Entry rfl (H.ent (i := 0) rfl) rfl) rfl rfl rfl ?_
    refine stN H 1 ((Ent.c ⟨pk ra 4, pk rb 4, 0, 0, 1, false, wordT rc⟩).toArray) siz_Entry rfl rfl rfl rfl rfl (by kernel_rfl) (by kernel_rfl) ?_; intro w5 H
    refine lw_nil ?_
    refine cw_ret ?_
    try dsimp only at h16
    try dsimp only at h31
    try dsimp only at h32
    have e : Raw.entry ⟨rk, ra, rb, rc⟩ = ⟨pk ra 4, pk rb 4, 0, 0, 1, false, wordT rc⟩ := by
      simp only [Raw.entry]
      rw [if_pos (by omega), show pk rb 4 = 0 by omega]; rfl
    exact finC (cs0 := (Ent.c ⟨pk ra 4, pk rb 4, 0, 0, 1, false, wordT rc⟩).toArray) rfl agg_Entry rfl (H.ent (i := 1) rfl) rfl ⟨by rw [e], H.below⟩
  · -- slot 16 False
    refine lw_nil ?_
    refine cw_false rfl ?_
    refine cw_skip ?_
    refine cw_seq ?_
    refine cw_region ?_ -- region 4 raw.go:23
    refine l1 (fad_r fd_Raw_1 rfl) rfl rfl rfl ?_
    refine l1 (ld_r one_int rfl (cellE (H.ent (i := 2) rfl) rfl)) rfl rfl rfl ?_
    refine cal cb_tailracekeep_picked (picked_ok _ 3 _ (by omega) (by omega) (by decide) (by decide)) rfl rfl ?_
    rintro _ w6 ⟨rfl, hb⟩; replace H := H.later hb; clear hb
    refine l1 (fad_r fd_Entry_2 rfl) rfl rfl rfl ?_
    refine stN H 0 ((Ent.c ⟨pk ra 4, pk rb 4, pk ra 3, 0, 1, false, wordT rc⟩).toArray) siz_int rfl rfl rfl rfl rfl (by kernel_rfl) (by kernel_rfl) ?_; intro w7 H
    refine lw_nil ?_
    refine cw_seq ?_
    refine cw_region ?_ -- region 5 raw.go:24
    refine l1 (fad_r fd_Raw_3 rfl) rfl rfl rfl ?_
    refine l1 (ld_r one_int rfl (cellE (H.ent (i := 2) rfl) rfl)) rfl rfl rfl ?_
    refine cal cb_tailracekeep_picked (picked_ok _ 2 _ (by omega) (by omega) (by decide) (by decide)) rfl rfl ?_
    rintro _ w8 ⟨rfl, hb⟩; replace H := H.later hb; clear hb
    refine l1 (eql_r rfl rfl) rfl rfl rfl ?_
    refine l1 (fad_r fd_Entry_5 rfl) rfl rfl rfl ?_
    refine stN H 0 ((Ent.c ⟨pk ra 4, pk rb 4, pk ra 3, 0, 1, decide (((pk rc 2 : Nat) : Int) = 0), wordT rc⟩).toArray) siz_bool rfl rfl rfl rfl rfl (by kernel_rfl) (by kernel_rfl) ?_; intro w9 H
    refine lw_nil ?_
    refine cw_seq ?_
    refine cw_seq ?_
    refine cw_region ?_ -- region 6 raw.go:25
    refine l1 (fad_r fd_Raw_0 rfl) rfl rfl rfl ?_
    refine l1 (ld_r one_int rfl (cellE (H.ent (i := 2) rfl) rfl)) rfl rfl rfl ?_
    refine cal cb_tailracekeep_picked (picked_ok _ 6 _ (by omega) (by omega) (by decide) (by decide)) rfl rfl ?_
    rintro _ w10 ⟨rfl, hb⟩; replace H := H.later hb; clear hb
    refine lw_nil ?_
    refine cw_block ?_ -- block 0
    refine cw_seq ?_
    refine cw_seq ?_
    refine cw_region ?_ -- region 7 raw.go:26
    refine lwD (eql_r rfl rfl) rfl rfl rfl (fun h31 => ?_) (fun h31 => ?_)
    · -- slot 31 True
      refine l1 (asB_r rfl) rfl rfl rfl ?_
      refine lw_nil ?_
      refine cw_true rfl ?_
      refine cw_skip ?_
      refine cw_true rfl ?_
      refine cw_seq ?_
      -- region 9 draws
      refine cw_draw mixed [0, 1, 2, 3, 4, 5, 6, 7, 8, 9, 10] [11] [8] [0, 2, 4, 6, 9, 10] (sp [(8, Sp.one (.int .i64 (pk rc 2 : Nat)))]) (by kernel_rfl) (by kernel_rfl) (by kernel_rfl) (by kernel_rfl) (fun _ _ _ h => h) (sp_st _) ?_
      refine aw rfl rfl rfl rfl rfl (fun w' hw' => fad_r fd_Entry_0 rfl) ?_
      refine aw rfl rfl rfl rfl rfl (fun w' hw' => ld_r one_int rfl (cellE ((H.later hw').ent (i := 0) rfl) rfl)) ?_
      refine aw rfl rfl rfl rfl rfl (fun w' hw' => fad_r fd_Entry_1 rfl) ?_
      refine aw rfl rfl rfl rfl rfl (fun w' hw' => ld_r one_int rfl (cellE ((H.later hw').ent (i := 0) rfl) rfl)) ?_
      refine aw rfl rfl rfl rfl rfl (fun w' hw' => fad_r fd_Entry_2 rfl) ?_
      refine aw rfl rfl rfl rfl rfl (fun w' hw' => ld_r one_int rfl (cellE ((H.later hw').ent (i := 0) rfl) rfl)) ?_
      refine aw rfl rfl rfl rfl rfl (fun w' hw' => fad_r fd_Raw_3 rfl) ?_
      refine aw rfl rfl rfl rfl rfl (fun w' hw' => ld_r one_int rfl (cellE ((H.later hw').ent (i := 2) rfl) rfl)) ?_
      refine awCalV cb_tailracekeep_picked rfl rfl rfl rfl rfl (fun w' hw' => picked_ok rc 2 _ (by omega) (by omega) (by decide) (by decide)) rfl ?_
      refine aw rfl rfl rfl rfl rfl (fun w' hw' => add_r rfl rfl (by omega) (by omega)) ?_
      refine aw rfl rfl rfl rfl rfl (fun w' hw' => bld_r (cs := (Ent.c ⟨pk ra 4, pk rb 4, pk ra 3, 0, 2 + (pk rc 2 : Nat), true, ⟨#[]⟩⟩).toArray) st_Entry z_Entry (by kernel_rfl)) ?_
      refine aw_nil ?_
      intro w11 hw' hF
      replace H := H.later hw'; clear hw' hF
      refine stN H 1 ((Ent.c ⟨pk ra 4, pk rb 4, pk ra 3, 0, 2 + (pk rc 2 : Nat), true, ⟨#[]⟩⟩).toArray) siz_Entry rfl rfl rfl rfl rfl (by kernel_rfl) (by kernel_rfl) ?_; intro w12 H
      refine lw_nil ?_
      refine cw_ret ?_
      try dsimp only at h16
      try dsimp only at h31
      try dsimp only at h32
      have e : Raw.entry ⟨rk, ra, rb, rc⟩ = ⟨pk ra 4, pk rb 4, pk ra 3, 0, 2 + (pk rc 2 : Nat), true, ⟨#[]⟩⟩ := by
        simp only [Raw.entry]
        (split <;> first | omega | (split <;> first | omega | rfl))
      exact finC (cs0 := (Ent.c ⟨pk ra 4, pk rb 4, pk ra 3, 0, 2 + (pk rc 2 : Nat), true, ⟨#[]⟩⟩).toArray) rfl agg_Entry rfl (H.ent (i := 1) rfl) rfl ⟨by rw [e], H.below⟩
    · -- slot 31 False
      refine l1 (asB_r rfl) rfl rfl rfl ?_
      refine lw_nil ?_
      refine cw_false rfl ?_
      refine cw_region ?_ -- region 8 raw.go:26
      refine lwD (eql_r rfl rfl) rfl rfl rfl (fun h32 => ?_) (fun h32 => ?_)
      · -- slot 32 True
        refine l1 (asB_r rfl) rfl rfl rfl ?_
        refine lw_nil ?_
        refine cw_true rfl ?_
        refine cw_seq ?_
        -- region 9 draws
        refine cw_draw mixed [0, 1, 2, 3, 4, 5, 6, 7, 8, 9, 10] [11] [8] [0, 2, 4, 6, 9, 10] (sp [(8, Sp.one (.int .i64 (pk rc 2 : Nat)))]) (by kernel_rfl) (by kernel_rfl) (by kernel_rfl) (by kernel_rfl) (fun _ _ _ h => h) (sp_st _) ?_
        refine aw rfl rfl rfl rfl rfl (fun w' hw' => fad_r fd_Entry_0 rfl) ?_
        refine aw rfl rfl rfl rfl rfl (fun w' hw' => ld_r one_int rfl (cellE ((H.later hw').ent (i := 0) rfl) rfl)) ?_
        refine aw rfl rfl rfl rfl rfl (fun w' hw' => fad_r fd_Entry_1 rfl) ?_
        refine aw rfl rfl rfl rfl rfl (fun w' hw' => ld_r one_int rfl (cellE ((H.later hw').ent (i := 0) rfl) rfl)) ?_
        refine aw rfl rfl rfl rfl rfl (fun w' hw' => fad_r fd_Entry_2 rfl) ?_
        refine aw rfl rfl rfl rfl rfl (fun w' hw' => ld_r one_int rfl (cellE ((H.later hw').ent (i := 0) rfl) rfl)) ?_
        refine aw rfl rfl rfl rfl rfl (fun w' hw' => fad_r fd_Raw_3 rfl) ?_
        refine aw rfl rfl rfl rfl rfl (fun w' hw' => ld_r one_int rfl (cellE ((H.later hw').ent (i := 2) rfl) rfl)) ?_
        refine awCalV cb_tailracekeep_picked rfl rfl rfl rfl rfl (fun w' hw' => picked_ok rc 2 _ (by omega) (by omega) (by decide) (by decide)) rfl ?_
        refine aw rfl rfl rfl rfl rfl (fun w' hw' => add_r rfl rfl (by omega) (by omega)) ?_
        refine aw rfl rfl rfl rfl rfl (fun w' hw' => bld_r (cs := (Ent.c ⟨pk ra 4, pk rb 4, pk ra 3, 0, 2 + (pk rc 2 : Nat), true, ⟨#[]⟩⟩).toArray) st_Entry z_Entry (by kernel_rfl)) ?_
        refine aw_nil ?_
        intro w13 hw' hF
        replace H := H.later hw'; clear hw' hF
        refine stN H 1 ((Ent.c ⟨pk ra 4, pk rb 4, pk ra 3, 0, 2 + (pk rc 2 : Nat), true, ⟨#[]⟩⟩).toArray) siz_Entry rfl rfl rfl rfl rfl (by kernel_rfl) (by kernel_rfl) ?_; intro w14 H
        refine lw_nil ?_
        refine cw_ret ?_
        try dsimp only at h16
        try dsimp only at h31
        try dsimp only at h32
        have e : Raw.entry ⟨rk, ra, rb, rc⟩ = ⟨pk ra 4, pk rb 4, pk ra 3, 0, 2 + (pk rc 2 : Nat), true, ⟨#[]⟩⟩ := by
          simp only [Raw.entry]
          (split <;> first | omega | (split <;> first | omega | rfl))
        exact finC (cs0 := (Ent.c ⟨pk ra 4, pk rb 4, pk ra 3, 0, 2 + (pk rc 2 : Nat), true, ⟨#[]⟩⟩).toArray) rfl agg_Entry rfl (H.ent (i := 1) rfl) rfl ⟨by rw [e], H.below⟩
      · -- slot 32 False
        refine l1 (asB_r rfl) rfl rfl rfl ?_
        refine lw_nil ?_
        refine cw_false rfl ?_
        refine cw_skip ?_
        refine cw_seq ?_
        refine cw_region ?_ -- region 10 raw.go:29
        refine l1 (fad_r fd_Raw_3 rfl) rfl rfl rfl ?_
        refine l1 (ld_r one_int rfl (cellE (H.ent (i := 2) rfl) rfl)) rfl rfl rfl ?_
        refine cal cb_tailracekeep_picked (picked_ok _ 5 _ (by omega) (by omega) (by decide) (by decide)) rfl rfl ?_
        rintro _ w15 ⟨rfl, hb⟩; replace H := H.later hb; clear hb
        refine l1 (fad_r fd_Entry_3 rfl) rfl rfl rfl ?_
        refine stN H 0 ((Ent.c ⟨pk ra 4, pk rb 4, pk ra 3, pk rc 5, 1, decide (((pk rc 2 : Nat) : Int) = 0), wordT rc⟩).toArray) siz_int rfl rfl rfl rfl rfl (by kernel_rfl) (by kernel_rfl) ?_; intro w16 H
        refine lw_nil ?_
        refine cw_seq ?_
        refine cw_region ?_ -- region 11 raw.go:30
        refine l1 (ldW_r agg_Entry rfl (H.ent (i := 0) rfl) rfl) rfl rfl rfl ?_
        refine stN H 1 ((Ent.c ⟨pk ra 4, pk rb 4, pk ra 3, pk rc 5, 1, decide (((pk rc 2 : Nat) : Int) = 0), wordT rc⟩).toArray) siz_Entry rfl rfl rfl rfl rfl (by kernel_rfl) (by kernel_rfl) ?_; intro w17 H
        refine lw_nil ?_
        refine cw_ret ?_
        try dsimp only at h16
        try dsimp only at h31
        try dsimp only at h32
        have e : Raw.entry ⟨rk, ra, rb, rc⟩ = ⟨pk ra 4, pk rb 4, pk ra 3, pk rc 5, 1, decide (((pk rc 2 : Nat) : Int) = 0), wordT rc⟩ := by
          simp only [Raw.entry]
          (split <;> first | omega | (split <;> first | omega | rfl))
        exact finC (cs0 := (Ent.c ⟨pk ra 4, pk rb 4, pk ra 3, pk rc 5, 1, decide (((pk rc 2 : Nat) : Int) = 0), wordT rc⟩).toArray) rfl agg_Entry rfl (H.ent (i := 1) rfl) rfl ⟨by rw [e], H.below⟩
def manyE (l : List Raw) (most : Nat) : List Ent := (l.take most).map Raw.entry
set_option maxHeartbeats 4000000 in
set_option maxRecDepth 10000 in
theorem many_ok (l : List Raw) (most : Nat) (A : Option Addr) (c : Nat) (w : World) (hr : Rd rawL 0 w.heap.size A l w) (hok : ∀ r ∈ l, r.ok) (hl : l.length ≤ 9223372036854775807) (hm : most ≤ 100) :
    Ret Try.prog i_tailracekeep_many [.slice A l.length c, .int .i64 (most : Nat)] w fun v w2 => ∃ A' c', v = .slice A' (manyE l most).length c' ∧ Rd entL w.heap.size w2.heap.size A' (manyE l most) w2 ∧ (manyE l most).length ≤ c' ∧ Below w.heap.size w w2 := by
  refine ret_of fn_tailracekeep_many rfl rfl ?_
  have H := (Hp.start w).learnOld (FRd rawL 0 w.heap.size A l) hr (Nat.le_refl _)
  refine cw_seq ?_
  refine cw_region ?_ -- region 0 low.go:14
  refine l1 (asS_r rfl) rfl rfl rfl ?_
  refine lw_nil ?_
  refine cw_seq ?_
  refine cw_region ?_ -- region 1 low.go:15
  refine l1 (asS_r rfl) rfl rfl rfl ?_
  refine lw_nil ?_
  refine cw_seq ?_
  refine cw_seq ?_
  refine cw_region ?_ -- region 2 low.go:16
  refine l1 (asI_r rfl) rfl rfl rfl ?_
  refine lw_nil ?_
  refine cw_block ?_ -- block 0
  refine cw_loop (τ := Nat × List Ent × Option Addr × Nat) [5, 6, 7, 8, 9, 10, 11, 12, 13, 14, 15, 16, 17, 18, 19, 20, 21, 22, 23, 24, 25] (fun (k, out, A1, c1) => [(5, .slice A1 out.length c1), (6, .int .i64 (k : Nat))]) (fun (k, out, A1, c1) w' => k ≤ l.length ∧ k ≤ most ∧ out = (l.take k).map Raw.entry ∧ ∃ L', Own entL (.slice A1 out.length c1) T_Entry out L' ∧ Hp w w' ([] ++ L' ++ []) [FRd rawL 0 w.heap.size A l]) (fun (k, _, _, _) => l.length - k) (0, [], none, 0) ⟨by omega, by omega, by simp, [], Own.nil, H⟩ (sl2 rfl rfl) ?_ -- LOOP 0
  rintro ⟨k, out, A1, c1⟩ ρ1 w1 ⟨hk, hkm, hout, L1, ho, H⟩
  show CW _ _ _ _ (updL (ovr _ _ ρ1) [(5, .slice A1 out.length c1), (6, .int .i64 (k : Nat))]) w1
  refine cw_seq ?_
  refine cw_seq ?_
  refine cw_region ?_ -- region 3 low.go:16
  refine l1 (mvI_r rfl) rfl rfl rfl ?_
  refine l1 (mvS_r rfl) rfl rfl rfl ?_
  refine l1 (lenS_r len_LRaw rfl) rfl rfl rfl ?_
  refine lwD (lss_r rfl rfl) rfl rfl rfl (fun h10 => ?_) (fun h10 => ?_)
  · -- slot 10 True
    refine l1 (mvB_r rfl) rfl rfl rfl ?_
    refine lwG rfl ?_
    refine l1 (mvI_r rfl) rfl rfl rfl ?_
    refine lwG rfl ?_
    refine l1 (mvI_r rfl) rfl rfl rfl ?_
    refine lwG rfl ?_
    refine lwD (lss_r rfl rfl) rfl rfl rfl (fun h14 => ?_) (fun h14 => ?_)
    · -- slot 14 True
      refine l1 (pkTB_r rfl rfl) rfl rfl rfl ?_
      refine lw_nil ?_
      refine cw_true rfl ?_
      refine cw_skip ?_
      refine cw_seq ?_
      refine cw_block ?_ -- block 1
      refine cw_region ?_ -- region 5 low.go:17
      refine l1 (mvS_r rfl) rfl rfl rfl ?_
      refine l1 (mvS_r rfl) rfl rfl rfl ?_
      refine l1 (mvI_r rfl) rfl rfl rfl ?_
      refine ixF H 0 rfl sl_LRaw rfl rfl (by omega) (by omega) rfl ?_; intro b1 o1 x1 e1
      obtain ⟨hr0, hlt, hcl⟩ := e1
      generalize x1 = r at hr0 hcl
      have hrok := hok r (List.mem_of_getElem? hr0)
      refine l1 (ldA_r (xs := r.cs) agg_Raw rfl rfl hcl) rfl rfl rfl ?_
      refine cal cb_tailracekeep_Entry (entry_ok r _ hrok) rfl rfl ?_; rintro _ w2 ⟨rfl, hb⟩; replace H := H.later hb; clear hb
      refine bsv (vs := [r.entry.v]) H sl_LEntry z_Entry rfl rfl rfl rfl rfl rfl ?_; intro w2 b24 H
      have hol : out.length ≤ 100 := by rw [hout]; simp; omega
      refine apO (Y := entL) ap_LEntry (K := [(b24, _)]) (L := L1) (M := []) H ho (news := [r.entry]) rfl rfl rfl (Src.row (m := 1) (sz := 7) (H.ent (i := 0) rfl) rfl) (by simp only [List.length_singleton]; omega) rfl ?_
      intro A3 c3 w3 L3 _ _ ho3 H
      refine l1 (asS_r rfl) rfl rfl rfl ?_
      refine lw_nil ?_
      refine cw_region ?_ -- region 4 low.go:16
      refine l1 (mvI_r rfl) rfl rfl rfl ?_
      refine l1 (add_r rfl rfl (by omega) (by omega)) rfl rfl rfl ?_
      refine l1 (asI_r rfl) rfl rfl rfl ?_
      refine lw_nil ?_
      refine ⟨(k + 1, out ++ [r.entry], A3, c3), ⟨by omega, by omega, by rw [List.take_add_one, List.map_append, hout, hr0]; rfl, L3, ho3, H.forget (by simp) (fun _ h => h)⟩, sl2 rfl rfl, by repeat (first | exact Agr.refl _ _ | exact agr_ovr | refine agr_upd rfl ?_ | refine agr_updL _ rfl ?_), by show l.length - (k + 1) < l.length - k; omega⟩
    · -- slot 14 False
      refine l1 (pkTB_r rfl rfl) rfl rfl rfl ?_
      refine lw_nil ?_
      refine cw_false rfl ?_
      refine cw_exit ?_ -- 0
      refine cw_seq ?_
      refine cw_region ?_ -- region 6 low.go:19
      refine l1 (mvS_r rfl) rfl rfl rfl ?_
      refine l1 (asS_r rfl) rfl rfl rfl ?_
      refine lw_nil ?_
      refine cw_ret ?_
      have hfin : out = manyE l most := by
        rw [hout]; unfold manyE
        rw [show k = most by omega]
      subst hfin
      obtain ⟨A2, c2, he, hlc, -⟩ := ho.form
      injection he with h1 h2 h3
      subst h3
      exact fin1 rfl rfl ⟨A1, c1, rfl, ho.rd H, hlc, H.below⟩
  · -- slot 10 False
    refine l1 (mvB_r rfl) rfl rfl rfl ?_
    refine lwN rfl rfl rfl ?_
    refine lwN rfl rfl rfl ?_
    refine lwN rfl rfl rfl ?_
    refine l1 (pkFB_r rfl rfl) rfl rfl rfl ?_
    refine lw_nil ?_
    refine cw_false rfl ?_
    refine cw_exit ?_ -- 0
    refine cw_seq ?_
    refine cw_region ?_ -- region 6 low.go:19
    refine l1 (mvS_r rfl) rfl rfl rfl ?_
    refine l1 (asS_r rfl) rfl rfl rfl ?_
    refine lw_nil ?_
    refine cw_ret ?_
    have hfin : out = manyE l most := by
      rw [hout]; unfold manyE
      rw [List.take_of_length_le (by omega), List.take_of_length_le (by omega)]
    subst hfin
    obtain ⟨A2, c2, he, hlc, -⟩ := ho.form
    injection he with h1 h2 h3
    subst h3
    exact fin1 rfl rfl ⟨A1, c1, rfl, ho.rd H, hlc, H.below⟩
end Go.Proofs.Ytemnchkebhclpaa
