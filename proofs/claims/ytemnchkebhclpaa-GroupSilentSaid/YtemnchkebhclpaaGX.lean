/- GX: a part of the proofs over this seat: what stands in its theorems holds for every input that they name. -/
import Derived.Test.YtemnchkebhclpaaGW
import Derived.Test.YtemnchkebhclpaaGA
import Derived.Test.YtemnchkebhclpaaGB
section
namespace Go.Proofs.Ytemnchkebhclpaa
open Go Go.Eng Go.RowKit
theorem ent_struct : Try.prog.underlying T_Entry = some (.struct (Try.prog.fieldsOf T_Entry)) := by kernel_rfl
theorem ent_stood : Try.prog.stoodInHeld T_Entry = false := by kernel_rfl
theorem ent_guard : Try.prog.eqGuardType Try.prog.depth T_Entry = false := by kernel_rfl
theorem ent_cmp (e f : Ent) : cmpB Try.prog 0 (Try.prog.fieldsOf T_Entry).toList e.c f.c = true := by kernel_rfl
theorem ent_inj (e f : Ent) : decide (e = f) = true ↔ e.c = f.c := by
  rw [decide_eq_true_iff]
  obtain ⟨_, _, _, _, _, _, _⟩ := e
  obtain ⟨_, _, _, _, _, _, _⟩ := f
  simp [Ent.c]
end Go.Proofs.Ytemnchkebhclpaa
end

section
namespace Go.Proofs.Ytemnchkebhclpaa
open Go Go.Eng Go.RowKit
set_option maxRecDepth 10000 in
theorem eqEnt_ok (es fs : List Ent) (A B : Option Addr) (c d : Nat) (w : World) (hr : Rd entL 0 w.heap.size A es w) (hs : Rd entL 0 w.heap.size B fs w) (hb : es.length ≤ 1000000000000) :
    Ret Try.prog i_slices_Equal_LEntry_Entry [.slice A es.length c, .slice B fs.length d] w fun v w2 => v = .bool (decide (es = fs)) ∧ Below w.heap.size w w2 := by
  refine ret_of fn_slices_Equal_LEntry_Entry rfl rfl ?_
  have H := Hp.start w
  refine cw_seq ?_
  refine cw_region ?_ -- region 0
  refine asB rfl rfl ?_  -- 4 slices.go:20
  refine lw_nil ?_
  refine cw_seq ?_
  refine cw_seq ?_
  refine cw_region ?_ -- region 1
  refine mvS rfl rfl ?_  -- 6 slices.go:21
  refine lenS len_LEntry rfl rfl ?_  -- 7 slices.go:21
  refine mvS rfl rfl ?_  -- 8 slices.go:21
  refine lenS len_LEntry rfl rfl ?_  -- 9 slices.go:21
  by_cases hlen : es.length = fs.length
  · refine l1 (neqF_r rfl rfl (by omega)) rfl rfl rfl ?_
    refine lw_nil ?_
    refine cw_false rfl ?_
    refine cw_skip ?_
    refine cw_seq ?_
    refine cw_seq ?_
    refine cw_region ?_ -- region 3
    refine mvS rfl rfl ?_  -- 11 slices.go:24
    refine lenS len_LEntry rfl rfl ?_  -- 12 slices.go:24
    refine mvI rfl rfl ?_  -- 13 slices.go:24
    refine lw_nil ?_
    refine cw_block ?_ -- block 0
    refine cw_loop (τ := Nat) [4, 5, 13, 14, 15, 16, 17, 18, 19, 20, 21, 22, 23, 24, 25] (fun k => [(13, .int .i64 (k : Nat))]) (fun k w' => k ≤ es.length ∧ es.take k = fs.take k ∧ Hp w w' [] []) (fun k => es.length - k) 0 ⟨by omega, rfl, H⟩ (sl1 rfl) ?_ -- LOOP
    rintro k ρ1 w1 ⟨hk, heq, H⟩
    show CW _ _ _ _ (updL (ovr _ _ ρ1) [(13, .int .i64 (k : Nat))]) w1
    refine cw_seq ?_
    refine cw_region ?_ -- region 4
    refine lssS rfl rfl rfl (fun h14 => ?_) (fun h14 => ?_)  -- 14 slices.go:24
    all_goals refine lw_nil ?_
    all_goals refine cw_seq ?_
    · refine cw_true rfl ?_
      refine cw_skip ?_
      have hk1 : k < es.length := by omega
      have hk2 : k < fs.length := by omega
      obtain ⟨b1, o1, rfl, -, hbl1, hcl1⟩ := hr.at_ hk1
      obtain ⟨b2, o2, rfl, -, hbl2, hcl2⟩ := hs.at_ hk2
      have t1 : es.take (k + 1) = es.take k ++ [es[k]] := List.take_succ_eq_append_getElem hk1
      have t2 : fs.take (k + 1) = fs.take k ++ [fs[k]] := List.take_succ_eq_append_getElem hk2
      have hne : es[k] ≠ fs[k] → es ≠ fs := fun h e => by subst e; exact h rfl
      generalize es[k] = e at *
      generalize fs[k] = f at *
      refine cw_seq ?_
      refine cw_block ?_ -- block 1
      refine cw_seq ?_
      refine cw_region ?_ -- region 5
      refine mvI rfl rfl ?_  -- 15 slices.go:24
      refine asI rfl rfl ?_  -- 5 slices.go:24
      refine lw_nil ?_
      refine cw_seq ?_
      refine cw_draw mixed [0, 1, 2, 3, 4, 5, 6, 7, 8] [] [] [0, 1, 2, 4, 5, 6, 8] (sp []) (by kernel_rfl) (by kernel_rfl) (by kernel_rfl) (by kernel_rfl) (fun _ _ _ h => h) (sp_st _) ?_
      refine aw rfl rfl rfl rfl rfl (fun _ _ => mv_r rfl) ?_  -- 16 slices.go:25
      refine aw rfl rfl rfl rfl rfl (fun _ _ => mv_r rfl) ?_  -- 17 slices.go:25
      refine aw rfl rfl rfl rfl rfl (fun _ _ => ixa_r sl_LEntry rfl rfl (by omega) (by omega)) ?_  -- 18 slices.go:25
      refine aw rfl rfl rfl rfl rfl (fun w' hw' => ldA_r (xs := e.c) agg_Entry rfl rfl (fun j v hj => ((H.later hw').below.cell (p := ⟨b1, _, none⟩) hbl1).trans (hcl1 j v hj))) ?_  -- 19
      refine aw rfl rfl rfl rfl rfl (fun _ _ => mv_r rfl) ?_  -- 20 slices.go:25
      refine aw rfl rfl rfl rfl rfl (fun _ _ => mv_r rfl) ?_  -- 21 slices.go:25
      refine aw rfl rfl rfl rfl rfl (fun _ _ => ixa_r sl_LEntry rfl rfl (by omega) (by omega)) ?_  -- 22 slices.go:25
      refine aw rfl rfl rfl rfl rfl (fun w' hw' => ldA_r (xs := f.c) agg_Entry rfl rfl (fun j v hj => ((H.later hw').below.cell (p := ⟨b2, _, none⟩) hbl2).trans (hcl2 j v hj))) ?_  -- 23
      refine aw rfl rfl rfl rfl rfl (fun _ _ => aneq_r (r := decide (e = f)) ent_struct ent_stood ent_guard rfl rfl (ent_cmp e f) (ent_inj e f)) ?_
      refine aw_nil ?_
      intro w' hw' hF; replace H := H.later hw'; clear hw'
      refine lw_nil ?_
      by_cases hef : e = f
      · have hd : (!decide (e = f)) = false := by simp [hef]
        rw [hd]
        refine cw_false rfl ?_
        refine cw_skip ?_
        refine cw_region ?_ -- region 8
        refine add rfl rfl (by omega) (by omega) rfl ?_  -- 25 slices.go:24
        refine mvI rfl rfl ?_  -- 13 slices.go:24
        refine lw_nil ?_
        refine ⟨k + 1, ⟨by omega, by rw [t1, t2, heq, hef], H⟩, sl1 rfl, by repeat (first | exact agr_ovr | refine agr_upd rfl ?_ | refine agr_updL _ rfl ?_), by show es.length - (k + 1) < es.length - k; omega⟩
      · have hd : (!decide (e = f)) = true := by simp [hef]
        rw [hd]
        refine cw_true rfl ?_
        refine cw_seq ?_
        refine cw_region ?_ -- region 7
        refine asB rfl rfl ?_  -- 4 slices.go:26
        refine lw_nil ?_
        refine cw_ret ?_
        exact fin1 (v := .bool false) rfl rfl ⟨by rw [decide_eq_false (hne hef)], H.below⟩
    · refine cw_false rfl ?_
      refine cw_exit ?_ -- 0
      have hke : k = es.length := by omega
      subst hke
      rw [List.take_length, hlen, List.take_length] at heq
      refine cw_seq ?_
      refine cw_region ?_ -- region 9
      refine asB rfl rfl ?_  -- 4 slices.go:29
      refine lw_nil ?_
      refine cw_ret ?_
      exact fin1 (v := .bool true) rfl rfl ⟨by rw [decide_eq_true heq], H.below⟩
  · refine l1 (neqT_r rfl rfl (by omega)) rfl rfl rfl ?_
    refine lw_nil ?_
    refine cw_true rfl ?_
    refine cw_seq ?_
    refine cw_region ?_ -- region 2
    refine asB rfl rfl ?_  -- 4 slices.go:22
    refine lw_nil ?_
    refine cw_ret ?_
    exact fin1 (v := .bool false) rfl rfl ⟨by rw [decide_eq_false (fun h => hlen (by rw [h]))], H.below⟩
end Go.Proofs.Ytemnchkebhclpaa
end

section
namespace Go.Proofs.Ytemnchkebhclpaa
open Go Go.Eng Go.RowKit
/-- picked -/
def pk (n : Int) (m : Nat) : Nat := (if n < 0 then (-(n + 1)).toNat else n.toNat) % m
theorem pk_lt (n : Int) {m : Nat} (h : 0 < m) : pk n m < m := Nat.mod_lt _ h
set_option maxRecDepth 4000 in
theorem picked_ok (n : Int) (m : Nat) (w : World) (h1 : -9223372036854775808 ≤ n) (h2 : n ≤ 9223372036854775807) (hm : 0 < m) (hm2 : m ≤ 1000000000000) :
    Ret Try.prog i_tailracekeep_picked [.int .i64 n, .int .i64 (m : Nat)] w fun v w2 => v = .int .i64 (pk n m : Nat) ∧ Below w.heap.size w w2 := by
  refine ret_of fn_tailracekeep_picked rfl rfl ?_
  have H := Hp.start w
  refine cw_seq ?_
  refine cw_region ?_ -- region 0
  refine asI rfl rfl ?_  -- 4 raw.go:7
  refine lw_nil ?_
  refine cw_seq ?_
  obtain ⟨a, ha⟩ : ∃ a : Nat, (if n < 0 then (-(n + 1)).toNat else n.toNat) = a := ⟨_, rfl⟩
  refine cw_cut (τ := Unit) [5, 6, 7, 8, 9, 0] (fun _ => [(0, .int .i64 (a : Nat))]) (fun _ w' => Hp w w' [] []) ?_ ?_
  · refine cw_seq ?_
    refine cw_region ?_ -- region 1
    refine mvI rfl rfl ?_  -- 5 raw.go:8
    refine lssS rfl rfl rfl (fun h6 => ?_) (fun h6 => ?_)  -- 6 raw.go:8
    all_goals refine lw_nil ?_
    · refine cw_true rfl ?_
      refine cw_region ?_ -- region 2
      refine mvI rfl rfl ?_  -- 7 raw.go:9
      refine l1 (addF_r rfl rfl (by omega) (by omega)) rfl rfl rfl ?_
      refine l1 (negF_r rfl (by omega) (by omega)) rfl rfl rfl ?_
      refine asI rfl rfl ?_  -- 0 raw.go:9
      refine lw_nil ?_
      have e : -(n + 1) = (a : Nat) := by rw [if_pos h6] at ha; omega
      rw [e]
      refine ⟨(), H, sl1 rfl, by repeat (first | exact Agr.refl _ _ | exact agr_ovr | refine agr_upd rfl ?_ | refine agr_updL _ rfl ?_)⟩
    · refine cw_false rfl ?_
      refine cw_skip ?_
      have e : n = (a : Nat) := by rw [if_neg h6] at ha; omega
      subst e
      refine ⟨(), H, sl1 rfl, by repeat (first | exact Agr.refl _ _ | exact agr_ovr | refine agr_upd rfl ?_ | refine agr_updL _ rfl ?_)⟩
  rintro _ ρ1 w1 H
  show CW _ _ _ _ (updL (ovr _ _ ρ1) [(0, .int .i64 (a : Nat))]) w1
  refine cw_seq ?_
  refine cw_region ?_ -- region 3
  refine mvI rfl rfl ?_  -- 10 raw.go:11
  refine mvI rfl rfl ?_  -- 11 raw.go:11
  refine rem rfl rfl (by omega) (by omega) rfl ?_  -- 12 raw.go:11
  refine asI rfl rfl ?_  -- 4 raw.go:11
  refine lw_nil ?_
  refine cw_ret ?_
  have e : ((a : Int) % (m : Int)) = (pk n m : Nat) := by unfold pk; rw [ha]; rfl
  rw [e]
  exact fin1 (v := .int .i64 (pk n m : Nat)) rfl rfl ⟨rfl, H.below⟩
end Go.Proofs.Ytemnchkebhclpaa
end

section
namespace Go.Proofs.Ytemnchkebhclpaa
open Go Go.Eng Go.RowKit
structure Raw where
  kind : Int
  a : Int
  b : Int
  c : Int
def Raw.cs (r : Raw) : List Value := [.int .i64 r.kind, .int .i64 r.a, .int .i64 r.b, .int .i64 r.c]
def rawL : Lay Raw := ⟨Raw.cs, 4, fun _ => rfl, by decide, fun a u hu => by
  simp only [Raw.cs, List.mem_cons, List.mem_nil_iff, or_false] at hu
  rcases hu with h | h | h | h <;> subst h <;> rfl⟩
def i64 (n : Int) : Prop := -9223372036854775808 ≤ n ∧ n ≤ 9223372036854775807
def Raw.ok (r : Raw) : Prop := i64 r.kind ∧ i64 r.a ∧ i64 r.b ∧ i64 r.c
/-- a word: a number's digits as letters, the lowest first -/
def wordB (n : Nat) : List UInt8 := if h : n = 0 then [] else UInt8.ofNat (97 + n % 10) :: wordB (n / 10)
termination_by n
decreasing_by omega
theorem wordB_pos {n : Nat} (h : 0 < n) : wordB n = UInt8.ofNat (97 + n % 10) :: wordB (n / 10) := by rw [wordB, dif_neg (by omega)]
theorem wordB_zero : wordB 0 = [] := by rw [wordB]; simp
theorem wordB_len : ∀ (k n : Nat), n < 10 ^ k → (wordB n).length ≤ k
  | 0, n, h => by
    have : n = 0 := by simpa using h
    subst this; rw [wordB_zero]; simp
  | k + 1, n, h => by
    by_cases hn : n = 0
    · subst hn; rw [wordB_zero]; simp
    · rw [wordB_pos (by omega)]
      have := wordB_len k (n / 10) (by rw [Nat.pow_succ] at h; omega)
      simp; omega
def wordT (n : Int) : ByteArray := ⟨(wordB (pk n 10000)).toArray⟩
theorem ba_app (a b : List UInt8) : (⟨a.toArray⟩ : ByteArray) ++ ⟨b.toArray⟩ = ⟨(a ++ b).toArray⟩ := by
  apply ByteArray.ext
  simp
theorem wordT_len (n : Int) : (wordT n).size ≤ 4 := by
  have := wordB_len 4 (pk n 10000) (pk_lt n (by decide))
  simpa [wordT, ByteArray.size] using this
set_option maxHeartbeats 4000000 in
set_option maxRecDepth 10000 in
theorem word_ok (n : Int) (w : World) (hn : i64 n) : Ret Try.prog i_tailracekeep_word [.int .i64 n] w fun v w2 => v = .string (wordT n) ∧ Below w.heap.size w w2 := by
  refine ret_of fn_tailracekeep_word rfl rfl ?_
  have H := Hp.start w
  obtain ⟨hn1, hn2⟩ := hn
  have hpk := pk_lt n (show 0 < 10000 by decide)
  refine cw_seq ?_
  refine cw_region ?_ -- region 0 raw.go:34
  refine l1 (asT_r rfl) rfl rfl rfl ?_
  refine lw_nil ?_
  refine cw_seq ?_
  refine cw_region ?_ -- region 1 raw.go:35
  refine l1 (asT_r rfl) rfl rfl rfl ?_
  refine lw_nil ?_
  refine cw_seq ?_
  refine cw_seq ?_
  refine cw_region ?_ -- region 2 raw.go:36
  refine l1 (mvI_r rfl) rfl rfl rfl ?_
  refine cal cb_tailracekeep_picked (picked_ok _ 10000 _ (by omega) (by omega) (by decide) (by decide)) rfl rfl ?_
  rintro _ w1 ⟨rfl, hb⟩; replace H := H.later hb; clear hb
  refine l1 (asI_r rfl) rfl rfl rfl ?_
  refine lw_nil ?_
  refine cw_block ?_ -- block 0
  refine cw_loop (τ := Nat × List UInt8) [0, 3, 6, 7, 8, 9, 10, 11, 12, 13, 14, 15, 16] (fun (m, s) => [(0, .int .i64 (m : Nat)), (3, .string ⟨s.toArray⟩)]) (fun (m, s) w' => m < 10000 ∧ s ++ wordB m = wordB (pk n 10000) ∧ Hp w w' [] []) (fun (m, _) => m) (pk n 10000, []) ⟨hpk, rfl, H⟩ (sl2 rfl rfl) ?_ -- LOOP 0
  rintro ⟨m, s⟩ ρ1 w1 ⟨hm, hs, H⟩
  show CW _ _ _ _ (updL (ovr _ _ ρ1) [(0, .int .i64 (m : Nat)), (3, .string ⟨s.toArray⟩)]) w1
  have hsl : (⟨s.toArray⟩ : ByteArray).size ≤ 4 := by
    have h4 := wordB_len 4 (pk n 10000) (by simpa using hpk)
    rw [← hs, List.length_append] at h4
    show s.toArray.size ≤ 4
    simp; omega
  refine cw_seq ?_
  refine cw_seq ?_
  refine cw_region ?_ -- region 3 raw.go:36
  refine l1 (mvI_r rfl) rfl rfl rfl ?_
  refine lwD (gtr_r rfl rfl) rfl rfl rfl (fun h7 => ?_) (fun h7 => ?_)
  · -- slot 7 True
    refine lw_nil ?_
    refine cw_true rfl ?_
    refine cw_skip ?_
    refine cw_seq ?_
    refine cw_block ?_ -- block 1
    refine cw_region ?_ -- region 5 raw.go:37
    refine l1 (mvT_r rfl) rfl rfl rfl ?_
    refine l1 (mvI_r rfl) rfl rfl rfl ?_
    refine l1 (rem_r rfl rfl (by omega) (by omega)) rfl rfl rfl ?_
    refine l1 (add_r rfl rfl (by omega) (by omega)) rfl rfl rfl ?_
    have e13 : (97 : Int) + (m : Int) % 10 = (97 + m % 10 : Nat) := by omega
    rw [e13]
    refine l1 (cvI_r int_int int_int32 rfl (wrap31 (by omega))) rfl rfl rfl ?_
    refine l1 (cvIT_r int_int32 str_string rfl rfl (by omega)) rfl rfl rfl ?_
    refine l1 (sadd_r rfl rfl (by simp only [ByteArray.size] at hsl ⊢; simp at hsl ⊢; omega)) rfl rfl rfl ?_
    rw [show (⟨#[UInt8.ofNat (97 + m % 10)]⟩ : ByteArray) = ⟨[UInt8.ofNat (97 + m % 10)].toArray⟩ from rfl, ba_app]
    refine l1 (asT_r rfl) rfl rfl rfl ?_
    refine lw_nil ?_
    refine cw_region ?_ -- region 4 raw.go:36
    refine l1 (mvI_r rfl) rfl rfl rfl ?_
    refine l1 (quo_r rfl rfl (by omega) (by omega) (by omega)) rfl rfl rfl ?_
    refine l1 (asI_r rfl) rfl rfl rfl ?_
    refine lw_nil ?_
    refine ⟨(m / 10, s ++ [UInt8.ofNat (97 + m % 10)]), ⟨by omega, by rw [← hs, wordB_pos (n := m) (by omega)]; simp, H⟩, sl2 rfl rfl, by repeat (first | exact Agr.refl _ _ | exact agr_ovr | refine agr_upd rfl ?_ | refine agr_updL _ rfl ?_), by show m / 10 < m; omega⟩
  · -- slot 7 False
    refine lw_nil ?_
    refine cw_false rfl ?_
    refine cw_exit ?_ -- 0
    refine cw_seq ?_
    refine cw_region ?_ -- region 6 raw.go:39
    refine l1 (mvT_r rfl) rfl rfl rfl ?_
    refine l1 (asT_r rfl) rfl rfl rfl ?_
    refine lw_nil ?_
    refine cw_ret ?_
    have hm0 : m = 0 := by omega
    subst hm0
    rw [wordB_zero, List.append_nil] at hs
    subst hs
    exact fin1 (v := .string (wordT n)) rfl rfl ⟨rfl, H.below⟩
def Raw.entry (r : Raw) : Ent :=
  let p := pk r.b 4
  if p = 0 then ⟨pk r.a 4, 0, 0, 0, 1, false, wordT r.c⟩
  else if pk r.kind 6 = 0 ∨ pk r.kind 6 = 1 then ⟨pk r.a 4, p, pk r.a 3, 0, 2 + pk r.c 2, true, ⟨#[]⟩⟩
  else ⟨pk r.a 4, p, pk r.a 3, pk r.c 5, 1, decide (((pk r.c 2 : Nat) : Int) = 0), wordT r.c⟩
set_option maxHeartbeats 4000000 in
set_option maxRecDepth 10000 in
theorem entry_ok (r : Raw) (w : World) (hr : r.ok) : Ret Try.prog i_tailracekeep_Entry [.agg r.cs.toArray] w fun v w2 => v = r.entry.v ∧ Below w.heap.size w w2 := by
  refine ret_of fn_tailracekeep_Entry rfl rfl ?_
  have H := Hp.start w
  obtain ⟨⟨k1, k2⟩, ⟨a1, a2⟩, ⟨b1, b2⟩, ⟨c1, c2⟩⟩ := hr
  obtain ⟨rk, ra, rb, rc⟩ := r
  simp only at k1 k2 a1 a2 b1 b2 c1 c2
  have hp2 := pk_lt rc (show 0 < 2 by decide)
  refine cw_seq ?_
  refine cw_region ?_ -- region 0 raw.go:18
  refine bxA H rfl rfl ?_; intro w1 b1 H
  refine alo H z_Entry rfl ?_; intro w2 b2 H
  refine lw_nil ?_
  refine cw_seq ?_
  -- region 1 draws
  refine cw_draw mixed [0, 1, 3, 4, 6, 7, 2, 5, 8, 9, 10] [11] [2, 5, 8, 10] [0, 3, 6, 9] (sp [(2, Sp.one (.int .i64 (pk ra 4 : Nat))), (5, Sp.one (.int .i64 (pk rb 4 : Nat))), (8, Sp.one (.string (wordT rc))), (10, Sp.blk w2.heap.size (.agg #[.int .i64 0, .int .i64 0, .int .i64 0, .int .i64 0, .int .i64 0, .bool false, .string ⟨#[]⟩]) T_Entry)]) (by kernel_rfl) (by kernel_rfl) (by kernel_rfl) (by kernel_rfl) (fun _ _ _ h => h) (sp_st _) ?_
  refine aw rfl rfl rfl rfl rfl (fun w' hw' => fad_r fd_Raw_1 rfl) ?_
  refine aw rfl rfl rfl rfl rfl (fun w' hw' => ld_r one_int rfl (cellE ((H.later hw').ent (i := 1) rfl) rfl)) ?_
  refine aw rfl rfl rfl rfl rfl (fun w' hw' => fad_r fd_Raw_2 rfl) ?_
  refine aw rfl rfl rfl rfl rfl (fun w' hw' => ld_r one_int rfl (cellE ((H.later hw').ent (i := 1) rfl) rfl)) ?_
  refine aw rfl rfl rfl rfl rfl (fun w' hw' => fad_r fd_Raw_3 rfl) ?_
  refine aw rfl rfl rfl rfl rfl (fun w' hw' => ld_r one_int rfl (cellE ((H.later hw').ent (i := 1) rfl) rfl)) ?_
  refine awCalV cb_tailracekeep_picked rfl rfl rfl rfl rfl (fun w' hw' => picked_ok ra 4 _ (by omega) (by omega) (by decide) (by decide)) rfl ?_
  refine awCalV cb_tailracekeep_picked rfl rfl rfl rfl rfl (fun w' hw' => picked_ok rb 4 _ (by omega) (by omega) (by decide) (by decide)) rfl ?_
  refine awCalV cb_tailracekeep_word rfl rfl rfl rfl rfl (fun w' hw' => word_ok rc _ ⟨by omega, by omega⟩) rfl ?_
  refine aw rfl rfl rfl rfl rfl (fun w' hw' => bld_r (cs := (Ent.c ⟨pk ra 4, pk rb 4, 0, 0, 1, false, wordT rc⟩).toArray) st_Entry z_Entry (by kernel_rfl)) ?_
  refine awAl z_Entry rfl rfl rfl rfl rfl (fun w' hw' => hw'.size) ?_; intro b3
  refine aw_nil ?_
  intro w3 hw' hF
  obtain ⟨hF, bq, eq, hge3, hbl3⟩ := hF; cases eq
  obtain ⟨hF, -⟩ := hF
  obtain ⟨hF, -⟩ := hF
  obtain ⟨hF, -⟩ := hF
  replace H := H.adoptNew hw' hbl3 hge3; clear hw' hF
  refine stN H 0 ((Ent.c ⟨pk ra 4, pk rb 4, 0, 0, 1, false, wordT rc⟩).toArray) siz_Entry rfl rfl rfl rfl rfl (by kernel_rfl) (by kernel_rfl) ?_; intro w4 H
  refine lw_nil ?_
  refine cw_seq ?_
  refine cw_seq ?_
  refine cw_region ?_ -- region 2 raw.go:20
  refine l1 (fad_r fd_Entry_1 rfl) rfl rfl rfl ?_
  refine l1 (ld_r one_int rfl (cellE (H.ent (i := 0) rfl) rfl)) rfl rfl rfl ?_
  refine lwD (eql_r rfl rfl) rfl rfl rfl (fun h16 => ?_) (fun h16 => ?_)
  · -- slot 16 True
    refine lw_nil ?_
    refine cw_true rfl ?_
    refine cw_seq ?_
    refine cw_region ?_ -- region 3 raw.go:21
    refine l1 (ldW_r agg_Entry rfl (H.ent (i := 0) rfl) rfl) rfl rfl rfl ?_
    refine stN H 1 ((Ent.c ⟨pk ra 4, pk rb 4, 0, 0, 1, false, wordT rc⟩).toArray) siz_Entry rfl rfl rfl rfl rfl (by kernel_rfl) (by kernel_rfl) ?_; intro w5 H
    refine lw_nil ?_
    refine cw_ret ?_
    try dsimp only at h16
    try dsimp only at h31
    try dsimp only at h32
    have e : Raw.entry ⟨rk, ra, rb, rc⟩ = ⟨pk ra 4, pk rb 4, 0, 0, 1, false, wordT rc⟩ := by
      simp only [Raw.entry]
      rw [if_pos (by omega), show pk rb 4 = 0 by omega]; rfl
    exact finC (cs0 := (Ent.c ⟨pk ra 4, pk rb 4, 0, 0, 1, false, wordT rc⟩).toArray) rfl agg_Entry rfl (H.ent (i := 1) rfl) rfl ⟨by rw [e], H.below⟩
  · -- slot 16 False
    refine lw_nil ?_
    refine cw_false rfl ?_
    refine cw_skip ?_
    refine cw_seq ?_
    refine cw_region ?_ -- region 4 raw.go:23
    refine l1 (fad_r fd_Raw_1 rfl) rfl rfl rfl ?_
    refine l1 (ld_r one_int rfl (cellE (H.ent (i := 2) rfl) rfl)) rfl rfl rfl ?_
    refine cal cb_tailracekeep_picked (picked_ok _ 3 _ (by omega) (by omega) (by decide) (by decide)) rfl rfl ?_
    rintro _ w6 ⟨rfl, hb⟩; replace H := H.later hb; clear hb
    refine l1 (fad_r fd_Entry_2 rfl) rfl rfl rfl ?_
    refine stN H 0 ((Ent.c ⟨pk ra 4, pk rb 4, pk ra 3, 0, 1, false, wordT rc⟩).toArray) siz_int rfl rfl rfl rfl rfl (by kernel_rfl) (by kernel_rfl) ?_; intro w7 H
    refine lw_nil ?_
    refine cw_seq ?_
    refine cw_region ?_ -- region 5 raw.go:24
    refine l1 (fad_r fd_Raw_3 rfl) rfl rfl rfl ?_
    refine l1 (ld_r one_int rfl (cellE (H.ent (i := 2) rfl) rfl)) rfl rfl rfl ?_
    refine cal cb_tailracekeep_picked (picked_ok _ 2 _ (by omega) (by omega) (by decide) (by decide)) rfl rfl ?_
    rintro _ w8 ⟨rfl, hb⟩; replace H := H.later hb; clear hb
    refine l1 (eql_r rfl rfl) rfl rfl rfl ?_
    refine l1 (fad_r fd_Entry_5 rfl) rfl rfl rfl ?_
    refine stN H 0 ((Ent.c ⟨pk ra 4, pk rb 4, pk ra 3, 0, 1, decide (((pk rc 2 : Nat) : Int) = 0), wordT rc⟩).toArray) siz_bool rfl rfl rfl rfl rfl (by kernel_rfl) (by kernel_rfl) ?_; intro w9 H
    refine lw_nil ?_
    refine cw_seq ?_
    refine cw_seq ?_
    refine cw_region ?_ -- region 6 raw.go:25
    refine l1 (fad_r fd_Raw_0 rfl) rfl rfl rfl ?_
    refine l1 (ld_r one_int rfl (cellE (H.ent (i := 2) rfl) rfl)) rfl rfl rfl ?_
    refine cal cb_tailracekeep_picked (picked_ok _ 6 _ (by omega) (by omega) (by decide) (by decide)) rfl rfl ?_
    rintro _ w10 ⟨rfl, hb⟩; replace H := H.later hb; clear hb
    refine lw_nil ?_
    refine cw_block ?_ -- block 0
    refine cw_seq ?_
    refine cw_seq ?_
    refine cw_region ?_ -- region 7 raw.go:26
    refine lwD (eql_r rfl rfl) rfl rfl rfl (fun h31 => ?_) (fun h31 => ?_)
    · -- slot 31 True
      refine l1 (asB_r rfl) rfl rfl rfl ?_
      refine lw_nil ?_
      refine cw_true rfl ?_
      refine cw_skip ?_
      refine cw_true rfl ?_
      refine cw_seq ?_
      -- region 9 draws
      refine cw_draw mixed [0, 1, 2, 3, 4, 5, 6, 7, 8, 9, 10] [11] [8] [0, 2, 4, 6, 9, 10] (sp [(8, Sp.one (.int .i64 (pk rc 2 : Nat)))]) (by kernel_rfl) (by kernel_rfl) (by kernel_rfl) (by kernel_rfl) (fun _ _ _ h => h) (sp_st _) ?_
      refine aw rfl rfl rfl rfl rfl (fun w' hw' => fad_r fd_Entry_0 rfl) ?_
      refine aw rfl rfl rfl rfl rfl (fun w' hw' => ld_r one_int rfl (cellE ((H.later hw').ent (i := 0) rfl) rfl)) ?_
      refine aw rfl rfl rfl rfl rfl (fun w' hw' => fad_r fd_Entry_1 rfl) ?_
      refine aw rfl rfl rfl rfl rfl (fun w' hw' => ld_r one_int rfl (cellE ((H.later hw').ent (i := 0) rfl) rfl)) ?_
      refine aw rfl rfl rfl rfl rfl (fun w' hw' => fad_r fd_Entry_2 rfl) ?_
      refine aw rfl rfl rfl rfl rfl (fun w' hw' => ld_r one_int rfl (cellE ((H.later hw').ent (i := 0) rfl) rfl)) ?_
      refine aw rfl rfl rfl rfl rfl (fun w' hw' => fad_r fd_Raw_3 rfl) ?_
      refine aw rfl rfl rfl rfl rfl (fun w' hw' => ld_r one_int rfl (cellE ((H.later hw').ent (i := 2) rfl) rfl)) ?_
      refine awCalV cb_tailracekeep_picked rfl rfl rfl rfl rfl (fun w' hw' => picked_ok rc 2 _ (by omega) (by omega) (by decide) (by decide)) rfl ?_
      refine aw rfl rfl rfl rfl rfl (fun w' hw' => add_r rfl rfl (by omega) (by omega)) ?_
      refine aw rfl rfl rfl rfl rfl (fun w' hw' => bld_r (cs := (Ent.c ⟨pk ra 4, pk rb 4, pk ra 3, 0, 2 + (pk rc 2 : Nat), true, ⟨#[]⟩⟩).toArray) st_Entry z_Entry (by kernel_rfl)) ?_
      refine aw_nil ?_
      intro w11 hw' hF
      replace H := H.later hw'; clear hw' hF
      refine stN H 1 ((Ent.c ⟨pk ra 4, pk rb 4, pk ra 3, 0, 2 + (pk rc 2 : Nat), true, ⟨#[]⟩⟩).toArray) siz_Entry rfl rfl rfl rfl rfl (by kernel_rfl) (by kernel_rfl) ?_; intro w12 H
      refine lw_nil ?_
      refine cw_ret ?_
      try dsimp only at h16
      try dsimp only at h31
      try dsimp only at h32
      have e : Raw.entry ⟨rk, ra, rb, rc⟩ = ⟨pk ra 4, pk rb 4, pk ra 3, 0, 2 + (pk rc 2 : Nat), true, ⟨#[]⟩⟩ := by
        simp only [Raw.entry]
        (split <;> first | omega | (split <;> first | omega | rfl))
      exact finC (cs0 := (Ent.c ⟨pk ra 4, pk rb 4, pk ra 3, 0, 2 + (pk rc 2 : Nat), true, ⟨#[]⟩⟩).toArray) rfl agg_Entry rfl (H.ent (i := 1) rfl) rfl ⟨by rw [e], H.below⟩
    · -- slot 31 False
      refine l1 (asB_r rfl) rfl rfl rfl ?_
      refine lw_nil ?_
      refine cw_false rfl ?_
      refine cw_region ?_ -- region 8 raw.go:26
      refine lwD (eql_r rfl rfl) rfl rfl rfl (fun h32 => ?_) (fun h32 => ?_)
      · -- slot 32 True
        refine l1 (asB_r rfl) rfl rfl rfl ?_
        refine lw_nil ?_
        refine cw_true rfl ?_
        refine cw_seq ?_
        -- region 9 draws
        refine cw_draw mixed [0, 1, 2, 3, 4, 5, 6, 7, 8, 9, 10] [11] [8] [0, 2, 4, 6, 9, 10] (sp [(8, Sp.one (.int .i64 (pk rc 2 : Nat)))]) (by kernel_rfl) (by kernel_rfl) (by kernel_rfl) (by kernel_rfl) (fun _ _ _ h => h) (sp_st _) ?_
        refine aw rfl rfl rfl rfl rfl (fun w' hw' => fad_r fd_Entry_0 rfl) ?_
        refine aw rfl rfl rfl rfl rfl (fun w' hw' => ld_r one_int rfl (cellE ((H.later hw').ent (i := 0) rfl) rfl)) ?_
        refine aw rfl rfl rfl rfl rfl (fun w' hw' => fad_r fd_Entry_1 rfl) ?_
        refine aw rfl rfl rfl rfl rfl (fun w' hw' => ld_r one_int rfl (cellE ((H.later hw').ent (i := 0) rfl) rfl)) ?_
        refine aw rfl rfl rfl rfl rfl (fun w' hw' => fad_r fd_Entry_2 rfl) ?_
        refine aw rfl rfl rfl rfl rfl (fun w' hw' => ld_r one_int rfl (cellE ((H.later hw').ent (i := 0) rfl) rfl)) ?_
        refine aw rfl rfl rfl rfl rfl (fun w' hw' => fad_r fd_Raw_3 rfl) ?_
        refine aw rfl rfl rfl rfl rfl (fun w' hw' => ld_r one_int rfl (cellE ((H.later hw').ent (i := 2) rfl) rfl)) ?_
        refine awCalV cb_tailracekeep_picked rfl rfl rfl rfl rfl (fun w' hw' => picked_ok rc 2 _ (by omega) (by omega) (by decide) (by decide)) rfl ?_
        refine aw rfl rfl rfl rfl rfl (fun w' hw' => add_r rfl rfl (by omega) (by omega)) ?_
        refine aw rfl rfl rfl rfl rfl (fun w' hw' => bld_r (cs := (Ent.c ⟨pk ra 4, pk rb 4, pk ra 3, 0, 2 + (pk rc 2 : Nat), true, ⟨#[]⟩⟩).toArray) st_Entry z_Entry (by kernel_rfl)) ?_
        refine aw_nil ?_
        intro w13 hw' hF
        replace H := H.later hw'; clear hw' hF
        refine stN H 1 ((Ent.c ⟨pk ra 4, pk rb 4, pk ra 3, 0, 2 + (pk rc 2 : Nat), true, ⟨#[]⟩⟩).toArray) siz_Entry rfl rfl rfl rfl rfl (by kernel_rfl) (by kernel_rfl) ?_; intro w14 H
        refine lw_nil ?_
        refine cw_ret ?_
        try dsimp only at h16
        try dsimp only at h31
        try dsimp only at h32
        have e : Raw.entry ⟨rk, ra, rb, rc⟩ = ⟨pk ra 4, pk rb 4, pk ra 3, 0, 2 + (pk rc 2 : Nat), true, ⟨#[]⟩⟩ := by
          simp only [Raw.entry]
          (split <;> first | omega | (split <;> first | omega | rfl))
        exact finC (cs0 := (Ent.c ⟨pk ra 4, pk rb 4, pk ra 3, 0, 2 + (pk rc 2 : Nat), true, ⟨#[]⟩⟩).toArray) rfl agg_Entry rfl (H.ent (i := 1) rfl) rfl ⟨by rw [e], H.below⟩
      · -- slot 32 False
        refine l1 (asB_r rfl) rfl rfl rfl ?_
        refine lw_nil ?_
        refine cw_false rfl ?_
        refine cw_skip ?_
        refine cw_seq ?_
        refine cw_region ?_ -- region 10 raw.go:29
        refine l1 (fad_r fd_Raw_3 rfl) rfl rfl rfl ?_
        refine l1 (ld_r one_int rfl (cellE (H.ent (i := 2) rfl) rfl)) rfl rfl rfl ?_
        refine cal cb_tailracekeep_picked (picked_ok _ 5 _ (by omega) (by omega) (by decide) (by decide)) rfl rfl ?_
        rintro _ w15 ⟨rfl, hb⟩; replace H := H.later hb; clear hb
        refine l1 (fad_r fd_Entry_3 rfl) rfl rfl rfl ?_
        refine stN H 0 ((Ent.c ⟨pk ra 4, pk rb 4, pk ra 3, pk rc 5, 1, decide (((pk rc 2 : Nat) : Int) = 0), wordT rc⟩).toArray) siz_int rfl rfl rfl rfl rfl (by kernel_rfl) (by kernel_rfl) ?_; intro w16 H
        refine lw_nil ?_
        refine cw_seq ?_
        refine cw_region ?_ -- region 11 raw.go:30
        refine l1 (ldW_r agg_Entry rfl (H.ent (i := 0) rfl) rfl) rfl rfl rfl ?_
        refine stN H 1 ((Ent.c ⟨pk ra 4, pk rb 4, pk ra 3, pk rc 5, 1, decide (((pk rc 2 : Nat) : Int) = 0), wordT rc⟩).toArray) siz_Entry rfl rfl rfl rfl rfl (by kernel_rfl) (by kernel_rfl) ?_; intro w17 H
        refine lw_nil ?_
        refine cw_ret ?_
        try dsimp only at h16
        try dsimp only at h31
        try dsimp only at h32
        have e : Raw.entry ⟨rk, ra, rb, rc⟩ = ⟨pk ra 4, pk rb 4, pk ra 3, pk rc 5, 1, decide (((pk rc 2 : Nat) : Int) = 0), wordT rc⟩ := by
          simp only [Raw.entry]
          (split <;> first | omega | (split <;> first | omega | rfl))
        exact finC (cs0 := (Ent.c ⟨pk ra 4, pk rb 4, pk ra 3, pk rc 5, 1, decide (((pk rc 2 : Nat) : Int) = 0), wordT rc⟩).toArray) rfl agg_Entry rfl (H.ent (i := 1) rfl) rfl ⟨by rw [e], H.below⟩
def manyE (l : List Raw) (most : Nat) : List Ent := (l.take most).map Raw.entry
set_option maxHeartbeats 4000000 in
set_option maxRecDepth 10000 in
theorem many_ok (l : List Raw) (most : Nat) (A : Option Addr) (c : Nat) (w : World) (hr : Rd rawL 0 w.heap.size A l w) (hok : ∀ r ∈ l, r.ok) (hl : l.length ≤ 9223372036854775807) (hm : most ≤ 100) :
    Ret Try.prog i_tailracekeep_many [.slice A l.length c, .int .i64 (most : Nat)] w fun v w2 => ∃ A' c', v = .slice A' (manyE l most).length c' ∧ Rd entL w.heap.size w2.heap.size A' (manyE l most) w2 ∧ (manyE l most).length ≤ c' ∧ Below w.heap.size w w2 := by
  refine ret_of fn_tailracekeep_many rfl rfl ?_
  have H := (Hp.start w).learnOld (FRd rawL 0 w.heap.size A l) hr (Nat.le_refl _)
  refine cw_seq ?_
  refine cw_region ?_ -- region 0 low.go:14
  refine l1 (asS_r rfl) rfl rfl rfl ?_
  refine lw_nil ?_
  refine cw_seq ?_
  refine cw_region ?_ -- region 1 low.go:15
  refine l1 (asS_r rfl) rfl rfl rfl ?_
  refine lw_nil ?_
  refine cw_seq ?_
  refine cw_seq ?_
  refine cw_region ?_ -- region 2 low.go:16
  refine l1 (asI_r rfl) rfl rfl rfl ?_
  refine lw_nil ?_
  refine cw_block ?_ -- block 0
  refine cw_loop (τ := Nat × List Ent × Option Addr × Nat) [5, 6, 7, 8, 9, 10, 11, 12, 13, 14, 15, 16, 17, 18, 19, 20, 21, 22, 23, 24, 25] (fun (k, out, A1, c1) => [(5, .slice A1 out.length c1), (6, .int .i64 (k : Nat))]) (fun (k, out, A1, c1) w' => k ≤ l.length ∧ k ≤ most ∧ out = (l.take k).map Raw.entry ∧ ∃ L', Own entL (.slice A1 out.length c1) T_Entry out L' ∧ Hp w w' ([] ++ L' ++ []) [FRd rawL 0 w.heap.size A l]) (fun (k, _, _, _) => l.length - k) (0, [], none, 0) ⟨by omega, by omega, by simp, [], Own.nil, H⟩ (sl2 rfl rfl) ?_ -- LOOP 0
  rintro ⟨k, out, A1, c1⟩ ρ1 w1 ⟨hk, hkm, hout, L1, ho, H⟩
  show CW _ _ _ _ (updL (ovr _ _ ρ1) [(5, .slice A1 out.length c1), (6, .int .i64 (k : Nat))]) w1
  refine cw_seq ?_
  refine cw_seq ?_
  refine cw_region ?_ -- region 3 low.go:16
  refine l1 (mvI_r rfl) rfl rfl rfl ?_
  refine l1 (mvS_r rfl) rfl rfl rfl ?_
  refine l1 (lenS_r len_LRaw rfl) rfl rfl rfl ?_
  refine lwD (lss_r rfl rfl) rfl rfl rfl (fun h10 => ?_) (fun h10 => ?_)
  · -- slot 10 True
    refine l1 (mvB_r rfl) rfl rfl rfl ?_
    refine lwG rfl ?_
    refine l1 (mvI_r rfl) rfl rfl rfl ?_
    refine lwG rfl ?_
    refine l1 (mvI_r rfl) rfl rfl rfl ?_
    refine lwG rfl ?_
    refine lwD (lss_r rfl rfl) rfl rfl rfl (fun h14 => ?_) (fun h14 => ?_)
    · -- slot 14 True
      refine l1 (pkTB_r rfl rfl) rfl rfl rfl ?_
      refine lw_nil ?_
      refine cw_true rfl ?_
      refine cw_skip ?_
      refine cw_seq ?_
      refine cw_block ?_ -- block 1
      refine cw_region ?_ -- region 5 low.go:17
      refine l1 (mvS_r rfl) rfl rfl rfl ?_
      refine l1 (mvS_r rfl) rfl rfl rfl ?_
      refine l1 (mvI_r rfl) rfl rfl rfl ?_
      refine ixF H 0 rfl sl_LRaw rfl rfl (by omega) (by omega) rfl ?_; intro b1 o1 x1 e1
      obtain ⟨hr0, hlt, hcl⟩ := e1
      generalize x1 = r at hr0 hcl
      have hrok := hok r (List.mem_of_getElem? hr0)
      refine l1 (ldA_r (xs := r.cs) agg_Raw rfl rfl hcl) rfl rfl rfl ?_
      refine cal cb_tailracekeep_Entry (entry_ok r _ hrok) rfl rfl ?_; rintro _ w2 ⟨rfl, hb⟩; replace H := H.later hb; clear hb
      refine bsv (vs := [r.entry.v]) H sl_LEntry z_Entry rfl rfl rfl rfl rfl rfl ?_; intro w2 b24 H
      have hol : out.length ≤ 100 := by rw [hout]; simp; omega
      refine apO (Y := entL) ap_LEntry (K := [(b24, _)]) (L := L1) (M := []) H ho (news := [r.entry]) rfl rfl rfl (Src.row (m := 1) (sz := 7) (H.ent (i := 0) rfl) rfl) (by simp only [List.length_singleton]; omega) rfl ?_
      intro A3 c3 w3 L3 _ _ ho3 H
      refine l1 (asS_r rfl) rfl rfl rfl ?_
      refine lw_nil ?_
      refine cw_region ?_ -- region 4 low.go:16
      refine l1 (mvI_r rfl) rfl rfl rfl ?_
      refine l1 (add_r rfl rfl (by omega) (by omega)) rfl rfl rfl ?_
      refine l1 (asI_r rfl) rfl rfl rfl ?_
      refine lw_nil ?_
      refine ⟨(k + 1, out ++ [r.entry], A3, c3), ⟨by omega, by omega, by rw [List.take_add_one, List.map_append, hout, hr0]; rfl, L3, ho3, H.forget (by simp) (fun _ h => h)⟩, sl2 rfl rfl, by repeat (first | exact Agr.refl _ _ | exact agr_ovr | refine agr_upd rfl ?_ | refine agr_updL _ rfl ?_), by show l.length - (k + 1) < l.length - k; omega⟩
    · -- slot 14 False
      refine l1 (pkTB_r rfl rfl) rfl rfl rfl ?_
      refine lw_nil ?_
      refine cw_false rfl ?_
      refine cw_exit ?_ -- 0
      refine cw_seq ?_
      refine cw_region ?_ -- region 6 low.go:19
      refine l1 (mvS_r rfl) rfl rfl rfl ?_
      refine l1 (asS_r rfl) rfl rfl rfl ?_
      refine lw_nil ?_
      refine cw_ret ?_
      have hfin : out = manyE l most := by
        rw [hout]; unfold manyE
        rw [show k = most by omega]
      subst hfin
      obtain ⟨A2, c2, he, hlc, -⟩ := ho.form
      injection he with h1 h2 h3
      subst h3
      exact fin1 rfl rfl ⟨A1, c1, rfl, ho.rd H, hlc, H.below⟩
  · -- slot 10 False
    refine l1 (mvB_r rfl) rfl rfl rfl ?_
    refine lwN rfl rfl rfl ?_
    refine lwN rfl rfl rfl ?_
    refine lwN rfl rfl rfl ?_
    refine l1 (pkFB_r rfl rfl) rfl rfl rfl ?_
    refine lw_nil ?_
    refine cw_false rfl ?_
    refine cw_exit ?_ -- 0
    refine cw_seq ?_
    refine cw_region ?_ -- region 6 low.go:19
    refine l1 (mvS_r rfl) rfl rfl rfl ?_
    refine l1 (asS_r rfl) rfl rfl rfl ?_
    refine lw_nil ?_
    refine cw_ret ?_
    have hfin : out = manyE l most := by
      rw [hout]; unfold manyE
      rw [List.take_of_length_le (by omega), List.take_of_length_le (by omega)]
    subst hfin
    obtain ⟨A2, c2, he, hlc, -⟩ := ho.form
    injection he with h1 h2 h3
    subst h3
    exact fin1 rfl rfl ⟨A1, c1, rfl, ho.rd H, hlc, H.below⟩
end Go.Proofs.Ytemnchkebhclpaa
end

section
namespace Go.Proofs.Ytemnchkebhclpaa
open Go Go.Eng Go.RowKit
theorem pk_le (n : Int) {m k : Nat} (h : 0 < m) (hk : m ≤ k + 1) : pk n m ≤ k := by
  have := pk_lt n h
  omega
theorem entry_good (r : Raw) : Good r.entry := by
  have ha := pk_lt r.a (show 0 < 4 by decide)
  have hb := pk_lt r.b (show 0 < 4 by decide)
  have ha3 := pk_lt r.a (show 0 < 3 by decide)
  have hc := pk_lt r.c (show 0 < 2 by decide)
  have hc5 := pk_lt r.c (show 0 < 5 by decide)
  have ht := wordT_len r.c
  have h0 : (⟨#[]⟩ : ByteArray).size = 0 := rfl
  unfold Good entCheck
  have key : ∀ e : Ent, 1 ≤ e.kind → e.kind ≤ 3 → (∀ n ∈ e.nums, 0 ≤ n ∧ n ≤ 1073741824) → e.text.size ≤ 40 → ¬ e.noForm → (if e.kind < 1 ∨ 3 < e.kind then (3 : Int) else if ¬ e.nums.all inNum = true then 2 else if 40 < e.text.size then 1 else if e.noForm then 4 else 0) = 0 := by
    intro e h1 h2 h3 h4 h5
    have hn : e.nums.all inNum = true := List.all_eq_true.2 fun n hn => by
      have := h3 n hn
      simp [inNum]; omega
    rw [if_neg (by omega), if_neg (fun h => h hn), if_neg (by omega), if_neg h5]
  apply key
  all_goals unfold Raw.entry
  all_goals dsimp only
  all_goals split
  all_goals first | omega | skip
  all_goals try split
  all_goals try simp [Ent.nums, Ent.noForm]
  all_goals omega
theorem manyE_good {l : List Raw} {m : Nat} : ∀ e ∈ manyE l m, Good e := by
  intro e he
  unfold manyE at he
  obtain ⟨r, _, rfl⟩ := List.mem_map.1 he
  exact entry_good r
theorem manyE_len (l : List Raw) (m : Nat) : (manyE l m).length ≤ m := by
  unfold manyE; simp; omega
theorem encB_le {e : Ent} (h : Good e) : (encB e).length ≤ 64 := by
  have := (bodyB_len h).1
  rw [encB_len]; omega
theorem flat_le : ∀ (es : List Ent), (∀ e ∈ es, Good e) → (flat es).length ≤ 64 * es.length
  | [], _ => by simp [flat]
  | e :: es, h => by
    have h1 := encB_le (h e (List.mem_cons_self ..))
    have h2 := flat_le es fun x hx => h x (List.mem_cons_of_mem _ hx)
    have : flat (e :: es) = encB e ++ flat es := by simp [flat]
    rw [this]; simp; omega
theorem dec_flat (es : List Ent) (h : ∀ e ∈ es, Good e) : Dec (flat es) es (flat es).length := by
  have := dec_enc es [] h rfl
  rwa [List.append_nil] at this
theorem getE {α : Type} {l : List α} {k : Nat} {e : α} (h : l[k]? = some e) : ∃ hk : k < l.length, l[k] = e := List.getElem?_eq_some_iff.1 h
theorem flat_take_succ {es : List Ent} {k : Nat} {e : Ent} (h : es[k]? = some e) : flat (es.take (k + 1)) = flat (es.take k) ++ encB e := by
  obtain ⟨hk, rfl⟩ := getE h
  exact flat_succ hk
set_option maxHeartbeats 4000000 in
set_option maxRecDepth 10000 in
theorem entryBack_ok (l : List Raw) (A : Option Addr) (c : Nat) (w : World) (hr : Rd rawL 0 w.heap.size A l w) (hok : ∀ r ∈ l, r.ok) (hl : l.length ≤ 9223372036854775807) :
    Ret Try.prog i_tailracekeep_EntryBack [.slice A l.length c] w fun v w2 => v = .bool true ∧ Below w.heap.size w w2 := by
  refine ret_of fn_tailracekeep_EntryBack rfl rfl ?_
  have H := Hp.startRd hr
  refine cw_seq ?_
  refine cw_region ?_ -- region 0 low.go:36
  refine l1 (asB_r rfl) rfl rfl rfl ?_
  refine lw_nil ?_
  refine cw_seq ?_
  refine cw_region ?_ -- region 1 low.go:37
  refine l1 (mvS_r rfl) rfl rfl rfl ?_
  refine cal cb_tailracekeep_many (many_ok l 30 _ _ _ (H.rd0 0 rfl) hok hl (by decide)) rfl rfl ?_
  rintro _ w2 ⟨Aes, ces, rfl, hr1, hces, hb1⟩; replace H := H.learnRd hb1 hr1; clear hr1 hb1
  generalize hes : manyE l 30 = es at H hces ⊢
  refine l1 (asS_r rfl) rfl rfl rfl ?_
  refine lw_nil ?_
  refine cw_seq ?_
  refine cw_region ?_ -- region 2 low.go:38
  refine l1 (asS_r rfl) rfl rfl rfl ?_
  refine lw_nil ?_
  refine cw_seq ?_
  refine cw_seq ?_
  refine cw_region ?_ -- region 3 low.go:39
  refine l1 (mvS_r rfl) rfl rfl rfl ?_
  refine l1 (lenS_r len_LEntry rfl) rfl rfl rfl ?_
  refine l1 (mvI_r rfl) rfl rfl rfl ?_
  refine lw_nil ?_
  refine cw_block ?_ -- block 0
  have hgood : ∀ e ∈ es, Good e := by rw [← hes]; exact manyE_good
  have hel : es.length ≤ 30 := by rw [← hes]; exact manyE_len l 30
  have hfl := flat_le es hgood
  refine cw_loop (τ := Nat × Option Addr × Nat) [2, 4, 6, 7, 8, 15, 16, 17, 18, 19, 20, 21, 22, 23, 24, 25, 26, 27, 28, 29, 30, 31, 32, 33, 34] (fun (k, A1, c1) => [(4, .slice A1 (flat (es.take k)).length c1), (15, .int .i64 (k : Nat))]) (fun (k, A1, c1) w' => k ≤ es.length ∧ (flat (es.take k)).length ≤ c1 ∧ ∃ L', Own byteL (.slice A1 (flat (es.take k)).length c1) T_byte (flat (es.take k)) L' ∧ Hp w w' ([] ++ L' ++ []) [FRd entL w.heap.size w2.heap.size Aes es, FRd rawL 0 w.heap.size A l]) (fun (k, _, _) => es.length - k) (0, none, 0) ⟨by omega, by simp [flat], [], Own.nil, H⟩ (sl2 rfl rfl) ?_ -- LOOP 0
  rintro ⟨k, A1, c1⟩ ρ1 w3 ⟨hk, hc1, L1, ho, H⟩
  show CW _ _ _ _ (updL (ovr _ _ ρ1) [(4, .slice A1 (flat (es.take k)).length c1), (15, .int .i64 (k : Nat))]) w3
  refine cw_seq ?_
  refine cw_region ?_ -- region 4 low.go:39
  refine lwD (lss_r rfl rfl) rfl rfl rfl (fun h16 => ?_) (fun h16 => ?_)
  · -- slot 16 True
    refine lw_nil ?_
    refine cw_seq ?_
    refine cw_true rfl ?_
    refine cw_skip ?_
    refine cw_seq ?_
    refine cw_block ?_ -- block 1
    refine cw_seq ?_
    refine cw_region ?_ -- region 5 low.go:39
    refine ixF H 0 rfl sl_LEntry rfl rfl (by omega) (by omega) rfl ?_; intro b4 o4 x4 e4
    have hg := hgood _ (List.mem_of_getElem? e4.at_)
    have hk1 : k + 1 ≤ es.length := (getE e4.at_).1
    have hle := flat_take_le es (k + 1)
    have hle2 : (flat (es.take (k + 1))).length = (flat (es.take k)).length + (encB x4).length := by rw [flat_take_succ e4.at_, List.length_append]
    refine l1 (ldA_r (xs := Ent.c x4) agg_Entry rfl rfl e4.cl) rfl rfl rfl ?_
    refine alo H z_Entry rfl ?_; intro w5 b6 H
    refine stW H 0 siz_Entry rfl rfl rfl rfl rfl rfl ?_; intro w6 H
    refine lw_nil ?_
    refine cw_seq ?_
    refine cw_region ?_ -- region 6 low.go:40
    refine l1 (ldW_r agg_Entry rfl (H.ent (i := 0) rfl) rfl) rfl rfl rfl ?_
    refine cal cb_wire_Encode (encode_ok x4 _ hg) rfl rfl ?_
    rintro _ w8 ⟨A7, c7, rfl, hr7, hc7, hb7⟩; replace H := H.learnRd hb7 hr7; clear hr7 hb7
    refine l1 (mvU_r rfl) rfl rfl rfl ?_
    refine l1 (exS_r rfl rfl) rfl rfl rfl ?_
    refine l1 (exI_r rfl rfl) rfl rfl rfl ?_
    refine l1 (asS_r rfl) rfl rfl rfl ?_
    refine l1 (asI_r rfl) rfl rfl rfl ?_
    refine lw_nil ?_
    refine cw_seq ?_
    refine cw_seq ?_
    refine cw_region ?_ -- region 7 low.go:41
    refine l1 (mvI_r rfl) rfl rfl rfl ?_
    refine l1 (neqF_r rfl rfl rfl) rfl rfl rfl ?_
    refine l1 (mvB_r rfl) rfl rfl rfl ?_
    refine lwG rfl ?_
    refine l1 (ldW_r agg_Entry rfl (H.ent (i := 0) rfl) rfl) rfl rfl rfl ?_
    refine lwG rfl ?_
    refine cal cb_wire_Check (wcheck_ok x4 _) rfl rfl ?_
    rintro _ w9 ⟨rfl, hb⟩; replace H := H.later hb; clear hb
    refine lwG rfl ?_
    refine l1 (neqF_r rfl rfl hg) rfl rfl rfl ?_
    refine l1 (pkFB_r rfl rfl) rfl rfl rfl ?_
    refine lw_nil ?_
    refine cw_false rfl ?_
    refine cw_skip ?_
    refine cw_region ?_ -- region 9 low.go:44
    refine l1 (mvS_r rfl) rfl rfl rfl ?_
    refine l1 (mvS_r rfl) rfl rfl rfl ?_
    refine apO (Y := byteL) ap_Lbyte (K := [(b6, _)]) (L := L1) (M := []) H ho (news := encB x4) rfl rfl rfl (Rd.src (H.fact (i := 0) rfl)) (by omega) rfl ?_
    intro A3 c3 w10 L3 h3a _ ho3 H
    refine l1 (asS_r rfl) rfl rfl rfl ?_
    refine lw_nil ?_
    refine cw_region ?_ -- region 10 low.go:39
    refine l1 (add_r rfl rfl (by omega) (by omega)) rfl rfl rfl ?_
    refine l1 (mvI_r rfl) rfl rfl rfl ?_
    refine lw_nil ?_
    refine ⟨(k + 1, A3, c3), ⟨by omega, by rw [flat_take_succ e4.at_]; exact h3a, L3, by rw [flat_take_succ e4.at_]; exact ho3, H.forget (by simp) (by simp)⟩, sl2 (by rw [flat_take_succ e4.at_]; rfl) rfl, by repeat (first | exact Agr.refl _ _ | exact agr_ovr | refine agr_upd rfl ?_ | refine agr_updL _ rfl ?_), by show es.length - (k + 1) < es.length - k; omega⟩
  · -- slot 16 False
    have hke : k = es.length := by omega
    subst hke
    rw [List.take_length] at hc1 ho
    rw [List.take_length]
    refine lw_nil ?_
    refine cw_seq ?_
    refine cw_false rfl ?_
    refine cw_exit ?_ -- 0
    refine cw_seq ?_
    refine cw_region ?_ -- region 11 low.go:46
    refine l1 (mvS_r rfl) rfl rfl rfl ?_
    refine cal cb_wire_Decode (decode_ok (flat es) _ _ _ ((ho.rd H).mono (Nat.zero_le _) (Nat.le_refl _)) hc1 (by omega)) rfl rfl ?_
    rintro _ w12 ⟨fs, nfs, Afs, cfs, rfl, hdfs, hr11, hcfs, hb11⟩; replace H := H.learnRd hb11 hr11; clear hr11 hb11
    refine l1 (mvU_r rfl) rfl rfl rfl ?_
    refine l1 (exS_r rfl rfl) rfl rfl rfl ?_
    have e1 := (dec_fun hdfs (dec_flat es hgood)).1.symm
    have e2 := (dec_fun hdfs (dec_flat es hgood)).2
    subst e1; subst e2
    refine l1 (exI_r rfl rfl) rfl rfl rfl ?_
    refine l1 (asS_r rfl) rfl rfl rfl ?_
    refine l1 (asI_r rfl) rfl rfl rfl ?_
    refine lw_nil ?_
    refine cw_seq ?_
    refine cw_region ?_ -- region 12 low.go:47
    refine l1 (mvI_r rfl) rfl rfl rfl ?_
    refine l1 (mvS_r rfl) rfl rfl rfl ?_
    refine l1 (lenS_r len_Lbyte rfl) rfl rfl rfl ?_
    refine l1 (eqlT_r rfl rfl rfl) rfl rfl rfl ?_
    refine l1 (mvB_r rfl) rfl rfl rfl ?_
    refine lwG rfl ?_
    refine l1 (mvS_r rfl) rfl rfl rfl ?_
    refine lwG rfl ?_
    refine l1 (mvS_r rfl) rfl rfl rfl ?_
    refine lwG rfl ?_
    refine cal cb_slices_Equal_LEntry_Entry (eqEnt_ok es es _ _ _ _ _ (H.rd0 1 rfl) (H.rd0 0 rfl) (by omega)) rfl rfl ?_
    rintro _ w13 ⟨rfl, hb⟩; replace H := H.later hb; clear hb
    refine l1 (pkTB_r rfl rfl) rfl rfl rfl ?_
    refine l1 (asB_r rfl) rfl rfl rfl ?_
    refine lw_nil ?_
    refine cw_ret ?_
    exact fin1 (v := .bool (decide (es = es))) rfl rfl ⟨by simp, H.below⟩
end Go.Proofs.Ytemnchkebhclpaa
end

section
namespace Go.Proofs.Ytemnchkebhclpaa
open Go Go.Eng Go.RowKit
set_option maxHeartbeats 4000000 in
set_option maxRecDepth 10000 in
theorem clone_byte_ok (es : List UInt8) (A : Option Addr) (c : Nat) (w : World) (hr : Rd byteL 0 w.heap.size A es w) (hb : es.length * 1 ≤ 140737488355328) :
    Ret Try.prog i_slices_Clone_Lbyte_byte [.slice A es.length c] w fun v w2 => ∃ A' c' L', v = .slice A' es.length c' ∧ es.length ≤ c' ∧ c' ≤ maxLen ∧ Own byteL (.slice A' es.length c') T_byte es L' ∧ Hp w w2 L' [] := by
  refine ret_of fn_slices_Clone_Lbyte_byte rfl rfl ?_
  have H := Hp.startRd hr
  refine cw_seq ?_
  refine cw_region ?_ -- region 0 slices.go:355
  refine l1 (asS_r rfl) rfl rfl rfl ?_
  refine lw_nil ?_
  refine cw_seq ?_
  refine cw_seq ?_
  refine cw_region ?_ -- region 1 slices.go:357
  refine l1 (mvS_r rfl) rfl rfl rfl ?_
  refine lwB (slnil_r len_Lbyte rfl) rfl rfl rfl (fun h4 => ?_) (fun h4 => ?_)
  · -- slot 4 True
    refine lw_nil ?_
    refine cw_true rfl ?_
    refine cw_seq ?_
    refine cw_region ?_ -- region 2 slices.go:358
    refine l1 (asS_r rfl) rfl rfl rfl ?_
    refine lw_nil ?_
    refine cw_ret ?_
    have he : es = [] := by
      cases es with
      | nil => rfl
      | cons e es => obtain ⟨b, o, hA, _⟩ := hr (by simp); subst hA; cases h4
    subst he
    exact fin1 rfl rfl ⟨none, 0, [], rfl, by simp, by decide, Own.nil, H.forget (by simp) (by simp)⟩
  · -- slot 4 False
    refine lw_nil ?_
    refine cw_false rfl ?_
    refine cw_skip ?_
    refine cw_seq ?_
    refine cw_region ?_ -- region 3 slices.go:362
    refine bs0 H sl_Lbyte rfl ?_; intro w1 b5 H
    refine l1 (mvS_r rfl) rfl rfl rfl ?_
    refine apO (Y := byteL) ap_Lbyte (K := []) (L := [(b5, _)]) (M := []) H (OwnE.lit (by decide) (by rfl)) (es := []) (news := es) rfl rfl rfl (Rd.src (H.fact (i := 0) rfl)) (by simpa using hb) rfl ?_
    intro A3 c3 w3 L3 h3a h3b ho3 H
    refine l1 (asS_r rfl) rfl rfl rfl ?_
    refine lw_nil ?_
    refine cw_ret ?_
    exact fin1 rfl rfl ⟨A3, c3, L3, rfl, h3a, h3b, ho3, H.forget (by simp) (by simp)⟩
set_option maxHeartbeats 4000000 in
set_option maxRecDepth 10000 in
theorem clone_Entry_ok (es : List Ent) (A : Option Addr) (c : Nat) (w : World) (hr : Rd entL 0 w.heap.size A es w) (hb : es.length * 64 ≤ 140737488355328) :
    Ret Try.prog i_slices_Clone_LEntry_Entry [.slice A es.length c] w fun v w2 => ∃ A' c' L', v = .slice A' es.length c' ∧ es.length ≤ c' ∧ c' ≤ maxLen ∧ Own entL (.slice A' es.length c') T_Entry es L' ∧ Hp w w2 L' [] := by
  refine ret_of fn_slices_Clone_LEntry_Entry rfl rfl ?_
  have H := Hp.startRd hr
  refine cw_seq ?_
  refine cw_region ?_ -- region 0 slices.go:355
  refine l1 (asS_r rfl) rfl rfl rfl ?_
  refine lw_nil ?_
  refine cw_seq ?_
  refine cw_seq ?_
  refine cw_region ?_ -- region 1 slices.go:357
  refine l1 (mvS_r rfl) rfl rfl rfl ?_
  refine lwB (slnil_r len_LEntry rfl) rfl rfl rfl (fun h4 => ?_) (fun h4 => ?_)
  · -- slot 4 True
    refine lw_nil ?_
    refine cw_true rfl ?_
    refine cw_seq ?_
    refine cw_region ?_ -- region 2 slices.go:358
    refine l1 (asS_r rfl) rfl rfl rfl ?_
    refine lw_nil ?_
    refine cw_ret ?_
    have he : es = [] := by
      cases es with
      | nil => rfl
      | cons e es => obtain ⟨b, o, hA, _⟩ := hr (by simp); subst hA; cases h4
    subst he
    exact fin1 rfl rfl ⟨none, 0, [], rfl, by simp, by decide, Own.nil, H.forget (by simp) (by simp)⟩
  · -- slot 4 False
    refine lw_nil ?_
    refine cw_false rfl ?_
    refine cw_skip ?_
    refine cw_seq ?_
    refine cw_region ?_ -- region 3 slices.go:362
    refine bs0 H sl_LEntry rfl ?_; intro w1 b5 H
    refine l1 (mvS_r rfl) rfl rfl rfl ?_
    refine apO (Y := entL) ap_LEntry (K := []) (L := [(b5, _)]) (M := []) H (OwnE.lit (by decide) (by rfl)) (es := []) (news := es) rfl rfl rfl (Rd.src (H.fact (i := 0) rfl)) (by simpa using hb) rfl ?_
    intro A3 c3 w3 L3 h3a h3b ho3 H
    refine l1 (asS_r rfl) rfl rfl rfl ?_
    refine lw_nil ?_
    refine cw_ret ?_
    exact fin1 rfl rfl ⟨A3, c3, L3, rfl, h3a, h3b, ho3, H.forget (by simp) (by simp)⟩
set_option maxHeartbeats 4000000 in
set_option maxRecDepth 10000 in
theorem clone_int_ok (es : List Int) (A : Option Addr) (c : Nat) (w : World) (hr : Rd intL 0 w.heap.size A es w) (hb : es.length * 8 ≤ 140737488355328) :
    Ret Try.prog i_slices_Clone_Lint_int [.slice A es.length c] w fun v w2 => ∃ A' c' L', v = .slice A' es.length c' ∧ es.length ≤ c' ∧ c' ≤ maxLen ∧ Own intL (.slice A' es.length c') T_int es L' ∧ Hp w w2 L' [] := by
  refine ret_of fn_slices_Clone_Lint_int rfl rfl ?_
  have H := Hp.startRd hr
  refine cw_seq ?_
  refine cw_region ?_ -- region 0 slices.go:355
  refine l1 (asS_r rfl) rfl rfl rfl ?_
  refine lw_nil ?_
  refine cw_seq ?_
  refine cw_seq ?_
  refine cw_region ?_ -- region 1 slices.go:357
  refine l1 (mvS_r rfl) rfl rfl rfl ?_
  refine lwB (slnil_r len_Lint rfl) rfl rfl rfl (fun h4 => ?_) (fun h4 => ?_)
  · -- slot 4 True
    refine lw_nil ?_
    refine cw_true rfl ?_
    refine cw_seq ?_
    refine cw_region ?_ -- region 2 slices.go:358
    refine l1 (asS_r rfl) rfl rfl rfl ?_
    refine lw_nil ?_
    refine cw_ret ?_
    have he : es = [] := by
      cases es with
      | nil => rfl
      | cons e es => obtain ⟨b, o, hA, _⟩ := hr (by simp); subst hA; cases h4
    subst he
    exact fin1 rfl rfl ⟨none, 0, [], rfl, by simp, by decide, Own.nil, H.forget (by simp) (by simp)⟩
  · -- slot 4 False
    refine lw_nil ?_
    refine cw_false rfl ?_
    refine cw_skip ?_
    refine cw_seq ?_
    refine cw_region ?_ -- region 3 slices.go:362
    refine bs0 H sl_Lint rfl ?_; intro w1 b5 H
    refine l1 (mvS_r rfl) rfl rfl rfl ?_
    refine apO (Y := intL) ap_Lint (K := []) (L := [(b5, _)]) (M := []) H (OwnE.lit (by decide) (by rfl)) (es := []) (news := es) rfl rfl rfl (Rd.src (H.fact (i := 0) rfl)) (by simpa using hb) rfl ?_
    intro A3 c3 w3 L3 h3a h3b ho3 H
    refine l1 (asS_r rfl) rfl rfl rfl ?_
    refine lw_nil ?_
    refine cw_ret ?_
    exact fin1 rfl rfl ⟨A3, c3, L3, rfl, h3a, h3b, ho3, H.forget (by simp) (by simp)⟩
end Go.Proofs.Ytemnchkebhclpaa
end

section
namespace Go.Proofs.Ytemnchkebhclpaa
open Go Go.Eng Go.RowKit
theorem spoilt_law {e : Ent} (hg : Good e) {k : Nat} {x d : UInt8} (hx : (encB e)[k]? = some x) {fs : List Ent} {n : Nat} (hd : Dec ((encB e).set k (x + d)) fs n) : ((d.toNat : Int) = 0) ↔ fs = [e] := by
  obtain ⟨hk, hxe⟩ := getE hx
  constructor
  · intro h
    have hd0 : d = 0 := by
      apply UInt8.toNat_inj.1
      simp; omega
    subst hd0
    have e1 : (encB e).set k (x + 0) = flat [e] := by
      rw [flat_one, UInt8.add_zero, ← hxe, List.set_getElem_self]
    rw [e1] at hd
    exact (dec_fun hd (dec_flat [e] (by simpa using hg))).1
  · intro h
    subst h
    obtain ⟨h1, h2, h3, -, -⟩ := dec_inv hd
    rw [flat_one] at h1 h2
    have h4 : (encB e).set k (x + d) = encB e := by
      rw [List.take_of_length_le (by rw [List.length_set]; omega)] at h1
      exact h1
    have h5 : ((encB e).set k (x + d))[k]? = some (x + d) := by rw [List.getElem?_set_self hk]
    rw [h4, hx] at h5
    injection h5 with h5
    have h6 := congrArg UInt8.toNat h5
    rw [UInt8.toNat_add] at h6
    have := UInt8.toNat_lt x
    have := UInt8.toNat_lt d
    omega
set_option maxHeartbeats 4000000 in
set_option maxRecDepth 10000 in
theorem entrySpoilt_ok (r : Raw) (at_ : Int) (by_ : UInt8) (w : World) (hok : r.ok) (hat : i64 at_) :
    Ret Try.prog i_tailracekeep_EntrySpoilt [.agg r.cs.toArray, .int .i64 at_, .int .u8 (by_.toNat : Nat)] w fun v w2 => v = .bool true ∧ Below w.heap.size w w2 := by
  refine ret_of fn_tailracekeep_EntrySpoilt rfl rfl ?_
  have H := Hp.start w
  have hg := entry_good r
  obtain ⟨ha1, ha2⟩ := hat
  have hel := encB_le hg
  have hpos : 0 < (encB r.entry).length := by rw [encB_len]; omega
  obtain ⟨k, hk⟩ : ∃ k, pk at_ (encB r.entry).length = k := ⟨_, rfl⟩
  have hkl : k < (encB r.entry).length := by rw [← hk]; exact pk_lt _ hpos
  obtain ⟨x, hx⟩ : ∃ x, (encB r.entry)[k]? = some x := ⟨_, List.getElem?_eq_getElem hkl⟩
  refine cw_seq ?_
  refine cw_region ?_ -- region 0 low.go:87
  refine bxA H rfl rfl ?_; intro w1 b3 H
  refine l1 (asB_r rfl) rfl rfl rfl ?_
  refine lw_nil ?_
  refine cw_seq ?_
  refine cw_region ?_ -- region 1 low.go:88
  refine l1 (ldW_r agg_Raw rfl (H.ent (i := 0) rfl) rfl) rfl rfl rfl ?_
  refine cal cb_tailracekeep_Entry (entry_ok r _ hok) rfl rfl ?_
  rintro _ w2 ⟨rfl, hb⟩; replace H := H.later hb; clear hb
  refine alo H z_Entry rfl ?_; intro w3 b7 H
  refine stW H 0 siz_Entry rfl rfl rfl rfl rfl rfl ?_; intro w4 H
  refine lw_nil ?_
  refine cw_seq ?_
  refine cw_region ?_ -- region 2 low.go:89
  refine l1 (ldW_r agg_Entry rfl (H.ent (i := 0) rfl) rfl) rfl rfl rfl ?_
  refine cal cb_wire_Encode (encode_ok r.entry _ hg) rfl rfl ?_
  rintro _ w6 ⟨A5, c5, rfl, hr5, hc5, hb5⟩; replace H := H.learnRd hb5 hr5; clear hr5 hb5
  refine l1 (mvU_r rfl) rfl rfl rfl ?_
  refine l1 (exS_r rfl rfl) rfl rfl rfl ?_
  refine l1 (exI_r rfl rfl) rfl rfl rfl ?_
  refine l1 (asS_r rfl) rfl rfl rfl ?_
  refine l1 (asI_r rfl) rfl rfl rfl ?_
  refine lw_nil ?_
  refine cw_seq ?_
  refine cw_seq ?_
  refine cw_region ?_ -- region 3 low.go:90
  refine l1 (mvI_r rfl) rfl rfl rfl ?_
  refine l1 (neqF_r rfl rfl rfl) rfl rfl rfl ?_
  refine l1 (mvB_r rfl) rfl rfl rfl ?_
  refine lwG rfl ?_
  refine l1 (mvS_r rfl) rfl rfl rfl ?_
  refine lwG rfl ?_
  refine l1 (lenS_r len_Lbyte rfl) rfl rfl rfl ?_
  refine lwG rfl ?_
  refine l1 (eqlF_r rfl rfl (by omega)) rfl rfl rfl ?_
  refine l1 (pkFB_r rfl rfl) rfl rfl rfl ?_
  refine lw_nil ?_
  refine cw_false rfl ?_
  refine cw_skip ?_
  refine cw_seq ?_
  refine cw_region ?_ -- region 5 low.go:93
  refine l1 (mvS_r rfl) rfl rfl rfl ?_
  refine cal cb_slices_Clone_Lbyte_byte (clone_byte_ok (encB r.entry) _ _ _ (H.rd0 0 rfl) (by omega)) rfl rfl ?_
  rintro _ w8 ⟨A7, c7, L7, rfl, hc7, hm7, ho7, hj7⟩; replace H := H.join hj7; clear hj7
  obtain ⟨g7, cur7, rfl, rfl, row7⟩ := ho7.row hpos; clear ho7
  refine l1 (asS_r rfl) rfl rfl rfl ?_
  refine lw_nil ?_
  refine cw_seq ?_
  refine cw_region ?_ -- region 6 low.go:94
  refine l1 (mvS_r rfl) rfl rfl rfl ?_
  refine l1 (mvI_r rfl) rfl rfl rfl ?_
  refine l1 (mvS_r rfl) rfl rfl rfl ?_
  refine l1 (lenS_r len_Lbyte rfl) rfl rfl rfl ?_
  refine cal cb_tailracekeep_picked (picked_ok at_ (encB r.entry).length _ (by omega) (by omega) hpos (by omega)) rfl rfl ?_
  rintro _ w9 ⟨rfl, hb⟩; replace H := H.later hb; clear hb; rw [hk]
  refine l1 (ixR_r sl_Lbyte rfl rfl (by omega)) rfl rfl rfl ?_
  refine l1 (ldR_r one_byte row7 hx 0 rfl (H.ent (i := 0) rfl) rfl) rfl rfl rfl ?_
  refine l1 (mvI_r rfl) rfl rfl rfl ?_
  refine l1 (add8_r (a := x) (b := by_) rfl rfl) rfl rfl rfl ?_
  refine l1 (ixR_r sl_Lbyte rfl rfl (by omega)) rfl rfl rfl ?_
  refine stR H 0 (x + by_) siz_byte row7 hx 0 rfl rfl rfl rfl rfl rfl (by kernel_rfl) ?_; intro w11 cur10 row10 H
  refine lw_nil ?_
  refine cw_seq ?_
  refine cw_region ?_ -- region 7 low.go:95
  refine l1 (mvS_r rfl) rfl rfl rfl ?_
  have hD := decode_ok ((encB r.entry).set k (x + by_)) _ _ _ ((Own.rd (K := []) (Row.own row10) H).mono (Nat.zero_le _) (Nat.le_refl _)) row10.le (by rw [List.length_set]; omega)
  rw [List.length_set] at hD
  refine cal cb_wire_Decode (hD) rfl rfl ?_
  rintro _ w12 ⟨fs, nfs, Afs, cfs, rfl, hdfs, hrf, hcfs, hbf⟩; replace H := H.learnRd hbf hrf; clear hrf hbf
  refine l1 (mvU_r rfl) rfl rfl rfl ?_
  refine l1 (exS_r rfl rfl) rfl rfl rfl ?_
  refine l1 (exI_r rfl rfl) rfl rfl rfl ?_
  refine l1 (asS_r rfl) rfl rfl rfl ?_
  refine l1 (asI_r rfl) rfl rfl rfl ?_
  refine lw_nil ?_
  refine cw_seq ?_
  have hlaw := spoilt_law hg hx hdfs
  -- region 8 draws
  refine cw_draw mixed [0, 1, 2, 3, 4, 5, 6, 7, 8, 9, 10, 11, 12, 13] [] [] [0, 1, 2, 3, 4, 5, 6, 7, 10, 11, 12, 13] (sp []) (by kernel_rfl) (by kernel_rfl) (by kernel_rfl) (by kernel_rfl) (fun _ _ _ h => h) (sp_st _) ?_
  refine aw rfl rfl rfl rfl rfl (fun w' hw' => mvI_r rfl) ?_
  refine aw rfl rfl rfl rfl rfl (fun w' hw' => eql_r rfl rfl) ?_
  refine aw rfl rfl rfl rfl rfl (fun w' hw' => mvS_r rfl) ?_
  refine aw rfl rfl rfl rfl rfl (fun w' hw' => lenS_r len_LEntry rfl) ?_
  refine awD rfl rfl rfl rfl rfl (fun w' hw' => eql_r rfl rfl) (fun h48 => ?_) (fun h48 => ?_)
  · -- slot 48 True
    obtain ⟨f, rfl⟩ : ∃ f, fs = [f] := List.length_eq_one_iff.1 (by omega)
    refine aw rfl rfl rfl rfl rfl (fun w' hw' => mvB_r rfl) ?_
    refine aw rfl rfl rfl rfl rfl (fun w' hw' => mvS_r rfl) ?_
    refine awIxF (k := 0) H 0 rfl rfl rfl rfl rfl sl_LEntry rfl rfl (by omega) (by omega) ?_; intro b13 o13 x13 e13
    obtain rfl : f = x13 := by simpa using e13.at_
    refine aw rfl rfl rfl rfl rfl (fun w' hw' => ldA_r (xs := Ent.c f) agg_Entry rfl rfl (e13.later hw')) ?_
    refine aw rfl rfl rfl rfl rfl (fun w' hw' => ldW_r agg_Entry rfl ((H.later hw').ent (i := 1) rfl) rfl) ?_
    refine aw rfl rfl rfl rfl rfl (fun _ _ => aeql_r (r := decide (f = r.entry)) ent_struct ent_stood ent_guard rfl rfl (ent_cmp f r.entry) (ent_inj f r.entry)) ?_
    refine aw rfl rfl rfl rfl rfl (fun w' hw' => pkTB_r rfl rfl) ?_
    refine aw rfl rfl rfl rfl rfl (fun w' hw' => beql_r und_bool rfl rfl) ?_
    refine aw rfl rfl rfl rfl rfl (fun w' hw' => asB_r rfl) ?_
    refine aw_nil ?_
    intro w14 hw' hF
    replace H := H.later hw'; clear hw' hF
    refine lw_nil ?_
    refine cw_ret ?_
    have hv : (decide ((by_.toNat : Int) = 0) == decide (f = r.entry)) = true := by
      rw [beq_iff_eq, decide_eq_decide, hlaw]; simp
    exact fin1 (v := .bool (decide ((by_.toNat : Int) = 0) == decide (f = r.entry))) rfl rfl ⟨by rw [hv], H.below⟩
  · -- slot 48 False
    refine aw rfl rfl rfl rfl rfl (fun w' hw' => mvB_r rfl) ?_
    refine awN rfl rfl rfl rfl ?_
    refine awN rfl rfl rfl rfl ?_
    refine awN rfl rfl rfl rfl ?_
    refine awN rfl rfl rfl rfl ?_
    refine awN rfl rfl rfl rfl ?_
    refine aw rfl rfl rfl rfl rfl (fun w' hw' => pkFB_r rfl rfl) ?_
    refine aw rfl rfl rfl rfl rfl (fun w' hw' => beql_r und_bool rfl rfl) ?_
    refine aw rfl rfl rfl rfl rfl (fun w' hw' => asB_r rfl) ?_
    refine aw_nil ?_
    intro w15 hw' hF
    replace H := H.later hw'; clear hw' hF
    refine lw_nil ?_
    refine cw_ret ?_
    have hv : (decide ((by_.toNat : Int) = 0) == false) = true := by
      rw [beq_iff_eq, decide_eq_false_iff_not, hlaw]; rintro rfl; exact h48 rfl
    exact fin1 (v := .bool (decide ((by_.toNat : Int) = 0) == false)) rfl rfl ⟨by rw [hv], H.below⟩
end Go.Proofs.Ytemnchkebhclpaa
end
