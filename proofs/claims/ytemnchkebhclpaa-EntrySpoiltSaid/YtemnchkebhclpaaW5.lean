/- W5: a part of the proofs over this seat: what stands in its theorems holds for every input that they name. -/
import Derived.Test.YtemnchkebhclpaaW4
namespace Go.Proofs.Ytemnchkebhclpaa
open Go Go.Eng Go.RowKit

/-- the number that is next, from its i-th byte on -/
def rn : Nat → Nat → List UInt8 → Nat × List UInt8 × Bool
  | _, _, [] => (0, [], true)
  | i, n, c :: l => if i = 5 then (0, c :: l, true) else if c.toNat < 128 then (n + c.toNat % 128 * 2 ^ (7 * i), l, decide (c.toNat = 0) && decide (0 < i)) else rn (i + 1) (n + c.toNat % 128 * 2 ^ (7 * i)) l
def rnB (l : List UInt8) (bad : Bool) : Nat × List UInt8 × Bool := if bad then (0, l, true) else rn 0 0 l

theorem or_shl {n x i : Nat} (hn : n < 2 ^ (7 * i)) : n ||| x * 2 ^ (7 * i) = n + x * 2 ^ (7 * i) := by
  have := Nat.two_pow_add_eq_or_of_lt hn x
  rw [Nat.or_comm, Nat.mul_comm, ← this, Nat.add_comm]

set_option maxRecDepth 4000 in
theorem rnumber_ok {w0 w : World} {F : List Fact} {M : List (Nat × Obj)} {b : Nat} {l : List UInt8} {A : Option Addr} {c : Nat} {bad : Bool} (H : Hp w0 w ((b, .cells #[.slice A l.length c, .bool bad] T_reader) :: M) F) (hr : Rd byteL 0 w0.heap.size A l w0) (hc : l.length ≤ c) :
    Ret Try.prog i_wire_reader_number [.pointer (some ⟨b, 0, none⟩)] w fun v w2 => v = .int .i64 ((rnB l bad).1 : Nat) ∧ ∃ A' c', Hp w0 w2 ((b, .cells #[.slice A' (rnB l bad).2.1.length c', .bool (rnB l bad).2.2] T_reader) :: M) F ∧ Rd byteL 0 w0.heap.size A' (rnB l bad).2.1 w0 ∧ (rnB l bad).2.1.length ≤ c' := by
  refine ret_of fn_wire_reader_number rfl rfl ?_
  refine cw_seq ?_
  refine cw_region ?_ -- region 0
  refine asI rfl rfl ?_  -- 2 wire.go:68
  refine lw_nil ?_
  refine cw_seq ?_
  refine cw_region ?_ -- region 1
  refine asI rfl rfl ?_  -- 3 wire.go:69
  refine lw_nil ?_
  refine cw_seq ?_
  refine cw_region ?_ -- region 2
  refine asI rfl rfl ?_  -- 4 wire.go:70
  refine lw_nil ?_
  refine cw_block ?_ -- block 0
  refine cw_loop (τ := Nat × Nat × List UInt8 × Bool) [2, 3, 4, 5, 6, 7, 8, 9, 10, 11, 12, 13, 14, 15, 16, 17, 18, 19, 20, 21, 22, 23, 24, 25, 26, 27, 28, 29, 30, 31, 32, 33, 34, 35, 36, 37, 38, 39, 40, 41, 42, 43, 44, 45, 46, 47, 48, 49, 50, 51, 52, 53, 54, 55, 56, 57, 58, 59, 60]
    (fun (i, n, _, _) => [(3, .int .i64 (n : Nat)), (4, .int .i64 (i : Nat))])
    (fun (i, n, l1, bad1) w' => i ≤ 5 ∧ n < 2 ^ (7 * i) ∧ (if bad1 then (0, l1, true) else rn i n l1) = rnB l bad ∧ ∃ A c, Hp w0 w' ((b, .cells #[.slice A l1.length c, .bool bad1] T_reader) :: M) F ∧ Rd byteL 0 w0.heap.size A l1 w0 ∧ l1.length ≤ c) (fun (_, _, l1, _) => l1.length) (0, 0, l, bad) ⟨by omega, by decide, rfl, A, c, H, hr, hc⟩ (sl2 rfl rfl) ?_ -- LOOP
  rintro ⟨i, n, l1, bad1⟩ ρ1 w1 ⟨hi5, hn, hrn, A1, c1, H, hr, hc⟩
  show CW _ _ _ _ (updL (ovr _ _ ρ1) [(3, .int .i64 (n : Nat)), (4, .int .i64 (i : Nat))]) w1
  refine cw_seq ?_
  refine cw_block ?_ -- block 1
  refine cw_seq ?_
  refine cw_seq ?_
  refine cw_region ?_ -- region 4
  refine mvP rfl rfl ?_  -- 8 wire.go:71
  refine nck rfl rfl ?_  -- 9 wire.go:71
  refine fad fd_reader_1 rfl rfl ?_  -- 10 wire.go:71
  refine ldE H 0 one_bool rfl rfl rfl rfl ?_  -- 11 wire.go:71
  refine mvB rfl rfl ?_  -- 12 wire.go:71
  by_cases hstop : bad1 = true ∨ l1 = [] ∨ i = 5
  · have hres : rnB l bad = (0, l1, true) := by
      rw [← hrn]
      rcases hstop with h | h | h
      · rw [if_pos h]
      · subst h; split <;> rfl
      · subst h; split
        · rfl
        · cases l1 <;> simp [rn]
    cases bad1
    · refine lwG rfl ?_
      refine mvP rfl rfl ?_  -- 13 wire.go:71
      refine lwG rfl ?_
      refine nck rfl rfl ?_  -- 14 wire.go:71
      refine lwG rfl ?_
      refine fad fd_reader_0 rfl rfl ?_  -- 15 wire.go:71
      refine lwG rfl ?_
      refine ldE H 0 one_Lbyte rfl rfl rfl rfl ?_  -- 16 wire.go:71
      refine lwG rfl ?_
      refine lenS len_Lbyte rfl rfl ?_  -- 17 wire.go:71
      refine lwG rfl ?_
      by_cases hl : l1 = []
      · refine eqlT rfl rfl (by rw [hl]; rfl) rfl ?_
        refine pkFB rfl rfl rfl ?_ -- or pkFB  -- 19 wire.go:71
        refine mvB rfl rfl ?_  -- 20 wire.go:71
        iterate 2 refine lwN rfl rfl rfl ?_
        refine pkTB rfl rfl rfl ?_ -- or pkFB  -- 23 wire.go:71
        refine lw_nil ?_
        refine cw_true rfl ?_
        refine cw_seq ?_
        refine cw_region ?_ -- region 5
        refine mvP rfl rfl ?_  -- 24 wire.go:72
        refine nck rfl rfl ?_  -- 25 wire.go:72
        refine fad fd_reader_1 rfl rfl ?_  -- 26 wire.go:72
        refine stB H 0 siz_bool rfl rfl rfl (by simp) ?_; intro w2 H2
        refine lw_nil ?_
        refine cw_seq ?_
        refine cw_region ?_ -- region 6
        refine asI rfl rfl ?_  -- 2 wire.go:73
        refine lw_nil ?_
        refine cw_ret ?_
        rw [hres]
        exact fin1 (v := .int .i64 0) rfl rfl ⟨rfl, A1, c1, H2, hr, hc⟩
      · have hi : i = 5 := by
          rcases hstop with h | h | h
          · cases h
          · exact absurd h hl
          · exact h
        have hl0 : l1.length ≠ 0 := fun h => hl (List.eq_nil_of_length_eq_zero h)
        refine eqlF rfl rfl (by omega) rfl ?_
        refine pkFB rfl rfl rfl ?_ -- or pkFB  -- 19 wire.go:71
        refine mvB rfl rfl ?_  -- 20 wire.go:71
        refine lwG rfl ?_
        refine mvI rfl rfl ?_  -- 21 wire.go:71
        refine lwG rfl ?_
        refine eqlT rfl rfl (by omega) rfl ?_
        refine pkFB rfl rfl rfl ?_ -- or pkFB  -- 23 wire.go:71
        refine lw_nil ?_
        refine cw_true rfl ?_
        refine cw_seq ?_
        refine cw_region ?_ -- region 5
        refine mvP rfl rfl ?_  -- 24 wire.go:72
        refine nck rfl rfl ?_  -- 25 wire.go:72
        refine fad fd_reader_1 rfl rfl ?_  -- 26 wire.go:72
        refine stB H 0 siz_bool rfl rfl rfl (by simp) ?_; intro w2 H2
        refine lw_nil ?_
        refine cw_seq ?_
        refine cw_region ?_ -- region 6
        refine asI rfl rfl ?_  -- 2 wire.go:73
        refine lw_nil ?_
        refine cw_ret ?_
        rw [hres]
        exact fin1 (v := .int .i64 0) rfl rfl ⟨rfl, A1, c1, H2, hr, hc⟩
    · iterate 6 refine lwN rfl rfl rfl ?_
      refine pkTB rfl rfl rfl ?_ -- or pkFB  -- 19 wire.go:71
      refine mvB rfl rfl ?_  -- 20 wire.go:71
      iterate 2 refine lwN rfl rfl rfl ?_
      refine pkTB rfl rfl rfl ?_ -- or pkFB  -- 23 wire.go:71
      refine lw_nil ?_
      refine cw_true rfl ?_
      refine cw_seq ?_
      refine cw_region ?_ -- region 5
      refine mvP rfl rfl ?_  -- 24 wire.go:72
      refine nck rfl rfl ?_  -- 25 wire.go:72
      refine fad fd_reader_1 rfl rfl ?_  -- 26 wire.go:72
      refine stB H 0 siz_bool rfl rfl rfl (by simp) ?_; intro w2 H2
      refine lw_nil ?_
      refine cw_seq ?_
      refine cw_region ?_ -- region 6
      refine asI rfl rfl ?_  -- 2 wire.go:73
      refine lw_nil ?_
      refine cw_ret ?_
      rw [hres]
      exact fin1 (v := .int .i64 0) rfl rfl ⟨rfl, A1, c1, H2, hr, hc⟩
  · have hb1 : bad1 = false := by
      cases bad1
      · rfl
      · exact absurd (.inl rfl) hstop
    subst hb1
    have hi : i < 5 := by
      have : i ≠ 5 := fun h => hstop (.inr (.inr h))
      omega
    obtain ⟨x, l2, rfl⟩ : ∃ x l2, l1 = x :: l2 := by
      cases l1 with
      | nil => exact absurd (.inr (.inl rfl)) hstop
      | cons x l2 => exact ⟨x, l2, rfl⟩
    have hx : x.toNat < 256 := UInt8.toNat_lt _
    obtain ⟨bb, o, rfl, -, hbl, hcl⟩ := hr.at_ (k := 0) (by simp)
    rw [if_neg (by decide), rn, if_neg (by omega)] at hrn
    have h7 : 2 ^ (7 * i) ≤ 2 ^ 28 := Nat.pow_le_pow_right (by decide) (by omega)
    have hmod : x.toNat % 128 < 128 := Nat.mod_lt _ (by decide)
    have hmul : x.toNat % 128 * 2 ^ (7 * i) ≤ 128 * 2 ^ 28 := Nat.mul_le_mul (by omega) h7
    have h71 : 2 ^ (7 * (i + 1)) = 128 * 2 ^ (7 * i) := by rw [Nat.mul_add, Nat.pow_add]; omega
    have hmul2 : x.toNat % 128 * 2 ^ (7 * i) ≤ 127 * 2 ^ (7 * i) := Nat.mul_le_mul_right _ (by omega)
    refine lwG rfl ?_
    refine mvP rfl rfl ?_  -- 13 wire.go:71
    refine lwG rfl ?_
    refine nck rfl rfl ?_  -- 14 wire.go:71
    refine lwG rfl ?_
    refine fad fd_reader_0 rfl rfl ?_  -- 15 wire.go:71
    refine lwG rfl ?_
    refine ldE H 0 one_Lbyte rfl rfl rfl rfl ?_  -- 16 wire.go:71
    refine lwG rfl ?_
    refine lenS len_Lbyte rfl rfl ?_  -- 17 wire.go:71
    refine lwG rfl ?_
    refine eqlF rfl rfl (by simp; omega) rfl ?_
    refine pkFB rfl rfl rfl ?_ -- or pkFB  -- 19 wire.go:71
    refine mvB rfl rfl ?_  -- 20 wire.go:71
    refine lwG rfl ?_
    refine mvI rfl rfl ?_  -- 21 wire.go:71
    refine lwG rfl ?_
    refine eqlF rfl rfl (by omega) rfl ?_
    refine pkFB rfl rfl rfl ?_ -- or pkFB  -- 23 wire.go:71
    refine lw_nil ?_
    refine cw_false rfl ?_
    refine cw_skip ?_
    refine cw_seq ?_
    refine cw_region ?_ -- region 7
    refine mvP rfl rfl ?_  -- 27 wire.go:75
    refine nck rfl rfl ?_  -- 28 wire.go:75
    refine fad fd_reader_0 rfl rfl ?_  -- 29 wire.go:75
    refine ldE H 0 one_Lbyte rfl rfl rfl rfl ?_  -- 30 wire.go:75
    refine ixa sl_Lbyte rfl rfl (by omega) (by simp) rfl ?_  -- 31 wire.go:75
    refine ld one_byte rfl ((H.below.cell (p := ⟨bb, _, none⟩) hbl).trans (hcl 0 _ rfl)) rfl ?_  -- 32 wire.go:75
    refine cvI int_byte int_int rfl (wrapN (n := x.toNat) (by omega)) rfl ?_  -- 33 wire.go:75
    refine asI rfl rfl ?_  -- 5 wire.go:75
    refine lw_nil ?_
    refine cw_seq ?_
    refine cw_region ?_ -- region 8
    refine mvP rfl rfl ?_  -- 34 wire.go:76
    refine mvP rfl rfl ?_  -- 35 wire.go:76
    refine nck rfl rfl ?_  -- 36 wire.go:76
    refine fad fd_reader_0 rfl rfl ?_  -- 37 wire.go:76
    refine ldE H 0 one_Lbyte rfl rfl rfl rfl ?_  -- 38 wire.go:76
    refine sliLo sl_Lbyte rfl rfl (by omega) (by simp; omega) hc rfl ?_; intro A39 hA39  -- 39 wire.go:76
    refine nck rfl rfl ?_  -- 40 wire.go:76
    refine fad fd_reader_0 rfl rfl ?_  -- 41 wire.go:76
    refine stS H 0 siz_Lbyte rfl rfl rfl (by simp) ?_; intro w2 H2
    have hr2 : Rd byteL 0 w0.heap.size A39 l2 w0 := hr.from_ (k := 1) hA39 (fun h => h)
    have H : Hp w0 w2 ((b, .cells #[.slice A39 l2.length (c1 - 1), .bool false] T_reader) :: M) F := H2
    have hc2 : l2.length ≤ c1 - 1 := by simp only [List.length_cons] at hc; omega
    refine lw_nil ?_
    refine cw_seq ?_
    refine cw_region ?_ -- region 9
    refine mvI rfl rfl ?_  -- 42 wire.go:77
    refine mvI rfl rfl ?_  -- 43 wire.go:77
    refine l1 (and_r (a := x.toNat) (b := 127) rfl rfl (by omega) (by omega)) rfl rfl rfl ?_
    rw [and127]
    refine mvI rfl rfl ?_  -- 45 wire.go:77
    refine mul rfl rfl (by omega) (by omega) rfl ?_  -- 46 wire.go:77
    refine l1 (shl_r (a := x.toNat % 128) (b := 7 * i) (k := .i64) rfl (by simp; rfl) (by omega) (by omega)) rfl rfl rfl ?_
    refine l1 (or_r (a := n) (b := x.toNat % 128 * 2 ^ (7 * i)) rfl rfl (by omega) (by omega)) rfl rfl rfl ?_
    rw [or_shl hn]
    refine asI rfl rfl ?_  -- 3 wire.go:77
    refine lw_nil ?_
    refine cw_seq ?_
    refine cw_region ?_ -- region 10
    refine mvI rfl rfl ?_  -- 49 wire.go:78
    refine lssS rfl rfl rfl (fun h50 => ?_) (fun h50 => ?_)  -- 50 wire.go:78
    all_goals refine lw_nil ?_
    -- IF slot 50
    · rw [if_pos (by omega)] at hrn
      refine cw_true rfl ?_
      refine cw_seq ?_
      refine cw_region ?_ -- region 11
      refine mvP rfl rfl ?_  -- 51 wire.go:79
      refine mvI rfl rfl ?_  -- 52 wire.go:79
      by_cases hx0 : x.toNat = 0
      · refine eqlT rfl rfl (by omega) rfl ?_
        refine mvB rfl rfl ?_  -- 54 wire.go:79
        refine lwG rfl ?_
        refine mvI rfl rfl ?_  -- 55 wire.go:79
        refine lwG rfl ?_
        refine l1 (gtr_r (a := (i : Int)) (b := 0) rfl rfl) rfl rfl rfl ?_
        refine pkTB rfl rfl rfl ?_ -- or pkFB  -- 57 wire.go:79
        refine nck rfl rfl ?_  -- 58 wire.go:79
        refine fad fd_reader_1 rfl rfl ?_  -- 59 wire.go:79
        refine stB H 0 siz_bool rfl rfl rfl (by simp) ?_; intro w3 H3
        refine lw_nil ?_
        refine cw_seq ?_
        refine cw_region ?_ -- region 12
        refine mvI rfl rfl ?_  -- 60 wire.go:80
        refine asI rfl rfl ?_  -- 2 wire.go:80
        refine lw_nil ?_
        refine cw_ret ?_
        rw [← hrn]
        have e : (decide (x.toNat = 0) && decide (0 < i)) = decide ((0 : Int) < i) := by
          rw [decide_eq_true hx0, Bool.true_and]; exact decide_eq_decide.2 (by omega)
        rw [e]
        exact fin1 (v := .int .i64 (n + x.toNat % 128 * 2 ^ (7 * i) : Nat)) rfl rfl ⟨rfl, A39, c1 - 1, H3, hr2, hc2⟩
      · refine eqlF rfl rfl (by omega) rfl ?_
        refine mvB rfl rfl ?_  -- 54 wire.go:79
        iterate 2 refine lwN rfl rfl rfl ?_
        refine pkFB rfl rfl rfl ?_ -- or pkFB  -- 57 wire.go:79
        refine nck rfl rfl ?_  -- 58 wire.go:79
        refine fad fd_reader_1 rfl rfl ?_  -- 59 wire.go:79
        refine stB H 0 siz_bool rfl rfl rfl (by simp) ?_; intro w3 H3
        refine lw_nil ?_
        refine cw_seq ?_
        refine cw_region ?_ -- region 12
        refine mvI rfl rfl ?_  -- 60 wire.go:80
        refine asI rfl rfl ?_  -- 2 wire.go:80
        refine lw_nil ?_
        refine cw_ret ?_
        rw [← hrn]
        have e : (decide (x.toNat = 0) && decide (0 < i)) = false := by rw [decide_eq_false hx0]; rfl
        rw [e]
        exact fin1 (v := .int .i64 (n + x.toNat % 128 * 2 ^ (7 * i) : Nat)) rfl rfl ⟨rfl, A39, c1 - 1, H3, hr2, hc2⟩
    · rw [if_neg (by omega)] at hrn
      refine cw_false rfl ?_
      refine cw_skip ?_
      refine cw_region ?_ -- region 3
      refine mvI rfl rfl ?_  -- 6 wire.go:70
      refine add rfl rfl (by omega) (by omega) rfl ?_  -- 7 wire.go:70
      refine asI rfl rfl ?_  -- 4 wire.go:70
      refine lw_nil ?_
      refine ⟨(i + 1, n + x.toNat % 128 * 2 ^ (7 * i), l2, false), ⟨by omega, by rw [h71]; omega, by rw [← hrn]; rfl, A39, c1 - 1, H, hr2, hc2⟩, sl2 rfl rfl, by repeat (first | exact agr_ovr | refine agr_upd rfl ?_ | refine agr_updL _ rfl ?_), by show l2.length < l2.length + 1; omega⟩
end Go.Proofs.Ytemnchkebhclpaa
