/- W2: a part of the proofs over this seat: what stands in its theorems holds for every input that they name. -/
import Derived.Test.YtemnchkebhclpaaDat
namespace Go.Proofs.Ytemnchkebhclpaa
open Go Go.Eng Go.RowKit

/-- a number in as few bytes as may be -/
def num (n : Nat) : List UInt8 := if h : n ≤ 127 then [UInt8.ofNat n] else UInt8.ofNat (n % 128 + 128) :: num (n / 128)
termination_by n
decreasing_by omega
theorem num_small {n : Nat} (h : n ≤ 127) : num n = [UInt8.ofNat n] := by rw [num, dif_pos h]
theorem num_big {n : Nat} (h : 127 < n) : num n = UInt8.ofNat (n % 128 + 128) :: num (n / 128) := by rw [num, dif_neg (by omega)]
theorem and127 (n : Nat) : n &&& 127 = n % 128 := Nat.and_two_pow_sub_one_eq_mod n 7
theorem or128 (n : Nat) (h : n < 128) : n ||| 128 = n + 128 := by
  have := Nat.two_pow_add_eq_or_of_lt (i := 7) (b := n) (by simpa using h) 1
  rw [Nat.or_comm]; simp at this; omega
theorem u8n (n : Nat) (h : n < 256) : ((UInt8.ofNat n).toNat : Int) = n := by
  simp [Nat.mod_eq_of_lt h]
theorem num_len : ∀ (k n : Nat), n < 128 ^ k → (num n).length ≤ max k 1
  | 0, n, h => by
    have : n = 0 := by simpa using h
    subst this; rw [num_small (by omega)]; simp
  | k + 1, n, h => by
    by_cases hn : n ≤ 127
    · rw [num_small hn]; simp
    · have := num_len k (n / 128) (by rw [Nat.pow_succ] at h; exact Nat.div_lt_of_lt_mul (by omega))
      rw [num_big (by omega)]
      simp only [List.length_cons]
      have hk : k ≠ 0 := by
        rintro rfl
        simp at h; omega
      omega

set_option maxRecDepth 4000 in
theorem number_ok {w0 w : World} {F : List Fact} {K M L : List (Nat × Obj)} {es : List UInt8} {A : Option Addr} {c : Nat} (n : Nat) (H : Hp w0 w (K ++ L ++ M) F) (ho : Own byteL (.slice A es.length c) T_byte es L) (hn : n < 4611686018427387904) (hb : es.length + n < 140737488355328) :
    Ret Try.prog i_wire_number [.slice A es.length c, .int .i64 n] w fun v w2 => ∃ A' c' L', v = .slice A' (es ++ num n).length c' ∧ Own byteL (.slice A' (es ++ num n).length c') T_byte (es ++ num n) L' ∧ Hp w0 w2 (K ++ L' ++ M) F := by
  refine ret_of fn_wire_number rfl rfl ?_
  refine cw_seq ?_
  refine cw_region ?_ -- region 0
  refine asS rfl rfl ?_  -- 4 wire.go:26
  refine lw_nil ?_
  refine cw_seq ?_
  refine cw_block ?_ -- block 0
  refine cw_loop (τ := Option Addr × Nat × List UInt8 × Nat) [0, 1, 5, 6, 7, 8, 9, 10, 11, 12, 13, 15, 14] (fun (A, c, l, m) => [(0, .slice A l.length c), (1, .int .i64 m)])
    (fun (A, c, l, m) w' => m < 4611686018427387904 ∧ l.length + m < 140737488355328 ∧ l ++ num m = es ++ num n ∧ ∃ L', Own byteL (.slice A l.length c) T_byte l L' ∧ Hp w0 w' (K ++ L' ++ M) F) (fun (_, _, _, m) => m) (A, c, es, n) ⟨hn, hb, rfl, L, ho, H⟩ (sl2 rfl rfl) ?_ -- LOOP
  rintro ⟨A1, c1, l, m⟩ ρ1 w1 ⟨hm, hb1, hl, L1, ho1, H1⟩
  show CW _ _ _ _ (updL (ovr _ _ ρ1) [(0, .slice A1 l.length c1), (1, .int .i64 (m : Nat))]) w1
  refine cw_seq ?_
  refine cw_seq ?_
  refine cw_region ?_ -- region 1
  refine mvI rfl rfl ?_  -- 5 wire.go:27
  refine gtrS rfl rfl rfl (fun h6 => ?_) (fun h6 => ?_)  -- 6 wire.go:27
  all_goals refine lw_nil ?_
  · refine cw_true rfl ?_
    refine cw_skip ?_
    have hmod : m % 128 < 128 := Nat.mod_lt _ (by decide)
    refine cw_block ?_ -- block 1
    refine cw_seq ?_
    refine cw_region ?_ -- region 2
    refine mvS rfl rfl ?_  -- 7 wire.go:28
    refine mvI rfl rfl ?_  -- 8 wire.go:28
    refine l1 (and_r (b := 127) rfl rfl (by omega) (by omega)) rfl rfl rfl ?_
    rw [and127]
    refine l1 (or_r (b := 128) rfl rfl (by omega) (by omega)) rfl rfl rfl ?_
    rw [or128 _ hmod]
    refine cvI int_int int_byte rfl (wrap8 (by omega)) rfl ?_  -- 11 wire.go:28
    refine bsv (vs := [.int .u8 _]) H1 sl_Lbyte z_byte rfl rfl rfl rfl rfl rfl ?_; intro w2 b12 H2  -- 12 wire.go:28
    refine apO (Y := byteL) ap_Lbyte (K := (b12, _) :: K) (L := L1) (M := M) H2 ho1 (news := [UInt8.ofNat (m % 128 + 128)]) rfl rfl rfl ?_ ?_ rfl ?_
    · have := Src.row (m := 1) (sz := 1) (H2.ent (i := 0) rfl) rfl
      have e : byteL.all [UInt8.ofNat (m % 128 + 128)] = [.int .u8 ((m % 128 + 128 : Nat) : Int)] := by
        show [Value.int .u8 _] = _
        rw [u8n _ (by omega)]
      rw [e]
      exact this
    · simp only [List.length_singleton]; omega
    intro A3 c3 w3 L3 _ _ ho3 H3
    refine asS rfl rfl ?_  -- 0 wire.go:28
    refine lw_nil ?_
    refine cw_region ?_ -- region 3
    refine mvI rfl rfl ?_  -- 14 wire.go:29
    refine l1 (shr_r (b := 7) rfl rfl (by omega)) rfl rfl rfl ?_
    refine asI rfl rfl ?_  -- 1 wire.go:29
    refine lw_nil ?_
    refine ⟨(A3, c3, l ++ [UInt8.ofNat (m % 128 + 128)], m / 2 ^ 7), ⟨by omega, by simp; omega, ?_, L3, ho3, H3.forget (by simp) (fun _ h => h)⟩, sl2 rfl rfl, by repeat (first | exact agr_ovr | refine agr_upd rfl ?_ | refine agr_updL _ rfl ?_), by show m / 2 ^ 7 < m; omega⟩
    rw [← hl, num_big (n := m) (by omega)]; simp
  · refine cw_false rfl ?_
    refine cw_exit ?_ -- 0
    refine cw_seq ?_
    refine cw_region ?_ -- region 4
    refine mvS rfl rfl ?_  -- 16 wire.go:31
    refine mvI rfl rfl ?_  -- 17 wire.go:31
    refine cvI int_int int_byte rfl (wrap8 (by omega)) rfl ?_  -- 18 wire.go:31
    refine bsv (vs := [.int .u8 _]) H1 sl_Lbyte z_byte rfl rfl rfl rfl rfl rfl ?_; intro w2 b19 H2  -- 19 wire.go:31
    refine apO (Y := byteL) ap_Lbyte (K := (b19, _) :: K) (L := L1) (M := M) H2 ho1 (news := [UInt8.ofNat m]) rfl rfl rfl ?_ ?_ rfl ?_
    · have := Src.row (m := 1) (sz := 1) (H2.ent (i := 0) rfl) rfl
      have e : byteL.all [UInt8.ofNat m] = [.int .u8 (m : Int)] := by
        show [Value.int .u8 _] = _
        rw [u8n _ (by omega)]
      rw [e]
      exact this
    · simp only [List.length_singleton]; omega
    intro A3 c3 w3 L3 _ _ ho3 H3
    refine asS rfl rfl ?_  -- 4 wire.go:31
    refine lw_nil ?_
    refine cw_ret ?_
    rw [num_small (by omega)] at hl
    rw [hl] at ho3
    refine fin1 rfl (v := .slice A3 (es ++ num n).length c3) (by rw [← hl]; rfl) ⟨A3, c3, L3, rfl, ho3, H3.forget (by simp) (fun _ h => h)⟩
end Go.Proofs.Ytemnchkebhclpaa
