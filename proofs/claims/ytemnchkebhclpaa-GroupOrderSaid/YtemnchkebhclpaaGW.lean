/- GW: a part of the proofs over this seat: what stands in its theorems holds for every input that they name. -/
import Derived.Test.YtemnchkebhclpaaGT
import Derived.Test.YtemnchkebhclpaaGA
section
namespace Go.Proofs.Ytemnchkebhclpaa
open Go Go.Eng Go.RowKit

def sumGo : Nat → Nat → List UInt8 → Nat
  | _, n, [] => n
  | i, n, c :: l => sumGo (i + 1) ((n + (i + 1) * c.toNat) % 65521) l
def sumB (l : List UInt8) : Nat := sumGo 0 0 l
theorem sumGo_lt : ∀ (l : List UInt8) (i n : Nat), n < 65521 → sumGo i n l < 65521
  | [], _, _, h => h
  | _ :: l, i, _, _ => sumGo_lt l (i + 1) _ (Nat.mod_lt _ (by decide))
theorem sumB_lt (l : List UInt8) : sumB l < 65521 := sumGo_lt l 0 0 (by decide)

theorem sum_ok (l : List UInt8) (A : Option Addr) (c : Nat) (w : World) (hr : Rd byteL 0 w.heap.size A l w) (hb : l.length ≤ 1000000000000000) :
    Ret Try.prog i_wire_sum [.slice A l.length c] w fun v w2 => v = .int .i64 (sumB l : Nat) ∧ Below w.heap.size w w2 := by
  refine ret_of fn_wire_sum rfl rfl ?_
  have H := Hp.start w
  refine cw_seq ?_
  refine cw_region ?_ -- region 0
  refine asI rfl rfl ?_  -- 2 wire.go:35
  refine lw_nil ?_
  refine cw_seq ?_
  refine cw_region ?_ -- region 1
  refine asI rfl rfl ?_  -- 3 wire.go:36
  refine lw_nil ?_
  refine cw_seq ?_
  refine cw_seq ?_
  refine cw_region ?_ -- region 2
  refine mvS rfl rfl ?_  -- 6 wire.go:37
  refine lenS len_Lbyte rfl rfl ?_  -- 7 wire.go:37
  refine mvI rfl rfl ?_  -- 8 wire.go:37
  refine lw_nil ?_
  refine cw_block ?_ -- block 0
  refine cw_loop (τ := Nat × Nat) [3, 4, 5, 8, 9, 10, 11, 12, 13, 14, 15, 16, 17, 18, 19, 20, 21] (fun x => [(3, .int .i64 x.1), (8, .int .i64 x.2)]) (fun x w' => x.1 < 65521 ∧ x.2 ≤ l.length ∧ Hp w w' [] [] ∧ sumGo x.2 x.1 (l.drop x.2) = sumB l) (fun x => l.length - x.2) (0, 0) ⟨by decide, by simp, H, rfl⟩ (sl2 rfl rfl) ?_ -- LOOP
  rintro ⟨m, k⟩ ρ1 w1 ⟨hm, hk, H, hs⟩
  show CW _ _ _ _ (updL (ovr _ _ ρ1) [(3, .int .i64 (m : Nat)), (8, .int .i64 (k : Nat))]) w1
  refine cw_seq ?_
  refine cw_region ?_ -- region 3
  refine lssS rfl rfl rfl (fun h9 => ?_) (fun h9 => ?_)  -- 9 wire.go:37
  all_goals refine lw_nil ?_
  all_goals refine cw_seq ?_
  · refine cw_true rfl ?_
    refine cw_skip ?_
    have hkl : k < l.length := by omega
    obtain ⟨b, o, rfl, -, hbl, hcl⟩ := hr.at_ hkl
    have hd : l.drop k = l[k] :: l.drop (k + 1) := List.drop_eq_getElem_cons hkl
    have h256 : l[k].toNat < 256 := UInt8.toNat_lt _
    generalize hc : l[k] = x at *
    have hmul : (k + 1) * x.toNat ≤ (k + 1) * 256 := Nat.mul_le_mul_left _ (by omega)
    have hmul2 : ((k : Int) + 1) * (x.toNat : Int) = (((k + 1) * x.toNat : Nat) : Int) := by simp
    refine cw_seq ?_
    refine cw_block ?_ -- block 1
    refine cw_seq ?_
    refine cw_region ?_ -- region 4
    refine mvI rfl rfl ?_  -- 10 wire.go:37
    refine ixa sl_Lbyte rfl rfl (by omega) (by omega) rfl ?_  -- 11 wire.go:37
    refine ld one_byte rfl ((H.below.cell (p := ⟨b, _, none⟩) hbl).trans (hcl 0 _ rfl)) rfl ?_  -- 12 wire.go:37
    refine asI rfl rfl ?_  -- 4 wire.go:37
    refine asI rfl rfl ?_  -- 5 wire.go:37
    refine lw_nil ?_
    refine cw_region ?_ -- region 5
    refine mvI rfl rfl ?_  -- 13 wire.go:38
    refine mvI rfl rfl ?_  -- 14 wire.go:38
    refine add rfl rfl (by omega) (by omega) rfl ?_  -- 15 wire.go:38
    refine mvI rfl rfl ?_  -- 16 wire.go:38
    refine cvI int_byte int_int rfl (wrapN (by omega)) rfl ?_  -- 17 wire.go:38
    refine mul rfl rfl (by omega) (by omega) rfl ?_  -- 18 wire.go:38
    refine add rfl rfl (by omega) (by omega) rfl ?_  -- 19 wire.go:38
    refine rem rfl rfl (by omega) (by omega) rfl ?_  -- 20 wire.go:38
    refine asI rfl rfl ?_  -- 3 wire.go:38
    refine lw_nil ?_
    refine cw_region ?_ -- region 6
    refine add rfl rfl (by omega) (by omega) rfl ?_  -- 21 wire.go:37
    refine mvI rfl rfl ?_  -- 8 wire.go:37
    refine lw_nil ?_
    refine ⟨((m + (k + 1) * x.toNat) % 65521, k + 1), ⟨Nat.mod_lt _ (by decide), by omega, H, ?_⟩, ?_, by repeat (first | exact agr_ovr | refine agr_upd rfl ?_ | refine agr_updL _ rfl ?_), by show l.length - (k + 1) < l.length - k; omega⟩
    · rw [← hs, hd, sumGo]
    · intro p hp
      simp only [List.mem_cons, List.mem_nil_iff, or_false] at hp
      rcases hp with rfl | rfl
      · show Value.int .i64 _ = Value.int .i64 _
        congr 1
      · rfl
  · refine cw_false rfl ?_
    refine cw_exit ?_ -- 0
    have hkl : k = l.length := by omega
    subst hkl
    simp only [List.drop_length, sumGo] at hs
    subst hs
    refine cw_seq ?_
    refine cw_region ?_ -- region 7
    refine mvI rfl rfl ?_  -- 22 wire.go:40
    refine asI rfl rfl ?_  -- 2 wire.go:40
    refine lw_nil ?_
    refine cw_ret ?_
    exact fin1 rfl rfl ⟨rfl, H.below⟩
end Go.Proofs.Ytemnchkebhclpaa
end

section
namespace Go.Proofs.Ytemnchkebhclpaa
open Go Go.Eng Go.RowKit

/-- a number in as few bytes as may be -/
def num (n : Nat) : List UInt8 := if h : n ≤ 127 then [UInt8.ofNat n] else UInt8.ofNat (n % 128 + 128) :: num (n / 128)
termination_by n
decreasing_by omega
theorem num_small {n : Nat} (h : n ≤ 127) : num n = [UInt8.ofNat n] := by rw [num, dif_pos h]
theorem num_big {n : Nat} (h : 127 < n) : num n = UInt8.ofNat (n % 128 + 128) :: num (n / 128) := by rw [num, dif_neg (by omega)]
theorem and127 (n : Nat) : n &&& 127 = n % 128 := Nat.and_two_pow_sub_one_eq_mod n 7
theorem or128 (n : Nat) (h : n < 128) : n ||| 128 = n + 128 := by
  have := Nat.two_pow_add_eq_or_of_lt (i := 7) (b := n) (by simpa using h) 1
  rw [Nat.or_comm]; simp at this; omega
theorem u8n (n : Nat) (h : n < 256) : ((UInt8.ofNat n).toNat : Int) = n := by
  simp [Nat.mod_eq_of_lt h]
theorem num_len : ∀ (k n : Nat), n < 128 ^ k → (num n).length ≤ max k 1
  | 0, n, h => by
    have : n = 0 := by simpa using h
    subst this; rw [num_small (by omega)]; simp
  | k + 1, n, h => by
    by_cases hn : n ≤ 127
    · rw [num_small hn]; simp
    · have := num_len k (n / 128) (by rw [Nat.pow_succ] at h; exact Nat.div_lt_of_lt_mul (by omega))
      rw [num_big (by omega)]
      simp only [List.length_cons]
      have hk : k ≠ 0 := by
        rintro rfl
        simp at h; omega
      omega

set_option maxRecDepth 4000 in
theorem number_ok {w0 w : World} {F : List Fact} {K M L : List (Nat × Obj)} {es : List UInt8} {A : Option Addr} {c : Nat} (n : Nat) (H : Hp w0 w (K ++ L ++ M) F) (ho : Own byteL (.slice A es.length c) T_byte es L) (hn : n < 4611686018427387904) (hb : es.length + n < 140737488355328) :
    Ret Try.prog i_wire_number [.slice A es.length c, .int .i64 n] w fun v w2 => ∃ A' c' L', v = .slice A' (es ++ num n).length c' ∧ Own byteL (.slice A' (es ++ num n).length c') T_byte (es ++ num n) L' ∧ Hp w0 w2 (K ++ L' ++ M) F := by
  refine ret_of fn_wire_number rfl rfl ?_
  refine cw_seq ?_
  refine cw_region ?_ -- region 0
  refine asS rfl rfl ?_  -- 4 wire.go:26
  refine lw_nil ?_
  refine cw_seq ?_
  refine cw_block ?_ -- block 0
  refine cw_loop (τ := Option Addr × Nat × List UInt8 × Nat) [0, 1, 5, 6, 7, 8, 9, 10, 11, 12, 13, 15, 14] (fun (A, c, l, m) => [(0, .slice A l.length c), (1, .int .i64 m)])
    (fun (A, c, l, m) w' => m < 4611686018427387904 ∧ l.length + m < 140737488355328 ∧ l ++ num m = es ++ num n ∧ ∃ L', Own byteL (.slice A l.length c) T_byte l L' ∧ Hp w0 w' (K ++ L' ++ M) F) (fun (_, _, _, m) => m) (A, c, es, n) ⟨hn, hb, rfl, L, ho, H⟩ (sl2 rfl rfl) ?_ -- LOOP
  rintro ⟨A1, c1, l, m⟩ ρ1 w1 ⟨hm, hb1, hl, L1, ho1, H1⟩
  show CW _ _ _ _ (updL (ovr _ _ ρ1) [(0, .slice A1 l.length c1), (1, .int .i64 (m : Nat))]) w1
  refine cw_seq ?_
  refine cw_seq ?_
  refine cw_region ?_ -- region 1
  refine mvI rfl rfl ?_  -- 5 wire.go:27
  refine gtrS rfl rfl rfl (fun h6 => ?_) (fun h6 => ?_)  -- 6 wire.go:27
  all_goals refine lw_nil ?_
  · refine cw_true rfl ?_
    refine cw_skip ?_
    have hmod : m % 128 < 128 := Nat.mod_lt _ (by decide)
    refine cw_block ?_ -- block 1
    refine cw_seq ?_
    refine cw_region ?_ -- region 2
    refine mvS rfl rfl ?_  -- 7 wire.go:28
    refine mvI rfl rfl ?_  -- 8 wire.go:28
    refine l1 (and_r (b := 127) rfl rfl (by omega) (by omega)) rfl rfl rfl ?_
    rw [and127]
    refine l1 (or_r (b := 128) rfl rfl (by omega) (by omega)) rfl rfl rfl ?_
    rw [or128 _ hmod]
    refine cvI int_int int_byte rfl (wrap8 (by omega)) rfl ?_  -- 11 wire.go:28
    refine bsv (vs := [.int .u8 _]) H1 sl_Lbyte z_byte rfl rfl rfl rfl rfl rfl ?_; intro w2 b12 H2  -- 12 wire.go:28
    refine apO (Y := byteL) ap_Lbyte (K := (b12, _) :: K) (L := L1) (M := M) H2 ho1 (news := [UInt8.ofNat (m % 128 + 128)]) rfl rfl rfl ?_ ?_ rfl ?_
    · have := Src.row (m := 1) (sz := 1) (H2.ent (i := 0) rfl) rfl
      have e : byteL.all [UInt8.ofNat (m % 128 + 128)] = [.int .u8 ((m % 128 + 128 : Nat) : Int)] := by
        show [Value.int .u8 _] = _
        rw [u8n _ (by omega)]
      rw [e]
      exact this
    · simp only [List.length_singleton]; omega
    intro A3 c3 w3 L3 _ _ ho3 H3
    refine asS rfl rfl ?_  -- 0 wire.go:28
    refine lw_nil ?_
    refine cw_region ?_ -- region 3
    refine mvI rfl rfl ?_  -- 14 wire.go:29
    refine l1 (shr_r (b := 7) rfl rfl (by omega)) rfl rfl rfl ?_
    refine asI rfl rfl ?_  -- 1 wire.go:29
    refine lw_nil ?_
    refine ⟨(A3, c3, l ++ [UInt8.ofNat (m % 128 + 128)], m / 2 ^ 7), ⟨by omega, by simp; omega, ?_, L3, ho3, H3.forget (by simp) (fun _ h => h)⟩, sl2 rfl rfl, by repeat (first | exact agr_ovr | refine agr_upd rfl ?_ | refine agr_updL _ rfl ?_), by show m / 2 ^ 7 < m; omega⟩
    rw [← hl, num_big (n := m) (by omega)]; simp
  · refine cw_false rfl ?_
    refine cw_exit ?_ -- 0
    refine cw_seq ?_
    refine cw_region ?_ -- region 4
    refine mvS rfl rfl ?_  -- 16 wire.go:31
    refine mvI rfl rfl ?_  -- 17 wire.go:31
    refine cvI int_int int_byte rfl (wrap8 (by omega)) rfl ?_  -- 18 wire.go:31
    refine bsv (vs := [.int .u8 _]) H1 sl_Lbyte z_byte rfl rfl rfl rfl rfl rfl ?_; intro w2 b19 H2  -- 19 wire.go:31
    refine apO (Y := byteL) ap_Lbyte (K := (b19, _) :: K) (L := L1) (M := M) H2 ho1 (news := [UInt8.ofNat m]) rfl rfl rfl ?_ ?_ rfl ?_
    · have := Src.row (m := 1) (sz := 1) (H2.ent (i := 0) rfl) rfl
      have e : byteL.all [UInt8.ofNat m] = [.int .u8 (m : Int)] := by
        show [Value.int .u8 _] = _
        rw [u8n _ (by omega)]
      rw [e]
      exact this
    · simp only [List.length_singleton]; omega
    intro A3 c3 w3 L3 _ _ ho3 H3
    refine asS rfl rfl ?_  -- 4 wire.go:31
    refine lw_nil ?_
    refine cw_ret ?_
    rw [num_small (by omega)] at hl
    rw [hl] at ho3
    refine fin1 rfl (v := .slice A3 (es ++ num n).length c3) (by rw [← hl]; rfl) ⟨A3, c3, L3, rfl, ho3, H3.forget (by simp) (fun _ h => h)⟩
end Go.Proofs.Ytemnchkebhclpaa
end

section
namespace Go.Proofs.Ytemnchkebhclpaa
open Go Go.Eng Go.RowKit

def inNum (n : Int) : Bool := decide (0 ≤ n) && decide (n ≤ 1073741824)
theorem inNum_t {n : Int} (h : inNum n = true) : 0 ≤ n ∧ n ≤ 1073741824 := by simpa [inNum] using h
theorem inNum_f {n : Int} (h : ¬ inNum n = true) : n < 0 ∨ 1073741824 < n := by
  simp [inNum] at h; omega
def Ent.nums (e : Ent) : List Int := [e.epoch, e.pid, e.ver, e.seq]
def Ent.noForm (e : Ent) : Prop := (e.kind ≠ 1 ∧ (e.pid = 0 ∨ e.txn = false ∨ e.seq ≠ 0 ∨ e.text ≠ ⟨#[]⟩)) ∨ (e.pid = 0 ∧ (e.txn = true ∨ 0 < e.ver + e.seq))
instance (e : Ent) : Decidable e.noForm := by unfold Ent.noForm; infer_instance
/-- P1.1 -/
def entCheck (e : Ent) : Int :=
  if e.kind < 1 ∨ 3 < e.kind then 3
  else if ¬ e.nums.all inNum = true then 2
  else if 40 < e.text.size then 1
  else if e.noForm then 4 else 0

set_option maxRecDepth 4000 in
theorem wcheck_ok (e : Ent) (w : World) : Ret Try.prog i_wire_Check [e.v] w fun v w2 => v = .int .i64 (entCheck e) ∧ Below w.heap.size w w2 := by
  refine ret_of fn_wire_Check rfl rfl ?_
  have H := Hp.start w
  refine cw_seq ?_
  refine cw_region ?_ -- region 0
  refine bxA H rfl rfl ?_; intro w1 b1 H  -- 1 wire.go:7
  refine asI rfl rfl ?_  -- 2 wire.go:7
  refine lw_nil ?_
  refine cw_seq ?_
  refine cw_seq ?_
  refine cw_region ?_ -- region 1
  refine fad fd_Entry_4 rfl rfl ?_  -- 5 wire.go:8
  refine ldE H 0 one_int rfl rfl rfl rfl ?_  -- 6 wire.go:8
  refine lssS rfl rfl rfl (fun h7 => ?_) (fun h7 => ?_)  -- 7 wire.go:8
  · have hE : entCheck e = 3 := by unfold entCheck; rw [if_pos (.inl h7)]
    refine mvB rfl rfl ?_  -- 8 wire.go:8
    iterate 3 refine lwN rfl rfl rfl ?_
    refine pkTB rfl rfl rfl ?_ -- or pkFB  -- 12 wire.go:8
    refine lw_nil ?_
    refine cw_true rfl ?_
    refine cw_seq ?_
    refine cw_region ?_ -- region 2
    refine asI rfl rfl ?_  -- 2 wire.go:9
    refine lw_nil ?_
    refine cw_ret ?_
    exact fin1 (v := .int .i64 3) rfl rfl ⟨by rw [hE], H.below⟩
  refine mvB rfl rfl ?_  -- 8 wire.go:8
  refine lwG rfl ?_
  refine fad fd_Entry_4 rfl rfl ?_  -- 9 wire.go:8
  refine lwG rfl ?_
  refine ldE H 0 one_int rfl rfl rfl rfl ?_  -- 10 wire.go:8
  refine lwG rfl ?_
  refine gtrS rfl rfl rfl (fun h11 => ?_) (fun h11 => ?_)  -- 11 wire.go:8
  · have hE : entCheck e = 3 := by unfold entCheck; rw [if_pos (.inr h11)]
    refine pkFB rfl rfl rfl ?_ -- or pkFB  -- 12 wire.go:8
    refine lw_nil ?_
    refine cw_true rfl ?_
    refine cw_seq ?_
    refine cw_region ?_ -- region 2
    refine asI rfl rfl ?_  -- 2 wire.go:9
    refine lw_nil ?_
    refine cw_ret ?_
    exact fin1 (v := .int .i64 3) rfl rfl ⟨by rw [hE], H.below⟩
  refine pkFB rfl rfl rfl ?_ -- or pkFB  -- 12 wire.go:8
  refine lw_nil ?_
  refine cw_false rfl ?_
  refine cw_skip ?_
  have hk0 : ¬ (e.kind < 1 ∨ 3 < e.kind) := by omega
  refine cw_seq ?_
  refine cw_seq ?_
  refine cw_region ?_ -- region 3
  refine fad fd_Entry_0 rfl rfl ?_  -- 13 wire.go:11
  refine ldE H 0 one_int rfl rfl rfl rfl ?_  -- 14 wire.go:11
  refine fad fd_Entry_1 rfl rfl ?_  -- 15 wire.go:11
  refine ldE H 0 one_int rfl rfl rfl rfl ?_  -- 16 wire.go:11
  refine fad fd_Entry_2 rfl rfl ?_  -- 17 wire.go:11
  refine ldE H 0 one_int rfl rfl rfl rfl ?_  -- 18 wire.go:11
  refine fad fd_Entry_3 rfl rfl ?_  -- 19 wire.go:11
  refine ldE H 0 one_int rfl rfl rfl rfl ?_  -- 20 wire.go:11
  refine bsv (vs := [.int .i64 _, .int .i64 _, .int .i64 _, .int .i64 _]) H sl_Lint z_int rfl rfl rfl rfl rfl rfl ?_; intro w2 b21 H  -- 21 wire.go:11
  refine lenS len_Lint rfl rfl ?_  -- 22 wire.go:11
  refine mvI rfl rfl ?_  -- 23 wire.go:11
  refine lw_nil ?_
  refine cw_block ?_ -- block 0
  have hns : ∀ k, k < 4 → (flatV [.int .i64 e.epoch, .int .i64 e.pid, .int .i64 e.ver, .int .i64 e.seq]).toArray[0 + k * 1]? = some (.int .i64 (e.nums.getD k 0)) := by
    intro k hk
    have : k = 0 ∨ k = 1 ∨ k = 2 ∨ k = 3 := by omega
    rcases this with rfl | rfl | rfl | rfl <;> rfl
  have hmem : ∀ k, k < 4 → e.nums.getD k 0 ∈ e.nums := by
    intro k hk
    have : k = 0 ∨ k = 1 ∨ k = 2 ∨ k = 3 := by omega
    rcases this with rfl | rfl | rfl | rfl <;> simp [Ent.nums]
  refine cw_loop (τ := Nat) [4, 23, 24, 25, 26, 27, 28, 29, 30, 31, 32, 33, 2] (fun k => [(23, .int .i64 k)]) (fun k w' => k ≤ 4 ∧ (∀ j, j < k → (e.nums.getD j 0 |> inNum) = true) ∧ Hp w w' [(b21, _), (b1, _)] []) (fun k => 4 - k) 0 ⟨by omega, by simp, H⟩ (sl1 rfl) ?_ -- LOOP
  rintro k ρ1 w1 ⟨hk4, hgood, H⟩
  refine cw_seq ?_
  refine cw_region ?_ -- region 4
  refine lssS rfl rfl rfl (fun h24 => ?_) (fun h24 => ?_)  -- 24 wire.go:11
  all_goals refine lw_nil ?_
  all_goals refine cw_seq ?_
  · refine cw_true rfl ?_
    refine cw_skip ?_
    have hk : k < 4 := by omega
    have hns := hns k hk
    have hm := hmem k hk
    generalize hx : e.nums.getD k 0 = x at hns hm
    refine cw_seq ?_
    refine cw_block ?_ -- block 1
    refine cw_seq ?_
    refine cw_region ?_ -- region 5
    refine ixa sl_Lint rfl rfl (by omega) (by omega) rfl ?_  -- 25 wire.go:11
    refine ldE H 0 one_int rfl rfl hns rfl ?_  -- 26 wire.go:11
    refine asI rfl rfl ?_  -- 4 wire.go:11
    refine lw_nil ?_
    refine cw_seq ?_
    refine cw_region ?_ -- region 6
    refine mvI rfl rfl ?_  -- 27 wire.go:12
    by_cases hin : inNum x = true
    · obtain ⟨h0, h1⟩ := inNum_t hin
      refine lssF rfl rfl (by omega) rfl ?_
      refine mvB rfl rfl ?_  -- 29 wire.go:12
      refine lwG rfl ?_
      refine mvI rfl rfl ?_  -- 30 wire.go:12
      refine lwG rfl ?_
      refine gtrF rfl rfl (by omega) rfl ?_  -- 31 wire.go:12
      refine pkFB rfl rfl rfl ?_ -- or pkFB  -- 32 wire.go:12
      refine lw_nil ?_
      refine cw_false rfl ?_
      refine cw_skip ?_
      refine cw_region ?_ -- region 8
      refine add rfl rfl (by omega) (by omega) rfl ?_  -- 33 wire.go:11
      refine mvI rfl rfl ?_  -- 23 wire.go:11
      refine lw_nil ?_
      refine ⟨k + 1, ⟨by omega, fun j hj => ?_, H⟩, sl1 rfl, by repeat (first | exact agr_ovr | refine agr_upd rfl ?_ | refine agr_updL _ rfl ?_), by show 4 - (k + 1) < 4 - k; omega⟩
      by_cases hjk : j = k
      · subst hjk; rw [hx]; exact hin
      · exact hgood j (by omega)
    · have hE : entCheck e = 2 := by
        unfold entCheck
        rw [if_neg hk0, if_pos]
        intro ha
        exact hin (List.all_eq_true.1 ha x hm)
      have hbad := inNum_f hin
      by_cases h0 : x < 0
      · refine lssT rfl rfl h0 rfl ?_
        refine mvB rfl rfl ?_  -- 29 wire.go:12
        iterate 2 refine lwN rfl rfl rfl ?_
        refine pkTB rfl rfl rfl ?_ -- or pkFB  -- 32 wire.go:12
        refine lw_nil ?_
        refine cw_true rfl ?_
        refine cw_seq ?_
        refine cw_region ?_ -- region 7
        refine asI rfl rfl ?_  -- 2 wire.go:13
        refine lw_nil ?_
        refine cw_ret ?_
        exact fin1 (v := .int .i64 2) rfl rfl ⟨by rw [hE], H.below⟩
      · refine lssF rfl rfl h0 rfl ?_
        refine mvB rfl rfl ?_  -- 29 wire.go:12
        refine lwG rfl ?_
        refine mvI rfl rfl ?_  -- 30 wire.go:12
        refine lwG rfl ?_
        refine gtrT rfl rfl (by omega) rfl ?_  -- 31 wire.go:12
        refine pkFB rfl rfl rfl ?_ -- or pkFB  -- 32 wire.go:12
        refine lw_nil ?_
        refine cw_true rfl ?_
        refine cw_seq ?_
        refine cw_region ?_ -- region 7
        refine asI rfl rfl ?_  -- 2 wire.go:13
        refine lw_nil ?_
        refine cw_ret ?_
        exact fin1 (v := .int .i64 2) rfl rfl ⟨by rw [hE], H.below⟩
  · refine cw_false rfl ?_
    refine cw_exit ?_ -- 0
    have hk : k = 4 := by omega
    subst hk
    have hall : e.nums.all inNum = true := by
      have g0 := hgood 0 (by omega)
      have g1 := hgood 1 (by omega)
      have g2 := hgood 2 (by omega)
      have g3 := hgood 3 (by omega)
      simp only [Ent.nums, List.getD_cons_zero, List.getD_cons_succ] at g0 g1 g2 g3
      simp [Ent.nums, g0, g1, g2, g3]
    have hv := inNum_t (List.all_eq_true.1 hall e.ver (by simp [Ent.nums]))
    have hs := inNum_t (List.all_eq_true.1 hall e.seq (by simp [Ent.nums]))
    refine cw_seq ?_
    refine cw_seq ?_
    refine cw_region ?_ -- region 9
    refine fad fd_Entry_6 rfl rfl ?_  -- 34 wire.go:16
    refine ldE H 1 one_string rfl rfl rfl rfl ?_  -- 35 wire.go:16
    refine lenT str_string rfl rfl ?_  -- 36 wire.go:16
    refine gtrS rfl rfl rfl (fun h37 => ?_) (fun h37 => ?_)  -- 37 wire.go:16
    all_goals refine lw_nil ?_
    · refine cw_true rfl ?_
      refine cw_seq ?_
      refine cw_region ?_ -- region 10
      refine asI rfl rfl ?_  -- 2 wire.go:17
      refine lw_nil ?_
      refine cw_ret ?_
      have hE : entCheck e = 1 := by
        unfold entCheck
        rw [if_neg hk0, if_neg (by simpa using hall), if_pos (by omega)]
      exact fin1 (v := .int .i64 1) rfl rfl ⟨by rw [hE], H.below⟩
    refine cw_false rfl ?_
    refine cw_skip ?_
    have hE : entCheck e = if e.noForm then 4 else 0 := by
      unfold entCheck
      rw [if_neg hk0, if_neg (by simpa using hall), if_neg (by omega)]
    refine cw_seq ?_
    refine cw_seq ?_
    refine cw_region ?_ -- region 11
    by_cases hx : e.text = ⟨#[]⟩
    all_goals cases ht : e.txn
    all_goals (have h5 : e.c.toArray[0 + 5]? = some (.bool e.txn) := rfl; rw [ht] at h5)
    all_goals (refine fad fd_Entry_4 rfl rfl ?_)
    all_goals (refine ldE H 1 one_int rfl rfl rfl rfl ?_)
    all_goals (refine neqS rfl rfl rfl (fun _ => ?_) (fun _ => ?_))
    all_goals (refine mvB rfl rfl ?_)
    all_goals first | refine lwN rfl rfl rfl ?_ | (refine lwG rfl ?_; (refine fad fd_Entry_1 rfl rfl ?_))
    all_goals first | refine lwN rfl rfl rfl ?_ | (refine lwG rfl ?_; (refine ldE H 1 one_int rfl rfl rfl rfl ?_))
    all_goals first | refine lwN rfl rfl rfl ?_ | (refine lwG rfl ?_; (refine eqlS rfl rfl rfl (fun _ => ?_) (fun _ => ?_)))
    all_goals first | refine lwN rfl rfl rfl ?_ | (refine lwG rfl ?_; (refine mvB rfl rfl ?_))
    all_goals first | refine lwN rfl rfl rfl ?_ | (refine lwG rfl ?_; (refine fad fd_Entry_5 rfl rfl ?_))
    all_goals first | refine lwN rfl rfl rfl ?_ | (refine lwG rfl ?_; (refine ldE H 1 one_bool rfl rfl h5 rfl ?_))
    all_goals first | refine lwN rfl rfl rfl ?_ | (refine lwG rfl ?_; (refine not rfl rfl ?_))
    all_goals first | refine lwN rfl rfl rfl ?_ | (refine lwG rfl ?_; (first | refine pkTB rfl rfl rfl ?_ | refine pkFB rfl rfl rfl ?_))
    all_goals first | refine lwN rfl rfl rfl ?_ | (refine lwG rfl ?_; (refine mvB rfl rfl ?_))
    all_goals first | refine lwN rfl rfl rfl ?_ | (refine lwG rfl ?_; (refine fad fd_Entry_3 rfl rfl ?_))
    all_goals first | refine lwN rfl rfl rfl ?_ | (refine lwG rfl ?_; (refine ldE H 1 one_int rfl rfl rfl rfl ?_))
    all_goals first | refine lwN rfl rfl rfl ?_ | (refine lwG rfl ?_; (refine neqS rfl rfl rfl (fun _ => ?_) (fun _ => ?_)))
    all_goals first | refine lwN rfl rfl rfl ?_ | (refine lwG rfl ?_; (first | refine pkTB rfl rfl rfl ?_ | refine pkFB rfl rfl rfl ?_))
    all_goals first | refine lwN rfl rfl rfl ?_ | (refine lwG rfl ?_; (refine mvB rfl rfl ?_))
    all_goals first | refine lwN rfl rfl rfl ?_ | (refine lwG rfl ?_; (refine fad fd_Entry_6 rfl rfl ?_))
    all_goals first | refine lwN rfl rfl rfl ?_ | (refine lwG rfl ?_; (refine ldE H 1 one_string rfl rfl rfl rfl ?_))
    all_goals first | refine lwN rfl rfl rfl ?_ | (refine lwG rfl ?_; (first | refine l1 (sneqT_r rfl rfl hx) rfl rfl rfl ?_ | refine l1 (sneqF_r rfl rfl hx) rfl rfl rfl ?_))
    all_goals first | refine lwN rfl rfl rfl ?_ | (refine lwG rfl ?_; (first | refine pkTB rfl rfl rfl ?_ | refine pkFB rfl rfl rfl ?_))
    all_goals (first | refine pkTB rfl rfl rfl ?_ | refine pkFB rfl rfl rfl ?_)
    all_goals (refine mvB rfl rfl ?_)
    all_goals first | refine lwN rfl rfl rfl ?_ | (refine lwG rfl ?_; (refine fad fd_Entry_1 rfl rfl ?_))
    all_goals first | refine lwN rfl rfl rfl ?_ | (refine lwG rfl ?_; (refine ldE H 1 one_int rfl rfl rfl rfl ?_))
    all_goals first | refine lwN rfl rfl rfl ?_ | (refine lwG rfl ?_; (refine eqlS rfl rfl rfl (fun _ => ?_) (fun _ => ?_)))
    all_goals first | refine lwN rfl rfl rfl ?_ | (refine lwG rfl ?_; (refine mvB rfl rfl ?_))
    all_goals first | refine lwN rfl rfl rfl ?_ | (refine lwG rfl ?_; (refine fad fd_Entry_5 rfl rfl ?_))
    all_goals first | refine lwN rfl rfl rfl ?_ | (refine lwG rfl ?_; (refine ldE H 1 one_bool rfl rfl h5 rfl ?_))
    all_goals first | refine lwN rfl rfl rfl ?_ | (refine lwG rfl ?_; (refine mvB rfl rfl ?_))
    all_goals first | refine lwN rfl rfl rfl ?_ | (refine lwG rfl ?_; (refine fad fd_Entry_2 rfl rfl ?_))
    all_goals first | refine lwN rfl rfl rfl ?_ | (refine lwG rfl ?_; (refine ldE H 1 one_int rfl rfl rfl rfl ?_))
    all_goals first | refine lwN rfl rfl rfl ?_ | (refine lwG rfl ?_; (refine fad fd_Entry_3 rfl rfl ?_))
    all_goals first | refine lwN rfl rfl rfl ?_ | (refine lwG rfl ?_; (refine ldE H 1 one_int rfl rfl rfl rfl ?_))
    all_goals first | refine lwN rfl rfl rfl ?_ | (refine lwG rfl ?_; (refine add rfl rfl (by omega) (by omega) rfl ?_))
    all_goals first | refine lwN rfl rfl rfl ?_ | (refine lwG rfl ?_; (refine gtrS rfl rfl rfl (fun _ => ?_) (fun _ => ?_)))
    all_goals first | refine lwN rfl rfl rfl ?_ | (refine lwG rfl ?_; (first | refine pkTB rfl rfl rfl ?_ | refine pkFB rfl rfl rfl ?_))
    all_goals first | refine lwN rfl rfl rfl ?_ | (refine lwG rfl ?_; (first | refine pkTB rfl rfl rfl ?_ | refine pkFB rfl rfl rfl ?_))
    all_goals (first | refine pkTB rfl rfl rfl ?_ | refine pkFB rfl rfl rfl ?_)
    all_goals refine lw_nil ?_
    all_goals first
      | (refine cw_true rfl ?_
         refine cw_seq ?_
         refine cw_region ?_ -- region 12
         refine asI rfl rfl ?_
         refine lw_nil ?_
         refine cw_ret ?_
         exact fin1 (v := .int .i64 4) rfl rfl ⟨by rw [hE, if_pos (by simp [Ent.noForm, *])], H.below⟩)
      | (refine cw_false rfl ?_
         refine cw_skip ?_
         refine cw_seq ?_
         refine cw_region ?_ -- region 13
         refine asI rfl rfl ?_
         refine lw_nil ?_
         refine cw_ret ?_
         exact fin1 (v := .int .i64 0) rfl rfl ⟨by rw [hE, if_neg (by simp [Ent.noForm, *] <;> omega)], H.below⟩)
end Go.Proofs.Ytemnchkebhclpaa
end

section
namespace Go.Proofs.Ytemnchkebhclpaa
open Go Go.Eng Go.RowKit

def kindB (e : Ent) : UInt8 := UInt8.ofNat (e.kind.toNat + if e.txn then 16 else 0)
def numsB (l : List Int) : List UInt8 := l.flatMap fun n => num n.toNat
def bodyB (e : Ent) : List UInt8 := kindB e :: numsB e.nums ++ e.text.data.toList
def encB (e : Ent) : List UInt8 := UInt8.ofNat (bodyB e).length :: bodyB e ++ [UInt8.ofNat (sumB (bodyB e) / 256), UInt8.ofNat (sumB (bodyB e) % 256)]

theorem wrap8m (n : Nat) : IntKind.u8.wrap (n : Int) = (n % 256 : Nat) := by
  simp [IntKind.wrap, IntKind.signed, IntKind.bits]
theorem byteT (s : ByteArray) : byteL.all s.data.toList = Lib.strCells s := by
  unfold Lay.all Lib.strCells
  show List.flatMap (fun n : UInt8 => [Value.int .u8 n.toNat]) _ = _
  induction s.data.toList with
  | nil => rfl
  | cons a l ih => simp only [List.flatMap_cons, List.map_cons, ih]; rfl

theorem entCheck_ok {e : Ent} (h : entCheck e = 0) : 1 ≤ e.kind ∧ e.kind ≤ 3 ∧ (∀ n ∈ e.nums, 0 ≤ n ∧ n ≤ 1073741824) ∧ e.text.size ≤ 40 ∧ ¬ e.noForm := by
  unfold entCheck at h
  split at h; · omega
  split at h; · omega
  split at h; · omega
  split at h; · omega
  rename_i h1 h2 h3 h4
  refine ⟨by omega, by omega, fun n hn => ?_, by omega, h4⟩
  have := List.all_eq_true.1 (Classical.not_not.1 h2) n hn
  exact inNum_t this
theorem numsB_len : ∀ (l : List Int), (∀ n ∈ l, 0 ≤ n ∧ n ≤ 1073741824) → (numsB l).length ≤ 5 * l.length
  | [], _ => by simp [numsB]
  | n :: l, h => by
    have h1 := numsB_len l fun m hm => h m (List.mem_cons_of_mem _ hm)
    have h2 := h n (List.mem_cons_self ..)
    have h3 := num_len 5 n.toNat (by omega)
    simp only [numsB, List.flatMap_cons, List.length_append, List.length_cons] at *
    omega
theorem bodyB_len {e : Ent} (h : entCheck e = 0) : (bodyB e).length ≤ 61 ∧ 0 < (bodyB e).length := by
  obtain ⟨_, _, h3, h4, _⟩ := entCheck_ok h
  have := numsB_len _ h3
  have hs : e.text.data.toList.length = e.text.size := by rw [Array.length_toList]; rfl
  simp only [bodyB, List.length_append, List.length_cons, hs]
  have h4' : e.nums.length = 4 := rfl
  omega

set_option maxRecDepth 4000 in
theorem encode_bad (e : Ent) (w : World) (h : entCheck e ≠ 0) : Ret Try.prog i_wire_Encode [e.v] w fun v w2 => v = .tuple #[.slice none 0 0, .int .i64 (entCheck e)] ∧ Below w.heap.size w w2 := by
  refine ret_of fn_wire_Encode rfl rfl ?_
  have H := Hp.start w
  refine cw_seq ?_
  refine cw_region ?_ -- region 0
  refine bxA H rfl rfl ?_; intro w1 b1 H  -- 1 wire.go:44
  refine asS rfl rfl ?_  -- 2 wire.go:44
  refine asI rfl rfl ?_  -- 3 wire.go:44
  refine lw_nil ?_
  refine cw_seq ?_
  refine cw_seq ?_
  refine cw_region ?_ -- region 1
  refine ldW H 0 agg_Entry rfl rfl rfl rfl ?_  -- 10 wire.go:45
  refine cal cb_wire_Check (wcheck_ok e _) rfl rfl ?_; rintro _ w2 ⟨rfl, hb2⟩; replace H := H.later hb2 -- args ['10']  -- 11 wire.go:45
  refine asI rfl rfl ?_  -- 4 wire.go:45
  refine lw_nil ?_
  refine cw_seq ?_
  refine cw_region ?_ -- region 2
  refine mvI rfl rfl ?_  -- 12 wire.go:45
  refine l1 (neqT_r rfl rfl h) rfl rfl rfl ?_
  refine lw_nil ?_
  refine cw_true rfl ?_
  refine cw_seq ?_
  refine cw_region ?_ -- region 3
  refine mvI rfl rfl ?_  -- 14 wire.go:46
  refine asS rfl rfl ?_  -- 2 wire.go:46
  refine asI rfl rfl ?_  -- 3 wire.go:46
  refine lw_nil ?_
  refine cw_ret ?_
  exact fin2 (v := .slice none 0 0) (v2 := .int .i64 (entCheck e)) rfl rfl rfl ⟨rfl, H.below⟩

set_option maxRecDepth 4000 in
theorem encode_ok (e : Ent) (w : World) (h : entCheck e = 0) : Ret Try.prog i_wire_Encode [e.v] w fun v w2 => ∃ A c, v = .tuple #[.slice A (encB e).length c, .int .i64 0] ∧ Rd byteL w.heap.size w2.heap.size A (encB e) w2 ∧ (encB e).length ≤ c ∧ Below w.heap.size w w2 := by
  obtain ⟨hk1, hk3, hnn, htx, -⟩ := entCheck_ok h
  obtain ⟨hl61, hl0⟩ := bodyB_len h
  refine ret_of fn_wire_Encode rfl rfl ?_
  have H := Hp.start w
  refine cw_seq ?_
  refine cw_region ?_ -- region 0
  refine bxA H rfl rfl ?_; intro w1 b1 H  -- 1 wire.go:44
  refine asS rfl rfl ?_  -- 2 wire.go:44
  refine asI rfl rfl ?_  -- 3 wire.go:44
  refine lw_nil ?_
  refine cw_seq ?_
  refine cw_seq ?_
  refine cw_region ?_ -- region 1
  refine ldW H 0 agg_Entry rfl rfl rfl rfl ?_  -- 10 wire.go:45
  refine cal cb_wire_Check (wcheck_ok e _) rfl rfl ?_; rintro _ w2 ⟨rfl, hb2⟩; replace H := H.later hb2 -- args ['10']  -- 11 wire.go:45
  refine asI rfl rfl ?_  -- 4 wire.go:45
  refine lw_nil ?_
  refine cw_seq ?_
  refine cw_region ?_ -- region 2
  refine mvI rfl rfl ?_  -- 12 wire.go:45
  refine l1 (neqF_r rfl rfl h) rfl rfl rfl ?_
  refine lw_nil ?_
  refine cw_false rfl ?_
  refine cw_skip ?_
  refine cw_seq ?_
  refine cw_region ?_ -- region 4
  refine fad fd_Entry_4 rfl rfl ?_  -- 15 wire.go:48
  refine ldE H 0 one_int rfl rfl rfl rfl ?_  -- 16 wire.go:48
  refine asI rfl rfl ?_  -- 5 wire.go:48
  refine lw_nil ?_
  refine cw_seq ?_
  obtain ⟨k, hk⟩ : ∃ k : Nat, e.kind = k := ⟨e.kind.toNat, by omega⟩
  have hkB : kindB e = UInt8.ofNat (k + if e.txn then 16 else 0) := by unfold kindB; rw [hk]; rfl
  refine cw_cut (τ := Unit) [17, 18, 19, 20, 5] (fun _ => [(5, .int .i64 (k + if e.txn then 16 else 0 : Nat))]) (fun _ w' => Hp w w' [(b1, .cells e.c.toArray T_Entry)] []) ?_ ?_
  · refine cw_seq ?_
    refine cw_region ?_ -- region 5
    refine fad fd_Entry_5 rfl rfl ?_  -- 17 wire.go:49
    refine ldE H 0 one_bool rfl rfl rfl rfl ?_  -- 18 wire.go:49
    refine lw_nil ?_
    refine cw_if (b := e.txn) rfl (fun ht => ?_) (fun ht => ?_)
    · refine cw_region ?_ -- region 6
      refine mvI rfl rfl ?_  -- 19 wire.go:50
      have h16 : k ||| 16 = k + 16 := by
        have : k = 1 ∨ k = 2 ∨ k = 3 := by omega
        rcases this with rfl | rfl | rfl <;> rfl
      rw [hk]
      refine l1 (or_r (a := k) (b := 16) rfl rfl (by omega) (by omega)) rfl rfl rfl ?_
      rw [h16]
      refine asI rfl rfl ?_  -- 5 wire.go:50
      refine lw_nil ?_
      refine ⟨(), H, sl1 (by rw [ht]; rfl), by repeat (first | exact Agr.refl _ _ | exact agr_ovr | refine agr_upd rfl ?_ | refine agr_updL _ rfl ?_)⟩
    · refine cw_skip ?_
      rw [hk]
      refine ⟨(), H, sl1 (by rw [ht]; rfl), by repeat (first | exact Agr.refl _ _ | exact agr_ovr | refine agr_upd rfl ?_ | refine agr_updL _ rfl ?_)⟩
  rintro _ ρ1 w3 H
  show CW _ _ _ _ (updL (ovr _ _ ρ1) [(5, .int .i64 (k + if e.txn then 16 else 0 : Nat))]) w3
  have hk19 : (k + if e.txn then 16 else 0) < 256 := by split <;> omega
  refine cw_seq ?_
  refine cw_region ?_ -- region 7
  refine mvI rfl rfl ?_  -- 21 wire.go:52
  refine cvI int_int int_byte rfl (wrap8 hk19) rfl ?_  -- 22 wire.go:52
  refine bsv (vs := [.int .u8 _]) H sl_Lbyte z_byte rfl rfl rfl rfl rfl rfl ?_; intro w4 b23 H  -- 23 wire.go:52
  refine asS rfl rfl ?_  -- 6 wire.go:52
  refine lw_nil ?_
  replace H := H.swap
  have ho : Own byteL (.slice (some ⟨b23, 0, none⟩) 1 1) T_byte [kindB e] [(b23, .cells (flatV [.int .u8 (k + if e.txn then 16 else 0 : Nat)]).toArray T_byte)] := by
    have e1 : byteL.all [kindB e] = (flatV [.int .u8 (k + if e.txn then 16 else 0 : Nat)]).toArray.toList := by
      show [Value.int .u8 _] = _
      rw [hkB, u8n _ hk19]
      rfl
    unfold Own
    rw [e1]
    exact OwnE.lit (n := 1) (by decide) rfl
  refine cw_seq ?_
  refine cw_seq ?_
  refine cw_region ?_ -- region 8
  refine fad fd_Entry_0 rfl rfl ?_  -- 24 wire.go:53
  refine ldE H 0 one_int rfl rfl rfl rfl ?_  -- 25 wire.go:53
  refine fad fd_Entry_1 rfl rfl ?_  -- 26 wire.go:53
  refine ldE H 0 one_int rfl rfl rfl rfl ?_  -- 27 wire.go:53
  refine fad fd_Entry_2 rfl rfl ?_  -- 28 wire.go:53
  refine ldE H 0 one_int rfl rfl rfl rfl ?_  -- 29 wire.go:53
  refine fad fd_Entry_3 rfl rfl ?_  -- 30 wire.go:53
  refine ldE H 0 one_int rfl rfl rfl rfl ?_  -- 31 wire.go:53
  refine bsv (vs := [.int .i64 _, .int .i64 _, .int .i64 _, .int .i64 _]) H sl_Lint z_int rfl rfl rfl rfl rfl rfl ?_; intro w5 b32 H  -- 32 wire.go:53
  refine lenS len_Lint rfl rfl ?_  -- 33 wire.go:53
  refine mvI rfl rfl ?_  -- 34 wire.go:53
  refine lw_nil ?_
  refine cw_block ?_ -- block 0
  have hns : ∀ k, k < 4 → (flatV [.int .i64 e.epoch, .int .i64 e.pid, .int .i64 e.ver, .int .i64 e.seq]).toArray[0 + k * 1]? = some (.int .i64 (e.nums.getD k 0)) := by
    intro k hk
    have : k = 0 ∨ k = 1 ∨ k = 2 ∨ k = 3 := by omega
    rcases this with rfl | rfl | rfl | rfl <;> rfl
  have hmem : ∀ k, k < 4 → e.nums.getD k 0 ∈ e.nums := by
    intro k hk
    have : k = 0 ∨ k = 1 ∨ k = 2 ∨ k = 3 := by omega
    rcases this with rfl | rfl | rfl | rfl <;> simp [Ent.nums]
  have hstep : ∀ k, k < 4 → e.nums.take (k + 1) = e.nums.take k ++ [e.nums.getD k 0] := by
    intro k hk
    have : k = 0 ∨ k = 1 ∨ k = 2 ∨ k = 3 := by omega
    rcases this with rfl | rfl | rfl | rfl <;> rfl
  have hnlen : ∀ k, k ≤ 4 → (numsB (e.nums.take k)).length ≤ 20 := by
    intro k hk
    have := numsB_len (e.nums.take k) fun n hn => hnn n (List.mem_of_mem_take hn)
    have h2 : (e.nums.take k).length ≤ 4 := by simp [Ent.nums]; omega
    omega
  refine cw_loop (τ := Nat × Option Addr × Nat) [6, 8, 34, 35, 36, 37, 38, 39, 40, 41] (fun (k, A, c) => [(6, .slice A (kindB e :: numsB (e.nums.take k)).length c), (34, .int .i64 k)])
    (fun (k, A, c) w' => k ≤ 4 ∧ ∃ L', Own byteL (.slice A (kindB e :: numsB (e.nums.take k)).length c) T_byte (kindB e :: numsB (e.nums.take k)) L' ∧ Hp w w' ([(b32, .cells (flatV [.int .i64 e.epoch, .int .i64 e.pid, .int .i64 e.ver, .int .i64 e.seq]).toArray T_int), (b1, .cells e.c.toArray T_Entry)] ++ L' ++ []) []) (fun (k, _, _) => 4 - k) (0, _, 1) ⟨by omega, _, ho, H⟩ (sl2 rfl rfl) ?_ -- LOOP
  rintro ⟨j, A1, c1⟩ ρ1 w1 ⟨hj4, L1, ho, H⟩
  show CW _ _ _ _ (updL (ovr _ _ ρ1) [(6, .slice A1 (kindB e :: numsB (e.nums.take j)).length c1), (34, .int .i64 j)]) w1
  refine cw_seq ?_
  refine cw_region ?_ -- region 9
  refine lssS rfl rfl rfl (fun h35 => ?_) (fun h35 => ?_)  -- 35 wire.go:53
  all_goals refine lw_nil ?_
  all_goals refine cw_seq ?_
  · refine cw_true rfl ?_
    refine cw_skip ?_
    have hj : j < 4 := by omega
    have hns := hns j hj
    obtain ⟨hm0, hm1⟩ := hnn _ (hmem j hj)
    have hstep := hstep j hj
    have hnl := hnlen j hj4
    generalize e.nums.getD j 0 = x at *
    obtain ⟨m, rfl⟩ : ∃ m : Nat, x = m := ⟨x.toNat, by omega⟩
    refine cw_seq ?_
    refine cw_block ?_ -- block 1
    refine cw_seq ?_
    refine cw_region ?_ -- region 10
    refine ixa sl_Lint rfl rfl (by omega) (by omega) rfl ?_  -- 36 wire.go:53
    refine ldE H 0 one_int rfl rfl hns rfl ?_  -- 37 wire.go:53
    refine asI rfl rfl ?_  -- 8 wire.go:53
    refine lw_nil ?_
    refine cw_region ?_ -- region 11
    refine mvS rfl rfl ?_  -- 38 wire.go:54
    refine mvI rfl rfl ?_  -- 39 wire.go:54
    refine cal cb_wire_number (number_ok m H ho (by omega) (by simp only [List.length_cons]; omega)) rfl rfl ?_; rintro _ w5 ⟨A2, c2, L2, rfl, ho2, H2⟩ -- args ['38', '39']  -- 40 wire.go:54
    refine asS rfl rfl ?_  -- 6 wire.go:54
    refine lw_nil ?_
    refine cw_region ?_ -- region 12
    refine add rfl rfl (by omega) (by omega) rfl ?_  -- 41 wire.go:53
    refine mvI rfl rfl ?_  -- 34 wire.go:53
    refine lw_nil ?_
    have hnx : kindB e :: numsB (e.nums.take (j + 1)) = kindB e :: numsB (e.nums.take j) ++ num m := by
      rw [hstep]; simp [numsB]
    rw [← hnx] at ho2
    refine ⟨(j + 1, A2, c2), ⟨by omega, L2, ho2, H2⟩, sl2 (by rw [hnx]; rfl) rfl, by repeat (first | exact agr_ovr | refine agr_upd rfl ?_ | refine agr_updL _ rfl ?_), by show 4 - (j + 1) < 4 - j; omega⟩
  · refine cw_false rfl ?_
    refine cw_exit ?_ -- 0
    have hj : j = 4 := by omega
    subst hj
    have h20 := hnlen 4 (by omega)
    have e4 : e.nums.take 4 = e.nums := rfl
    rw [e4] at *
    have hne : kindB e :: numsB e.nums ≠ [] := by simp
    refine cw_seq ?_
    refine cw_region ?_ -- region 13
    refine mvS rfl rfl ?_  -- 42 wire.go:56
    refine fad fd_Entry_6 rfl rfl ?_  -- 43 wire.go:56
    refine ldE H 1 one_string rfl rfl rfl rfl ?_  -- 44 wire.go:56
    refine apT (Y := byteL) ap_Lbyte str_string rfl byteT H ho hne rfl rfl (by simp only [List.length_cons]; omega) rfl ?_
    intro A2 c2 w2 L2 hc1 hc2 ho H
    refine asS rfl rfl ?_  -- 6 wire.go:56
    refine lw_nil ?_
    have eb : kindB e :: numsB e.nums ++ e.text.data.toList = bodyB e := rfl
    rw [eb] at *
    refine cw_seq ?_
    refine cw_region ?_ -- region 14
    refine mvS rfl rfl ?_  -- 46 wire.go:57
    refine cal cb_wire_sum (sum_ok (bodyB e) A2 c2 w2 ((ho.rd H).mono (Nat.zero_le _) (Nat.le_refl _)) (by omega)) rfl rfl ?_; rintro _ w6 ⟨rfl, hb6⟩; replace H := H.later hb6 -- args ['46']  -- 47 wire.go:57
    refine asI rfl rfl ?_  -- 9 wire.go:57
    refine lw_nil ?_
    have hs := sumB_lt (bodyB e)
    refine cw_seq ?_
    refine cw_region ?_ -- region 15
    refine mvS rfl rfl ?_  -- 48 wire.go:58
    refine lenS len_Lbyte rfl rfl ?_  -- 49 wire.go:58
    refine cvI int_int int_byte rfl (wrap8 (n := (bodyB e).length) (by omega)) rfl ?_  -- 50 wire.go:58
    refine bsv (vs := [.int .u8 _]) H sl_Lbyte z_byte rfl rfl rfl rfl rfl rfl ?_; intro w7 b51 H7  -- 51 wire.go:58
    refine mvS rfl rfl ?_  -- 52 wire.go:58
    have ho5 : Own byteL (.slice (some ⟨b51, 0, none⟩) 1 1) T_byte [UInt8.ofNat (bodyB e).length] [(b51, .cells (flatV [.int .u8 ((bodyB e).length : Nat)]).toArray T_byte)] := by
      have e1 : byteL.all [UInt8.ofNat (bodyB e).length] = (flatV [.int .u8 ((bodyB e).length : Nat)]).toArray.toList := by
        show [Value.int .u8 _] = _
        rw [u8n _ (by omega)]
        rfl
      unfold Own
      rw [e1]
      exact OwnE.lit (n := 1) (by decide) rfl
    refine apO (Y := byteL) ap_Lbyte (K := []) (M := _) H7 ho5 (news := bodyB e) rfl rfl rfl (ho.rd (K := (b51, _) :: [_, _]) (M := []) H7).src (by simp only [List.length_cons, List.length_nil]; omega) rfl ?_
    intro A8 c8 w8 L8 _ _ ho8 H8
    refine mvI rfl rfl ?_  -- 54 wire.go:58
    refine l1 (shr_r (b := 8) rfl rfl (by omega)) rfl rfl rfl ?_
    refine cvI int_int int_byte rfl (wrap8 (n := sumB (bodyB e) / 2 ^ 8) (by omega)) rfl ?_  -- 56 wire.go:58
    refine mvI rfl rfl ?_  -- 57 wire.go:58
    refine cvI int_int int_byte rfl (wrap8m (sumB (bodyB e))) rfl ?_  -- 58 wire.go:58
    refine bsv (vs := [.int .u8 _, .int .u8 _]) H8 sl_Lbyte z_byte rfl rfl rfl rfl rfl rfl ?_; intro w9 b59 H9  -- 59 wire.go:58
    refine apO (Y := byteL) ap_Lbyte (K := [_]) (M := _) H9 ho8 (news := [UInt8.ofNat (sumB (bodyB e) / 256), UInt8.ofNat (sumB (bodyB e) % 256)]) rfl rfl rfl ?_ (by simp only [List.length_append, List.length_cons, List.length_nil]; omega) rfl ?_
    · have := Src.row (m := 2) (sz := 1) (H9.ent (i := 0) rfl) rfl
      have e1 : byteL.all [UInt8.ofNat (sumB (bodyB e) / 256), UInt8.ofNat (sumB (bodyB e) % 256)] = [.int .u8 (sumB (bodyB e) / 256 : Nat), .int .u8 (sumB (bodyB e) % 256 : Nat)] := by
        show [Value.int .u8 _, Value.int .u8 _] = _
        rw [u8n _ (by omega), u8n _ (by omega)]
      rw [e1]
      exact this
    intro A9 c9 w10 L9 hc9 _ ho9 H10
    refine asS rfl rfl ?_  -- 2 wire.go:58
    refine asI rfl rfl ?_  -- 3 wire.go:58
    refine lw_nil ?_
    refine cw_ret ?_
    refine fin2 rfl rfl rfl ⟨A9, c9, rfl, ?_, hc9, H10.below⟩
    exact ho9.rd H10
end Go.Proofs.Ytemnchkebhclpaa
end

section
namespace Go.Proofs.Ytemnchkebhclpaa
open Go Go.Eng Go.RowKit

/-- the number that is next, from its i-th byte on -/
def rn : Nat → Nat → List UInt8 → Nat × List UInt8 × Bool
  | _, _, [] => (0, [], true)
  | i, n, c :: l => if i = 5 then (0, c :: l, true) else if c.toNat < 128 then (n + c.toNat % 128 * 2 ^ (7 * i), l, decide (c.toNat = 0) && decide (0 < i)) else rn (i + 1) (n + c.toNat % 128 * 2 ^ (7 * i)) l
def rnB (l : List UInt8) (bad : Bool) : Nat × List UInt8 × Bool := if bad then (0, l, true) else rn 0 0 l

theorem or_shl {n x i : Nat} (hn : n < 2 ^ (7 * i)) : n ||| x * 2 ^ (7 * i) = n + x * 2 ^ (7 * i) := by
  have := Nat.two_pow_add_eq_or_of_lt hn x
  rw [Nat.or_comm, Nat.mul_comm, ← this, Nat.add_comm]

set_option maxRecDepth 4000 in
theorem rnumber_ok {w0 w : World} {F : List Fact} {M : List (Nat × Obj)} {b : Nat} {l : List UInt8} {A : Option Addr} {c : Nat} {bad : Bool} (H : Hp w0 w ((b, .cells #[.slice A l.length c, .bool bad] T_reader) :: M) F) (hr : Rd byteL 0 w0.heap.size A l w0) (hc : l.length ≤ c) :
    Ret Try.prog i_wire_reader_number [.pointer (some ⟨b, 0, none⟩)] w fun v w2 => v = .int .i64 ((rnB l bad).1 : Nat) ∧ ∃ A' c', Hp w0 w2 ((b, .cells #[.slice A' (rnB l bad).2.1.length c', .bool (rnB l bad).2.2] T_reader) :: M) F ∧ Rd byteL 0 w0.heap.size A' (rnB l bad).2.1 w0 ∧ (rnB l bad).2.1.length ≤ c' := by
  refine ret_of fn_wire_reader_number rfl rfl ?_
  refine cw_seq ?_
  refine cw_region ?_ -- region 0
  refine asI rfl rfl ?_  -- 2 wire.go:68
  refine lw_nil ?_
  refine cw_seq ?_
  refine cw_region ?_ -- region 1
  refine asI rfl rfl ?_  -- 3 wire.go:69
  refine lw_nil ?_
  refine cw_seq ?_
  refine cw_region ?_ -- region 2
  refine asI rfl rfl ?_  -- 4 wire.go:70
  refine lw_nil ?_
  refine cw_block ?_ -- block 0
  refine cw_loop (τ := Nat × Nat × List UInt8 × Bool) [2, 3, 4, 5, 6, 7, 8, 9, 10, 11, 12, 13, 14, 15, 16, 17, 18, 19, 20, 21, 22, 23, 24, 25, 26, 27, 28, 29, 30, 31, 32, 33, 34, 35, 36, 37, 38, 39, 40, 41, 42, 43, 44, 45, 46, 47, 48, 49, 50, 51, 52, 53, 54, 55, 56, 57, 58, 59, 60]
    (fun (i, n, _, _) => [(3, .int .i64 (n : Nat)), (4, .int .i64 (i : Nat))])
    (fun (i, n, l1, bad1) w' => i ≤ 5 ∧ n < 2 ^ (7 * i) ∧ (if bad1 then (0, l1, true) else rn i n l1) = rnB l bad ∧ ∃ A c, Hp w0 w' ((b, .cells #[.slice A l1.length c, .bool bad1] T_reader) :: M) F ∧ Rd byteL 0 w0.heap.size A l1 w0 ∧ l1.length ≤ c) (fun (_, _, l1, _) => l1.length) (0, 0, l, bad) ⟨by omega, by decide, rfl, A, c, H, hr, hc⟩ (sl2 rfl rfl) ?_ -- LOOP
  rintro ⟨i, n, l1, bad1⟩ ρ1 w1 ⟨hi5, hn, hrn, A1, c1, H, hr, hc⟩
  show CW _ _ _ _ (updL (ovr _ _ ρ1) [(3, .int .i64 (n : Nat)), (4, .int .i64 (i : Nat))]) w1
  refine cw_seq ?_
  refine cw_block ?_ -- block 1
  refine cw_seq ?_
  refine cw_seq ?_
  refine cw_region ?_ -- region 4
  refine mvP rfl rfl ?_  -- 8 wire.go:71
  refine nck rfl rfl ?_  -- 9 wire.go:71
  refine fad fd_reader_1 rfl rfl ?_  -- 10 wire.go:71
  refine ldE H 0 one_bool rfl rfl rfl rfl ?_  -- 11 wire.go:71
  refine mvB rfl rfl ?_  -- 12 wire.go:71
  by_cases hstop : bad1 = true ∨ l1 = [] ∨ i = 5
  · have hres : rnB l bad = (0, l1, true) := by
      rw [← hrn]
      rcases hstop with h | h | h
      · rw [if_pos h]
      · subst h; split <;> rfl
      · subst h; split
        · rfl
        · cases l1 <;> simp [rn]
    cases bad1
    · refine lwG rfl ?_
      refine mvP rfl rfl ?_  -- 13 wire.go:71
      refine lwG rfl ?_
      refine nck rfl rfl ?_  -- 14 wire.go:71
      refine lwG rfl ?_
      refine fad fd_reader_0 rfl rfl ?_  -- 15 wire.go:71
      refine lwG rfl ?_
      refine ldE H 0 one_Lbyte rfl rfl rfl rfl ?_  -- 16 wire.go:71
      refine lwG rfl ?_
      refine lenS len_Lbyte rfl rfl ?_  -- 17 wire.go:71
      refine lwG rfl ?_
      by_cases hl : l1 = []
      · refine eqlT rfl rfl (by rw [hl]; rfl) rfl ?_
        refine pkFB rfl rfl rfl ?_ -- or pkFB  -- 19 wire.go:71
        refine mvB rfl rfl ?_  -- 20 wire.go:71
        iterate 2 refine lwN rfl rfl rfl ?_
        refine pkTB rfl rfl rfl ?_ -- or pkFB  -- 23 wire.go:71
        refine lw_nil ?_
        refine cw_true rfl ?_
        refine cw_seq ?_
        refine cw_region ?_ -- region 5
        refine mvP rfl rfl ?_  -- 24 wire.go:72
        refine nck rfl rfl ?_  -- 25 wire.go:72
        refine fad fd_reader_1 rfl rfl ?_  -- 26 wire.go:72
        refine stB H 0 siz_bool rfl rfl rfl (by simp) ?_; intro w2 H2
        refine lw_nil ?_
        refine cw_seq ?_
        refine cw_region ?_ -- region 6
        refine asI rfl rfl ?_  -- 2 wire.go:73
        refine lw_nil ?_
        refine cw_ret ?_
        rw [hres]
        exact fin1 (v := .int .i64 0) rfl rfl ⟨rfl, A1, c1, H2, hr, hc⟩
      · have hi : i = 5 := by
          rcases hstop with h | h | h
          · cases h
          · exact absurd h hl
          · exact h
        have hl0 : l1.length ≠ 0 := fun h => hl (List.eq_nil_of_length_eq_zero h)
        refine eqlF rfl rfl (by omega) rfl ?_
        refine pkFB rfl rfl rfl ?_ -- or pkFB  -- 19 wire.go:71
        refine mvB rfl rfl ?_  -- 20 wire.go:71
        refine lwG rfl ?_
        refine mvI rfl rfl ?_  -- 21 wire.go:71
        refine lwG rfl ?_
        refine eqlT rfl rfl (by omega) rfl ?_
        refine pkFB rfl rfl rfl ?_ -- or pkFB  -- 23 wire.go:71
        refine lw_nil ?_
        refine cw_true rfl ?_
        refine cw_seq ?_
        refine cw_region ?_ -- region 5
        refine mvP rfl rfl ?_  -- 24 wire.go:72
        refine nck rfl rfl ?_  -- 25 wire.go:72
        refine fad fd_reader_1 rfl rfl ?_  -- 26 wire.go:72
        refine stB H 0 siz_bool rfl rfl rfl (by simp) ?_; intro w2 H2
        refine lw_nil ?_
        refine cw_seq ?_
        refine cw_region ?_ -- region 6
        refine asI rfl rfl ?_  -- 2 wire.go:73
        refine lw_nil ?_
        refine cw_ret ?_
        rw [hres]
        exact fin1 (v := .int .i64 0) rfl rfl ⟨rfl, A1, c1, H2, hr, hc⟩
    · iterate 6 refine lwN rfl rfl rfl ?_
      refine pkTB rfl rfl rfl ?_ -- or pkFB  -- 19 wire.go:71
      refine mvB rfl rfl ?_  -- 20 wire.go:71
      iterate 2 refine lwN rfl rfl rfl ?_
      refine pkTB rfl rfl rfl ?_ -- or pkFB  -- 23 wire.go:71
      refine lw_nil ?_
      refine cw_true rfl ?_
      refine cw_seq ?_
      refine cw_region ?_ -- region 5
      refine mvP rfl rfl ?_  -- 24 wire.go:72
      refine nck rfl rfl ?_  -- 25 wire.go:72
      refine fad fd_reader_1 rfl rfl ?_  -- 26 wire.go:72
      refine stB H 0 siz_bool rfl rfl rfl (by simp) ?_; intro w2 H2
      refine lw_nil ?_
      refine cw_seq ?_
      refine cw_region ?_ -- region 6
      refine asI rfl rfl ?_  -- 2 wire.go:73
      refine lw_nil ?_
      refine cw_ret ?_
      rw [hres]
      exact fin1 (v := .int .i64 0) rfl rfl ⟨rfl, A1, c1, H2, hr, hc⟩
  · have hb1 : bad1 = false := by
      cases bad1
      · rfl
      · exact absurd (.inl rfl) hstop
    subst hb1
    have hi : i < 5 := by
      have : i ≠ 5 := fun h => hstop (.inr (.inr h))
      omega
    obtain ⟨x, l2, rfl⟩ : ∃ x l2, l1 = x :: l2 := by
      cases l1 with
      | nil => exact absurd (.inr (.inl rfl)) hstop
      | cons x l2 => exact ⟨x, l2, rfl⟩
    have hx : x.toNat < 256 := UInt8.toNat_lt _
    obtain ⟨bb, o, rfl, -, hbl, hcl⟩ := hr.at_ (k := 0) (by simp)
    rw [if_neg (by decide), rn, if_neg (by omega)] at hrn
    have h7 : 2 ^ (7 * i) ≤ 2 ^ 28 := Nat.pow_le_pow_right (by decide) (by omega)
    have hmod : x.toNat % 128 < 128 := Nat.mod_lt _ (by decide)
    have hmul : x.toNat % 128 * 2 ^ (7 * i) ≤ 128 * 2 ^ 28 := Nat.mul_le_mul (by omega) h7
    have h71 : 2 ^ (7 * (i + 1)) = 128 * 2 ^ (7 * i) := by rw [Nat.mul_add, Nat.pow_add]; omega
    have hmul2 : x.toNat % 128 * 2 ^ (7 * i) ≤ 127 * 2 ^ (7 * i) := Nat.mul_le_mul_right _ (by omega)
    refine lwG rfl ?_
    refine mvP rfl rfl ?_  -- 13 wire.go:71
    refine lwG rfl ?_
    refine nck rfl rfl ?_  -- 14 wire.go:71
    refine lwG rfl ?_
    refine fad fd_reader_0 rfl rfl ?_  -- 15 wire.go:71
    refine lwG rfl ?_
    refine ldE H 0 one_Lbyte rfl rfl rfl rfl ?_  -- 16 wire.go:71
    refine lwG rfl ?_
    refine lenS len_Lbyte rfl rfl ?_  -- 17 wire.go:71
    refine lwG rfl ?_
    refine eqlF rfl rfl (by simp; omega) rfl ?_
    refine pkFB rfl rfl rfl ?_ -- or pkFB  -- 19 wire.go:71
    refine mvB rfl rfl ?_  -- 20 wire.go:71
    refine lwG rfl ?_
    refine mvI rfl rfl ?_  -- 21 wire.go:71
    refine lwG rfl ?_
    refine eqlF rfl rfl (by omega) rfl ?_
    refine pkFB rfl rfl rfl ?_ -- or pkFB  -- 23 wire.go:71
    refine lw_nil ?_
    refine cw_false rfl ?_
    refine cw_skip ?_
    refine cw_seq ?_
    refine cw_region ?_ -- region 7
    refine mvP rfl rfl ?_  -- 27 wire.go:75
    refine nck rfl rfl ?_  -- 28 wire.go:75
    refine fad fd_reader_0 rfl rfl ?_  -- 29 wire.go:75
    refine ldE H 0 one_Lbyte rfl rfl rfl rfl ?_  -- 30 wire.go:75
    refine ixa sl_Lbyte rfl rfl (by omega) (by simp) rfl ?_  -- 31 wire.go:75
    refine ld one_byte rfl ((H.below.cell (p := ⟨bb, _, none⟩) hbl).trans (hcl 0 _ rfl)) rfl ?_  -- 32 wire.go:75
    refine cvI int_byte int_int rfl (wrapN (n := x.toNat) (by omega)) rfl ?_  -- 33 wire.go:75
    refine asI rfl rfl ?_  -- 5 wire.go:75
    refine lw_nil ?_
    refine cw_seq ?_
    refine cw_region ?_ -- region 8
    refine mvP rfl rfl ?_  -- 34 wire.go:76
    refine mvP rfl rfl ?_  -- 35 wire.go:76
    refine nck rfl rfl ?_  -- 36 wire.go:76
    refine fad fd_reader_0 rfl rfl ?_  -- 37 wire.go:76
    refine ldE H 0 one_Lbyte rfl rfl rfl rfl ?_  -- 38 wire.go:76
    refine sliLo sl_Lbyte rfl rfl (by omega) (by simp; omega) hc rfl ?_; intro A39 hA39  -- 39 wire.go:76
    refine nck rfl rfl ?_  -- 40 wire.go:76
    refine fad fd_reader_0 rfl rfl ?_  -- 41 wire.go:76
    refine stS H 0 siz_Lbyte rfl rfl rfl (by simp) ?_; intro w2 H2
    have hr2 : Rd byteL 0 w0.heap.size A39 l2 w0 := hr.from_ (k := 1) hA39 (fun h => h)
    have H : Hp w0 w2 ((b, .cells #[.slice A39 l2.length (c1 - 1), .bool false] T_reader) :: M) F := H2
    have hc2 : l2.length ≤ c1 - 1 := by simp only [List.length_cons] at hc; omega
    refine lw_nil ?_
    refine cw_seq ?_
    refine cw_region ?_ -- region 9
    refine mvI rfl rfl ?_  -- 42 wire.go:77
    refine mvI rfl rfl ?_  -- 43 wire.go:77
    refine l1 (and_r (a := x.toNat) (b := 127) rfl rfl (by omega) (by omega)) rfl rfl rfl ?_
    rw [and127]
    refine mvI rfl rfl ?_  -- 45 wire.go:77
    refine mul rfl rfl (by omega) (by omega) rfl ?_  -- 46 wire.go:77
    refine l1 (shl_r (a := x.toNat % 128) (b := 7 * i) (k := .i64) rfl (by simp; rfl) (by omega) (by omega)) rfl rfl rfl ?_
    refine l1 (or_r (a := n) (b := x.toNat % 128 * 2 ^ (7 * i)) rfl rfl (by omega) (by omega)) rfl rfl rfl ?_
    rw [or_shl hn]
    refine asI rfl rfl ?_  -- 3 wire.go:77
    refine lw_nil ?_
    refine cw_seq ?_
    refine cw_region ?_ -- region 10
    refine mvI rfl rfl ?_  -- 49 wire.go:78
    refine lssS rfl rfl rfl (fun h50 => ?_) (fun h50 => ?_)  -- 50 wire.go:78
    all_goals refine lw_nil ?_
    -- IF slot 50
    · rw [if_pos (by omega)] at hrn
      refine cw_true rfl ?_
      refine cw_seq ?_
      refine cw_region ?_ -- region 11
      refine mvP rfl rfl ?_  -- 51 wire.go:79
      refine mvI rfl rfl ?_  -- 52 wire.go:79
      by_cases hx0 : x.toNat = 0
      · refine eqlT rfl rfl (by omega) rfl ?_
        refine mvB rfl rfl ?_  -- 54 wire.go:79
        refine lwG rfl ?_
        refine mvI rfl rfl ?_  -- 55 wire.go:79
        refine lwG rfl ?_
        refine l1 (gtr_r (a := (i : Int)) (b := 0) rfl rfl) rfl rfl rfl ?_
        refine pkTB rfl rfl rfl ?_ -- or pkFB  -- 57 wire.go:79
        refine nck rfl rfl ?_  -- 58 wire.go:79
        refine fad fd_reader_1 rfl rfl ?_  -- 59 wire.go:79
        refine stB H 0 siz_bool rfl rfl rfl (by simp) ?_; intro w3 H3
        refine lw_nil ?_
        refine cw_seq ?_
        refine cw_region ?_ -- region 12
        refine mvI rfl rfl ?_  -- 60 wire.go:80
        refine asI rfl rfl ?_  -- 2 wire.go:80
        refine lw_nil ?_
        refine cw_ret ?_
        rw [← hrn]
        have e : (decide (x.toNat = 0) && decide (0 < i)) = decide ((0 : Int) < i) := by
          rw [decide_eq_true hx0, Bool.true_and]; exact decide_eq_decide.2 (by omega)
        rw [e]
        exact fin1 (v := .int .i64 (n + x.toNat % 128 * 2 ^ (7 * i) : Nat)) rfl rfl ⟨rfl, A39, c1 - 1, H3, hr2, hc2⟩
      · refine eqlF rfl rfl (by omega) rfl ?_
        refine mvB rfl rfl ?_  -- 54 wire.go:79
        iterate 2 refine lwN rfl rfl rfl ?_
        refine pkFB rfl rfl rfl ?_ -- or pkFB  -- 57 wire.go:79
        refine nck rfl rfl ?_  -- 58 wire.go:79
        refine fad fd_reader_1 rfl rfl ?_  -- 59 wire.go:79
        refine stB H 0 siz_bool rfl rfl rfl (by simp) ?_; intro w3 H3
        refine lw_nil ?_
        refine cw_seq ?_
        refine cw_region ?_ -- region 12
        refine mvI rfl rfl ?_  -- 60 wire.go:80
        refine asI rfl rfl ?_  -- 2 wire.go:80
        refine lw_nil ?_
        refine cw_ret ?_
        rw [← hrn]
        have e : (decide (x.toNat = 0) && decide (0 < i)) = false := by rw [decide_eq_false hx0]; rfl
        rw [e]
        exact fin1 (v := .int .i64 (n + x.toNat % 128 * 2 ^ (7 * i) : Nat)) rfl rfl ⟨rfl, A39, c1 - 1, H3, hr2, hc2⟩
    · rw [if_neg (by omega)] at hrn
      refine cw_false rfl ?_
      refine cw_skip ?_
      refine cw_region ?_ -- region 3
      refine mvI rfl rfl ?_  -- 6 wire.go:70
      refine add rfl rfl (by omega) (by omega) rfl ?_  -- 7 wire.go:70
      refine asI rfl rfl ?_  -- 4 wire.go:70
      refine lw_nil ?_
      refine ⟨(i + 1, n + x.toNat % 128 * 2 ^ (7 * i), l2, false), ⟨by omega, by rw [h71]; omega, by rw [← hrn]; rfl, A39, c1 - 1, H, hr2, hc2⟩, sl2 rfl rfl, by repeat (first | exact agr_ovr | refine agr_upd rfl ?_ | refine agr_updL _ rfl ?_), by show l2.length < l2.length + 1; omega⟩
end Go.Proofs.Ytemnchkebhclpaa
end

section
namespace Go.Proofs.Ytemnchkebhclpaa
open Go Go.Eng Go.RowKit

/-- an entry out of a body -/
def bodyE (c : UInt8) (l : List UInt8) : Ent × Bool :=
  let q1 := rnB l false
  let q2 := rnB q1.2.1 q1.2.2
  let q3 := rnB q2.2.1 q2.2.2
  let q4 := rnB q3.2.1 q3.2.2
  (⟨(q1.1 : Nat), (q2.1 : Nat), (q3.1 : Nat), (q4.1 : Nat), (c.toNat &&& 15 : Nat), !decide (((c.toNat &&& 16 : Nat) : Int) = 0), ⟨q4.2.1.toArray⟩⟩, q4.2.2)
def bodyOk (c : UInt8) (l : List UInt8) : Bool := !(bodyE c l).2 && decide (c.toNat < 32) && decide (entCheck (bodyE c l).1 = 0)

set_option maxRecDepth 10000 in
theorem body_ok (c0 : UInt8) (l : List UInt8) (A : Option Addr) (c : Nat) (w : World) (hr : Rd byteL 0 w.heap.size A (c0 :: l) w) (hc : (c0 :: l).length ≤ c) :
    Ret Try.prog i_wire_body [.slice A (c0 :: l).length c] w fun v w2 => v = .tuple #[(bodyE c0 l).1.v, .bool (bodyOk c0 l)] ∧ Below w.heap.size w w2 := by
  obtain ⟨bb, o, rfl, -, hbl, hcl⟩ := hr.at_ (k := 0) (by simp)
  have hc0 : c0.toNat < 256 := UInt8.toNat_lt _
  refine ret_of fn_wire_body rfl rfl ?_
  have H := Hp.start w
  refine cw_seq ?_
  refine cw_region ?_ -- region 0
  refine alo H z_Entry rfl ?_; intro w1 b2 H  -- 2 wire.go:86
  refine asB rfl rfl ?_  -- 3 wire.go:86
  refine lw_nil ?_
  refine cw_seq ?_
  refine cw_region ?_ -- region 1
  refine mvS rfl rfl ?_  -- 6 wire.go:87
  refine sliLo sl_Lbyte rfl rfl (by omega) (by simp; omega) hc rfl ?_; intro A7 hA7  -- 7 wire.go:87
  have hr7 : Rd byteL 0 w.heap.size A7 l w := hr.from_ (k := 1) hA7 (fun h => h)
  have hc7 : l.length ≤ c - 1 := by simp only [List.length_cons] at hc; omega
  refine l1 (v := .agg #[.slice A7 l.length (c - 1), .bool false]) (bld_r st_reader z_reader rfl) rfl rfl rfl ?_
  refine bxA H rfl rfl ?_; intro w2 b9 H  -- 9 wire.go:87
  refine asP rfl rfl ?_  -- 4 wire.go:87
  refine lw_nil ?_
  refine cw_seq ?_
  have hcl2 := fun (w' : World) (hw' : Aft w2 w') => ((H.later hw').below.cell (p := ⟨bb, _, none⟩) hbl).trans (hcl 0 _ rfl)
  refine cw_draw mixed [0, 1, 2, 3, 4, 5, 6, 7, 8, 9, 10, 11] [12] [11] [0, 1, 3, 4, 5, 6, 8, 9, 10] (sp [(11, Sp.blk w2.heap.size (.agg #[.int .i64 0, .int .i64 0, .int .i64 0, .int .i64 0, .int .i64 0, .bool false, .string ⟨#[]⟩]) T_Entry)]) (by kernel_rfl) (by kernel_rfl) (by kernel_rfl) (by kernel_rfl) (fun _ _ _ h => h) (sp_st _) ?_
  refine aw rfl rfl rfl rfl rfl (fun _ _ => mv_r rfl) ?_  -- 10 wire.go:88
  refine aw rfl rfl rfl rfl rfl (fun _ _ => ixa_r sl_Lbyte rfl rfl (by omega) (by simp)) ?_  -- 11 wire.go:88
  refine aw rfl rfl rfl rfl rfl (fun w' hw' => ld_r one_byte rfl (hcl2 w' hw')) ?_  -- 12 wire.go:88
  refine aw rfl rfl rfl rfl rfl (fun _ _ => and8_r (a := c0.toNat) (b := 15) rfl rfl (by omega) (by omega)) ?_
  refine aw rfl rfl rfl rfl rfl (fun _ _ => cvI_r int_byte int_int rfl (wrapN (n := c0.toNat &&& 15) (Nat.le_of_lt (and_lt (by omega))))) ?_  -- 14 wire.go:88
  refine aw rfl rfl rfl rfl rfl (fun _ _ => mv_r rfl) ?_  -- 15 wire.go:88
  refine aw rfl rfl rfl rfl rfl (fun _ _ => ixa_r sl_Lbyte rfl rfl (by omega) (by simp)) ?_  -- 16 wire.go:88
  refine aw rfl rfl rfl rfl rfl (fun w' hw' => ld_r one_byte rfl (hcl2 w' hw')) ?_  -- 17 wire.go:88
  refine aw rfl rfl rfl rfl rfl (fun _ _ => and8_r (a := c0.toNat) (b := 16) rfl rfl (by omega) (by omega)) ?_
  refine aw rfl rfl rfl rfl rfl (fun _ _ => neq_r (k := .u8) (a := ((c0.toNat &&& 16 : Nat) : Int)) (b := 0) rfl rfl) ?_  -- slot 19
  refine aw (v := .agg (Ent.c ⟨0, 0, 0, 0, (c0.toNat &&& 15 : Nat), !decide (((c0.toNat &&& 16 : Nat) : Int) = 0), ⟨#[]⟩⟩).toArray) rfl rfl rfl rfl rfl (fun _ _ => bld_r st_Entry z_Entry rfl) ?_
  refine awAlo z_Entry rfl rfl rfl rfl (fun w' w2 b hC hb hh => ⟨b, rfl, Nat.le_trans hC.size hb, hh⟩) ?_
  rintro _ ⟨_, _, b5, rfl, _, _⟩
  refine aw_nil ?_
  rintro w3 hw3 ⟨-, b, he, hge, hb5⟩
  cases he
  replace H := (H.adoptNew hw3 hb5 hge).swap
  refine stW H 1 siz_Entry rfl rfl rfl rfl rfl rfl ?_; intro w4 H  -- None wire.go:88
  refine lw_nil ?_
  refine cw_seq ?_
  refine cw_region ?_ -- region 3
  refine mvP rfl rfl ?_  -- 21 wire.go:89
  refine cal cb_wire_reader_number (rnumber_ok (l := l) (bad := false) H hr7 hc7) rfl rfl ?_; rintro _ w5 ⟨rfl, A1, c1, H1, hr1, hc1⟩
  refine mvP rfl rfl ?_  -- 23 wire.go:89
  refine cal cb_wire_reader_number (rnumber_ok H1 hr1 hc1) rfl rfl ?_; rintro _ w6 ⟨rfl, A2, c2, H2, hr2, hc2⟩
  refine mvP rfl rfl ?_  -- 25 wire.go:89
  refine cal cb_wire_reader_number (rnumber_ok H2 hr2 hc2) rfl rfl ?_; rintro _ w7 ⟨rfl, A3, c3, H3, hr3, hc3⟩
  refine mvP rfl rfl ?_  -- 27 wire.go:89
  refine cal cb_wire_reader_number (rnumber_ok H3 hr3 hc3) rfl rfl ?_; rintro _ w8 ⟨rfl, A4, c4, H4, hr4, hc4⟩
  generalize hE : bodyE c0 l = E
  have hEE : E = _ := hE.symm
  unfold bodyE at hEE
  simp only at hEE
  generalize hq1 : rnB l false = q1 at *
  generalize hq2 : rnB q1.2.1 q1.2.2 = q2 at *
  generalize hq3 : rnB q2.2.1 q2.2.2 = q3 at *
  generalize hq4 : rnB q3.2.1 q3.2.2 = q4 at *
  obtain ⟨n1, l1, x1⟩ := q1
  obtain ⟨n2, l2, x2⟩ := q2
  obtain ⟨n3, l3, x3⟩ := q3
  obtain ⟨n4, l4, x4⟩ := q4
  dsimp only at *
  clear H H1 H2 H3 hr1 hr2 hr3 hc1 hc2 hc3 hq1 hq2 hq3 hq4
  refine fad fd_Entry_0 rfl rfl ?_  -- 29 wire.go:89
  refine stI H4 1 siz_int rfl rfl rfl (Nat.le_of_ble_eq_true rfl) ?_; intro w9 H  -- None wire.go:89
  refine fad fd_Entry_1 rfl rfl ?_  -- 30 wire.go:89
  refine stI H 1 siz_int rfl rfl rfl (Nat.le_of_ble_eq_true rfl) ?_; intro w10 H  -- None wire.go:89
  refine fad fd_Entry_2 rfl rfl ?_  -- 31 wire.go:89
  refine stI H 1 siz_int rfl rfl rfl (Nat.le_of_ble_eq_true rfl) ?_; intro w11 H  -- None wire.go:89
  refine fad fd_Entry_3 rfl rfl ?_  -- 32 wire.go:89
  refine stI H 1 siz_int rfl rfl rfl (Nat.le_of_ble_eq_true rfl) ?_; intro w12 H  -- None wire.go:89
  refine lw_nil ?_
  refine cw_seq ?_
  refine cw_region ?_ -- region 4
  refine mvP rfl rfl ?_  -- 33 wire.go:90
  refine nck rfl rfl ?_  -- 34 wire.go:90
  refine fad fd_reader_0 rfl rfl ?_  -- 35 wire.go:90
  refine ldE H 0 one_Lbyte rfl rfl rfl rfl ?_  -- 36 wire.go:90
  refine Go.Eng.l1 (cvBT_r sl_Lbyte int_byte str_string rfl rfl (fun _ => rfl) (hr4.below H.below)) rfl rfl rfl ?_
  refine fad fd_Entry_6 rfl rfl ?_  -- 38 wire.go:90
  refine stT H 1 siz_string rfl rfl rfl (Nat.le_of_ble_eq_true rfl) ?_; intro w13 H  -- None wire.go:90
  refine lw_nil ?_
  have H : Hp w w13 [(b9, .cells #[.slice A4 l4.length c4, .bool x4] T_reader), (b5, .cells E.1.c.toArray T_Entry), (b2, .cells (Ent.c ⟨0, 0, 0, 0, 0, false, ⟨#[]⟩⟩).toArray T_Entry)] [] := by rw [hEE]; exact H
  have hx4 : E.2 = x4 := by rw [hEE]
  have hcl3 := fun (w' : World) (hw' : Aft w13 w') => ((H.later hw').below.cell (p := ⟨bb, _, none⟩) hbl).trans (hcl 0 _ rfl)
  obtain ⟨E, x5⟩ := E
  dsimp only at *
  subst hx4
  clear hEE
  refine cw_seq ?_
  refine cw_draw mixed [0, 1, 2, 3, 4, 5, 6, 7, 8, 9, 10, 11, 12, 13, 14, 15, 16] [17, 18] [14] [1, 2, 3, 5, 6, 7, 8, 10, 11, 12, 15, 16] (sp [(14, Sp.one (.int .i64 (entCheck E)))]) (by kernel_rfl) (by kernel_rfl) (by kernel_rfl) (by kernel_rfl) (fun _ _ _ h => h) (sp_st _) ?_
  refine aw rfl rfl rfl rfl rfl (fun w' hw' => ldW_r agg_Entry rfl ((H.later hw').ent (i := 1) rfl) rfl) ?_
  refine aw rfl rfl rfl rfl rfl (fun _ _ => mv_r rfl) ?_  -- 40 wire.go:91
  refine aw rfl rfl rfl rfl rfl (fun _ _ => nck_r rfl) ?_  -- 41 wire.go:91
  refine aw rfl rfl rfl rfl rfl (fun _ _ => fad_r fd_reader_1 rfl) ?_  -- 42 wire.go:91
  refine aw rfl rfl rfl rfl rfl (fun w' hw' => ld_r one_bool rfl (cellE ((H.later hw').ent (i := 0) rfl) rfl)) ?_  -- 43 wire.go:91
  refine aw rfl rfl rfl rfl rfl (fun _ _ => not_r rfl) ?_  -- 44 wire.go:91
  refine aw rfl rfl rfl rfl rfl (fun _ _ => mv_r rfl) ?_  -- 45 wire.go:91
  have hob : bodyOk c0 l = (!x5 && decide (c0.toNat < 32) && decide (entCheck E = 0)) := by unfold bodyOk; rw [hE]
  rw [hob]
  cases x5
  · refine aw rfl rfl rfl rfl rfl (fun _ _ => mv_r rfl) ?_  -- 46 wire.go:91
    refine aw rfl rfl rfl rfl rfl (fun _ _ => ixa_r sl_Lbyte rfl rfl (by omega) (by simp)) ?_  -- 47 wire.go:91
    refine aw rfl rfl rfl rfl rfl (fun w' hw' => ld_r one_byte rfl (hcl3 w' hw')) ?_  -- 48 wire.go:91
    refine aw rfl rfl rfl rfl rfl (fun _ _ => lss_r (k := .u8) (a := (c0.toNat : Int)) (b := 32) rfl rfl) ?_  -- slot 49
    refine aw rfl rfl rfl rfl rfl (fun _ _ => pkT_r rfl rfl) ?_ -- or pkFB  -- 50 wire.go:91
    refine aw rfl rfl rfl rfl rfl (fun _ _ => mv_r rfl) ?_  -- 51 wire.go:91
    have h32 : decide ((c0.toNat : Int) < 32) = decide (c0.toNat < 32) := decide_eq_decide.2 (by omega)
    rw [h32]
    cases h : decide (c0.toNat < 32)
    · iterate 3 refine awN rfl rfl rfl rfl ?_
      refine aw rfl rfl rfl rfl rfl (fun _ _ => pkF_r rfl rfl) ?_ -- or pkFB  -- 55 wire.go:91
      refine aw_nil ?_
      intro w' hw' hF; replace H := H.later hw'; clear hw'
      refine stW H 2 siz_Entry rfl rfl rfl rfl rfl rfl ?_; intro w15 H  -- None wire.go:91
      refine asB rfl rfl ?_
      refine lw_nil ?_
      refine cw_ret ?_
      exact finCT rfl agg_Entry rfl (H.ent (i := 2) rfl) rfl rfl ⟨rfl, H.below⟩
    · refine aw rfl rfl rfl rfl rfl (fun w' hw' => ldW_r agg_Entry rfl ((H.later hw').ent (i := 1) rfl) rfl) ?_
      refine awCal cb_wire_Check rfl rfl rfl rfl (fun w' _ => (wcheck_ok E w').mono (fun v w2 ⟨h1, h2⟩ => ⟨h2, h1⟩)) rfl ?_
      rintro _ ⟨_, _, rfl⟩
      refine aw rfl rfl rfl rfl rfl (fun _ _ => eql_r rfl rfl) ?_  -- slot 54
      refine aw rfl rfl rfl rfl rfl (fun _ _ => pkT_r rfl rfl) ?_ -- or pkFB  -- 55 wire.go:91
      refine aw_nil ?_
      intro w' hw' hF; replace H := H.later hw'; clear hw'
      refine stW H 2 siz_Entry rfl rfl rfl rfl rfl rfl ?_; intro w15 H  -- None wire.go:91
      refine asB rfl rfl ?_
      refine lw_nil ?_
      refine cw_ret ?_
      exact finCT rfl agg_Entry rfl (H.ent (i := 2) rfl) rfl rfl ⟨rfl, H.below⟩
  · iterate 4 refine awN rfl rfl rfl rfl ?_
    refine aw rfl rfl rfl rfl rfl (fun _ _ => pkF_r rfl rfl) ?_ -- or pkFB  -- 50 wire.go:91
    refine aw rfl rfl rfl rfl rfl (fun _ _ => mv_r rfl) ?_  -- 51 wire.go:91
    iterate 3 refine awN rfl rfl rfl rfl ?_
    refine aw rfl rfl rfl rfl rfl (fun _ _ => pkF_r rfl rfl) ?_ -- or pkFB  -- 55 wire.go:91
    refine aw_nil ?_
    intro w' hw' hF; replace H := H.later hw'; clear hw'
    refine stW H 2 siz_Entry rfl rfl rfl rfl rfl rfl ?_; intro w15 H  -- None wire.go:91
    refine asB rfl rfl ?_
    refine lw_nil ?_
    refine cw_ret ?_
    exact finCT rfl agg_Entry rfl (H.ent (i := 2) rfl) rfl rfl ⟨rfl, H.below⟩
end Go.Proofs.Ytemnchkebhclpaa
end

section
namespace Go.Proofs.Ytemnchkebhclpaa
open Go Go.Eng Go.RowKit

/-- the entry that is first, and how many bytes it takes -/
def step : List UInt8 → Option (Ent × Nat)
  | [] => none
  | n :: r =>
    if n.toNat = 0 ∨ r.length < n.toNat + 2 then none
    else if sumB (r.take n.toNat) ≠ (r.getD n.toNat 0).toNat * 256 + (r.getD (n.toNat + 1) 0).toNat then none
    else if bodyOk (r.headD 0) (r.take n.toNat).tail = true then some ((bodyE (r.headD 0) (r.take n.toNat).tail).1, n.toNat + 3) else none
/-- what Decode makes of bytes -/
inductive Dec : List UInt8 → List Ent → Nat → Prop
  | stop {l : List UInt8} (h : step l = none) : Dec l [] 0
  | go {l : List UInt8} {e : Ent} {k n : Nat} {es : List Ent} (h : step l = some (e, k)) (hd : Dec (l.drop k) es n) : Dec l (e :: es) (k + n)

theorem or_lo {a b : Nat} (hb : b < 256) : a * 2 ^ 8 ||| b = a * 256 + b := by
  have := Nat.two_pow_add_eq_or_of_lt (i := 8) (b := b) (by simpa using hb) a
  rw [Nat.mul_comm, ← this]
theorem step_le {l : List UInt8} {e : Ent} {k : Nat} (h : step l = some (e, k)) : 4 ≤ k ∧ k ≤ l.length := by
  cases l with
  | nil => cases h
  | cons n r =>
    simp only [step] at h
    split at h; · cases h
    split at h; · cases h
    split at h
    · injection h with h; injection h with h1 h2
      rename_i h3 _ _
      simp only [List.length_cons]
      omega
    · cases h

set_option maxRecDepth 10000 in
theorem decode_ok (l : List UInt8) (A : Option Addr) (c : Nat) (w : World) (hr : Rd byteL 0 w.heap.size A l w) (hc : l.length ≤ c) (hbd : l.length ≤ 1000000000000) :
    Ret Try.prog i_wire_Decode [.slice A l.length c] w fun v w2 => ∃ es n A' c', v = .tuple #[.slice A' es.length c', .int .i64 (n : Nat)] ∧ Dec l es n ∧ Rd entL w.heap.size w2.heap.size A' es w2 ∧ es.length ≤ c' ∧ Below w.heap.size w w2 := by
  refine ret_of fn_wire_Decode rfl rfl ?_
  have H := Hp.start w
  refine cw_seq ?_
  refine cw_region ?_ -- region 0
  refine asS rfl rfl ?_  -- 2 wire.go:95
  refine asI rfl rfl ?_  -- 3 wire.go:95
  refine lw_nil ?_
  refine cw_seq ?_
  refine cw_region ?_ -- region 1
  refine asS rfl rfl ?_  -- 4 wire.go:96
  refine lw_nil ?_
  refine cw_seq ?_
  refine cw_region ?_ -- region 2
  refine asI rfl rfl ?_  -- 5 wire.go:97
  refine lw_nil ?_
  refine cw_seq ?_
  refine cw_block ?_ -- block 0
  refine cw_loop (τ := Nat × List Ent × Option Addr × Nat) [4, 5, 6, 7, 8, 9, 10, 11, 12, 13, 14, 15, 16, 17, 18, 19, 20, 21, 22, 23, 24, 25, 26, 27, 28, 29, 30, 31, 32, 33, 34, 35, 36, 37, 38, 39, 40, 41, 42, 43, 44, 45, 46, 47, 48, 49, 50, 51, 52, 53, 54, 55, 56, 57, 58, 59, 60, 61, 62, 63, 64, 65, 66, 67, 68, 69, 70, 71, 72, 73]
    (fun (at_, out, A1, c1) => [(4, .slice A1 out.length c1), (5, .int .i64 (at_ : Nat))])
    (fun (at_, out, A1, c1) w' => at_ ≤ l.length ∧ out.length ≤ at_ ∧ (∀ es n, Dec (l.drop at_) es n → Dec l (out ++ es) (at_ + n)) ∧ ∃ L', Own entL (.slice A1 out.length c1) T_Entry out L' ∧ Hp w w' ([] ++ L' ++ []) [])
    (fun (at_, _, _, _) => l.length - at_) (0, [], none, 0) ⟨by omega, by simp, fun es n h => by simpa using h, [], Own.nil, H⟩ (sl2 rfl rfl) ?_ -- LOOP
  rintro ⟨at_, out, A1, c1⟩ ρ1 w1 ⟨hat, hout, hdec, L1, ho, H⟩
  show CW _ _ _ _ (updL (ovr _ _ ρ1) [(4, .slice A1 out.length c1), (5, .int .i64 (at_ : Nat))]) w1
  have hfin : ∀ {w2 : World}, step (l.drop at_) = none → Hp w w2 ([] ++ L1 ++ []) [] → ∃ es n A' c', (Value.tuple #[.slice A1 out.length c1, .int .i64 (at_ : Nat)]) = .tuple #[.slice A' es.length c', .int .i64 (n : Nat)] ∧ Dec l es n ∧ Rd entL w.heap.size w2.heap.size A' es w2 ∧ es.length ≤ c' ∧ Below w.heap.size w w2 := fun hs H => by
    have hd := hdec [] 0 (.stop hs)
    rw [List.append_nil, Nat.add_zero] at hd
    obtain ⟨A2, c2, he, hlc, -⟩ := ho.form
    injection he with h1 h2 h3
    subst h3
    exact ⟨out, at_, A1, c1, rfl, hd, ho.rd H, hlc, H.below⟩
  refine cw_seq ?_
  refine cw_seq ?_
  refine cw_region ?_ -- region 3
  refine mvI rfl rfl ?_  -- 10 wire.go:98
  refine mvS rfl rfl ?_  -- 11 wire.go:98
  refine lenS len_Lbyte rfl rfl ?_  -- 12 wire.go:98
  refine lssS rfl rfl rfl (fun h13 => ?_) (fun h13 => ?_)  -- 13 wire.go:98
  all_goals refine lw_nil ?_
  -- IF slot 13
  · refine cw_true rfl ?_
    refine cw_skip ?_
    have hlt : at_ < l.length := by omega
    obtain ⟨bb, o, hA, -, hbl, hcl0⟩ := hr.at_ hlt
    subst hA
    have hcl : ∀ {k : Nat} (hk : k < l.length) (w' : World), Below w.heap.size w w' → w'.cell? ⟨bb, o + k * 1, none⟩ = some (.int .u8 (l[k].toNat : Nat)) := fun {k} hk w' hb => by
      obtain ⟨bb', o', hA, -, hbl, hcl⟩ := hr.at_ hk
      injection hA with hA
      injection hA with h1 h2
      subst h1; subst h2
      exact (hb.cell (p := ⟨bb, _, none⟩) hbl).trans (hcl 0 _ rfl)
    have hd0 : l.drop at_ = l[at_] :: l.drop (at_ + 1) := List.drop_eq_getElem_cons hlt
    have hx := hcl hlt
    have h256 : l[at_].toNat < 256 := UInt8.toNat_lt _
    generalize hn : l[at_].toNat = n at *
    refine cw_block ?_ -- block 1
    refine cw_seq ?_
    refine cw_region ?_ -- region 4
    refine mvS rfl rfl ?_  -- 14 wire.go:99
    refine mvI rfl rfl ?_  -- 15 wire.go:99
    refine ixa sl_Lbyte rfl rfl (by omega) (by omega) rfl ?_  -- 16 wire.go:99
    refine ld one_byte rfl (hx _ H.below) rfl ?_  -- 17 wire.go:99
    refine cvI int_byte int_int rfl (wrapN (n := n) (by omega)) rfl ?_  -- 18 wire.go:99
    refine asI rfl rfl ?_  -- 6 wire.go:99
    refine lw_nil ?_
    refine cw_seq ?_
    refine cw_seq ?_
    refine cw_region ?_ -- region 5
    refine mvI rfl rfl ?_  -- 19 wire.go:100
    by_cases hstop : n = 0 ∨ l.length < at_ + n + 3
    · have hs : step (l.drop at_) = none := by
        rw [hd0, step, hn, if_pos]
        rw [List.length_drop]; omega
      by_cases hn0 : n = 0
      · refine eqlT rfl rfl (by omega) rfl ?_
        refine mvB rfl rfl ?_  -- 21 wire.go:100
        iterate 7 refine lwN rfl rfl rfl ?_
        refine pkTB rfl rfl rfl ?_ -- or pkFB  -- 29 wire.go:100
        refine lw_nil ?_
        refine cw_true rfl ?_
        refine cw_exit ?_ -- 0
        refine cw_seq ?_
        refine cw_region ?_ -- region 12
        refine mvS rfl rfl ?_  -- 74 wire.go:114
        refine mvI rfl rfl ?_  -- 75 wire.go:114
        refine asS rfl rfl ?_  -- 2 wire.go:114
        refine asI rfl rfl ?_  -- 3 wire.go:114
        refine lw_nil ?_
        refine cw_ret ?_
        exact fin2 rfl rfl rfl (hfin hs H)
      · refine eqlF rfl rfl (by omega) rfl ?_
        refine mvB rfl rfl ?_  -- 21 wire.go:100
        refine lwG rfl ?_
        refine mvI rfl rfl ?_  -- 22 wire.go:100
        refine lwG rfl ?_
        refine mvI rfl rfl ?_  -- 23 wire.go:100
        refine lwG rfl ?_
        refine add rfl rfl (by omega) (by omega) rfl ?_  -- 24 wire.go:100
        refine lwG rfl ?_
        refine add rfl rfl (by omega) (by omega) rfl ?_  -- 25 wire.go:100
        refine lwG rfl ?_
        refine mvS rfl rfl ?_  -- 26 wire.go:100
        refine lwG rfl ?_
        refine lenS len_Lbyte rfl rfl ?_  -- 27 wire.go:100
        refine lwG rfl ?_
        refine gtrT rfl rfl (by omega) rfl ?_
        refine pkFB rfl rfl rfl ?_ -- or pkFB  -- 29 wire.go:100
        refine lw_nil ?_
        refine cw_true rfl ?_
        refine cw_exit ?_ -- 0
        refine cw_seq ?_
        refine cw_region ?_ -- region 12
        refine mvS rfl rfl ?_  -- 74 wire.go:114
        refine mvI rfl rfl ?_  -- 75 wire.go:114
        refine asS rfl rfl ?_  -- 2 wire.go:114
        refine asI rfl rfl ?_  -- 3 wire.go:114
        refine lw_nil ?_
        refine cw_ret ?_
        exact fin2 rfl rfl rfl (hfin hs H)
    have hn0 : n ≠ 0 := fun h => hstop (.inl h)
    have hlen : at_ + n + 3 ≤ l.length := by omega
    refine eqlF rfl rfl (by omega) rfl ?_
    refine mvB rfl rfl ?_  -- 21 wire.go:100
    refine lwG rfl ?_
    refine mvI rfl rfl ?_  -- 22 wire.go:100
    refine lwG rfl ?_
    refine mvI rfl rfl ?_  -- 23 wire.go:100
    refine lwG rfl ?_
    refine add rfl rfl (by omega) (by omega) rfl ?_  -- 24 wire.go:100
    refine lwG rfl ?_
    refine add rfl rfl (by omega) (by omega) rfl ?_  -- 25 wire.go:100
    refine lwG rfl ?_
    refine mvS rfl rfl ?_  -- 26 wire.go:100
    refine lwG rfl ?_
    refine lenS len_Lbyte rfl rfl ?_  -- 27 wire.go:100
    refine lwG rfl ?_
    refine gtrF rfl rfl (by omega) rfl ?_
    refine pkFB rfl rfl rfl ?_ -- or pkFB  -- 29 wire.go:100
    refine lw_nil ?_
    refine cw_false rfl ?_
    refine cw_skip ?_
    refine cw_seq ?_
    refine cw_region ?_ -- region 6
    refine mvS rfl rfl ?_  -- 30 wire.go:103
    refine mvI rfl rfl ?_  -- 31 wire.go:103
    refine add rfl rfl (by omega) (by omega) rfl ?_  -- 32 wire.go:103
    refine mvI rfl rfl ?_  -- 33 wire.go:103
    refine add rfl rfl (by omega) (by omega) rfl ?_  -- 34 wire.go:103
    refine mvI rfl rfl ?_  -- 35 wire.go:103
    refine add rfl rfl (by omega) (by omega) rfl ?_  -- 36 wire.go:103
    refine sliLH sl_Lbyte rfl rfl rfl (by omega) (by omega) (by omega) rfl ?_; intro A37 hA37  -- 37 wire.go:103
    have e1 : ((at_ : Int) + 1).toNat = at_ + 1 := by omega
    have e2 : ((at_ : Int) + 1 + n).toNat - (at_ + 1) = n := by omega
    rw [e1] at hA37 ⊢
    rw [e2]
    have hrx : Rd byteL 0 w.heap.size A37 ((l.drop (at_ + 1)).take n) w := (hr.from_ hA37 (fun h => by omega)).take n
    have hxl : ((l.drop (at_ + 1)).take n).length = n := by rw [List.length_take, List.length_drop]; omega
    refine asS rfl rfl ?_  -- 7 wire.go:103
    refine lw_nil ?_
    have hg1 : (l.drop (at_ + 1)).getD n 0 = l[at_ + n + 1] := by
      rw [List.getD_eq_getElem?_getD, List.getElem?_drop, show at_ + 1 + n = at_ + n + 1 by omega, List.getElem?_eq_getElem (by omega)]; rfl
    have hg2 : (l.drop (at_ + 1)).getD (n + 1) 0 = l[at_ + n + 2] := by
      rw [List.getD_eq_getElem?_getD, List.getElem?_drop, show at_ + 1 + (n + 1) = at_ + n + 2 by omega, List.getElem?_eq_getElem (by omega)]; rfl
    have hc1 := hcl (k := at_ + n + 1) (by omega)
    have hc2 := hcl (k := at_ + n + 2) (by omega)
    have hb1 : l[at_ + n + 1].toNat < 256 := UInt8.toNat_lt _
    have hb2 : l[at_ + n + 2].toNat < 256 := UInt8.toNat_lt _
    generalize l[at_ + n + 1] = x1 at *
    generalize l[at_ + n + 2] = x2 at *
    generalize hX : (l.drop (at_ + 1)).take n = X at *
    have hstep : step (l.drop at_) = if sumB X ≠ x1.toNat * 256 + x2.toNat then none else if bodyOk (X.headD 0) X.tail = true then some ((bodyE (X.headD 0) X.tail).1, n + 3) else none := by
      rw [hd0, step, hn, if_neg (by rw [List.length_drop]; omega), hX, hg1, hg2]
      have : (l.drop (at_ + 1)).headD 0 = X.headD 0 := by
        rw [← hX]
        cases h : l.drop (at_ + 1) with
        | nil => simp
        | cons a r =>
          cases n with
          | zero => exact absurd rfl hn0
          | succ n => rfl
      rw [this]
    have hcy1 : ((at_ : Int) + n + 1).toNat = at_ + n + 1 := by omega
    have hcy2 : ((at_ : Int) + n + 2).toNat = at_ + n + 2 := by omega
    rw [← hcy1] at hc1
    rw [← hcy2] at hc2
    have hor : x1.toNat * 2 ^ 8 ||| x2.toNat = x1.toNat * 256 + x2.toNat := or_lo hb2
    have hslt := sumB_lt X
    refine cw_seq ?_
    refine cw_seq ?_
    refine cw_draw mixed [0, 2, 3, 4, 5, 6, 7, 8, 9, 10, 11, 12, 13, 14, 15, 16, 17, 18, 19, 1, 20] [] [1] [0, 2, 3, 4, 5, 6, 7, 9, 10, 11, 12, 13, 14, 15, 16, 18, 19, 20] (sp [(1, Sp.one (.int .i64 (sumB X : Nat)))]) (by kernel_rfl) (by kernel_rfl) (by kernel_rfl) (by kernel_rfl) (fun _ _ _ h => h) (sp_st _) ?_
    refine aw rfl rfl rfl rfl rfl (fun _ _ => mv_r rfl) ?_  -- 38 wire.go:104
    refine aw rfl rfl rfl rfl rfl (fun _ _ => mv_r rfl) ?_  -- 40 wire.go:104
    refine aw rfl rfl rfl rfl rfl (fun _ _ => mv_r rfl) ?_  -- 41 wire.go:104
    refine aw rfl rfl rfl rfl rfl (fun _ _ => mv_r rfl) ?_  -- 42 wire.go:104
    refine aw rfl rfl rfl rfl rfl (fun _ _ => add_r rfl rfl (by omega) (by omega)) ?_  -- 43 wire.go:104
    refine aw rfl rfl rfl rfl rfl (fun _ _ => add_r rfl rfl (by omega) (by omega)) ?_  -- 44 wire.go:104
    refine aw rfl rfl rfl rfl rfl (fun _ _ => ixa_r sl_Lbyte rfl rfl (by omega) (by omega)) ?_  -- 45 wire.go:104
    refine aw rfl rfl rfl rfl rfl (fun w' hw' => ld_r one_byte rfl (hc1 w' (H.later hw').below)) ?_  -- 46 wire.go:104
    refine aw rfl rfl rfl rfl rfl (fun _ _ => cvI_r int_byte int_int rfl (wrapN (n := x1.toNat) (by omega))) ?_  -- 47 wire.go:104
    refine aw rfl rfl rfl rfl rfl (fun _ _ => shl_r (a := x1.toNat) (b := 8) (k := .u64) rfl rfl (by omega) (by omega)) ?_  -- 48
    refine aw rfl rfl rfl rfl rfl (fun _ _ => mv_r rfl) ?_  -- 49 wire.go:104
    refine aw rfl rfl rfl rfl rfl (fun _ _ => mv_r rfl) ?_  -- 50 wire.go:104
    refine aw rfl rfl rfl rfl rfl (fun _ _ => mv_r rfl) ?_  -- 51 wire.go:104
    refine aw rfl rfl rfl rfl rfl (fun _ _ => add_r rfl rfl (by omega) (by omega)) ?_  -- 52 wire.go:104
    refine aw rfl rfl rfl rfl rfl (fun _ _ => add_r rfl rfl (by omega) (by omega)) ?_  -- 53 wire.go:104
    refine aw rfl rfl rfl rfl rfl (fun _ _ => ixa_r sl_Lbyte rfl rfl (by omega) (by omega)) ?_  -- 54 wire.go:104
    refine aw rfl rfl rfl rfl rfl (fun w' hw' => ld_r one_byte rfl (hc2 w' (H.later hw').below)) ?_  -- 55 wire.go:104
    refine aw rfl rfl rfl rfl rfl (fun _ _ => cvI_r int_byte int_int rfl (wrapN (n := x2.toNat) (by omega))) ?_  -- 56 wire.go:104
    refine aw rfl rfl rfl rfl rfl (fun _ _ => or_r (a := x1.toNat * 2 ^ 8) (b := x2.toNat) rfl rfl (by omega) (by omega)) ?_  -- 57
    rw [hor]
    refine awCal cb_wire_sum rfl rfl rfl rfl (fun w' hw' => (sum_ok X A37 (c - (at_ + 1)) w' ((hrx.below (H.later hw').below).mono (Nat.le_refl _) (H.later hw').size) (by omega)).mono (fun v w2 ⟨h1, h2⟩ => ⟨h2, h1⟩)) (by rw [hxl]; rfl) ?_
    rintro _ ⟨_, _, rfl⟩
    by_cases hsum : sumB X = x1.toNat * 256 + x2.toNat
    · refine aw rfl rfl rfl rfl rfl (fun _ _ => neqF_r rfl rfl (by omega)) ?_  -- slot 58
      refine aw_nil ?_
      intro w' hw' hF; replace H := H.later hw'; clear hw' hF
      refine lw_nil ?_
      refine cw_false rfl ?_
      refine cw_skip ?_
      obtain ⟨c0, X', rfl⟩ : ∃ c0 X', X = c0 :: X' := by
        cases X with
        | nil => simp at hxl; omega
        | cons a X => exact ⟨a, X, rfl⟩
      rw [if_neg (by omega)] at hstep
      refine cw_seq ?_
      refine cw_region ?_ -- region 8
      refine mvS rfl rfl ?_  -- 60 wire.go:107
      rw [← hxl]
      refine cal cb_wire_body (body_ok c0 X' A37 _ _ ((hrx.below H.below).mono (Nat.le_refl _) H.size) (by rw [hxl]; omega)) rfl rfl ?_; rintro _ w2 ⟨rfl, hb2⟩; replace H := H.later hb2 -- args ['60']  -- 61 wire.go:107
      rw [hxl]
      refine mvU rfl rfl ?_  -- 59 wire.go:107
      refine exV rfl rfl rfl ?_  -- 62 wire.go:107
      refine exV rfl rfl rfl ?_  -- 63 wire.go:107
      refine alo H z_Entry rfl ?_; intro w3 b8 H  -- 8 wire.go:107
      refine stW H 0 siz_Entry rfl rfl rfl rfl rfl rfl ?_; intro w4 H  -- None wire.go:107
      refine asB rfl rfl ?_  -- 9 wire.go:107
      refine lw_nil ?_
      refine cw_seq ?_
      refine cw_seq ?_
      refine cw_region ?_ -- region 9
      refine mvB rfl rfl ?_  -- 64 wire.go:108
      refine not rfl rfl ?_  -- 65 wire.go:108
      refine lw_nil ?_
      refine cw_if (b := !bodyOk c0 X') rfl (fun hb => ?_) (fun hb => ?_)
      · rw [if_neg (by simpa using hb)] at hstep
        refine cw_exit ?_ -- 0
        refine cw_seq ?_
        refine cw_region ?_ -- region 12
        refine mvS rfl rfl ?_  -- 74 wire.go:114
        refine mvI rfl rfl ?_  -- 75 wire.go:114
        refine asS rfl rfl ?_  -- 2 wire.go:114
        refine asI rfl rfl ?_  -- 3 wire.go:114
        refine lw_nil ?_
        refine cw_ret ?_
        exact fin2 rfl rfl rfl (hfin hstep (H.forget (by simp) (fun _ h => h)))
      · rw [if_pos (by simpa using hb)] at hstep
        refine cw_skip ?_
        refine cw_seq ?_
        refine cw_region ?_ -- region 10
        refine mvS rfl rfl ?_  -- 66 wire.go:111
        refine ldW H 0 agg_Entry rfl rfl rfl rfl ?_  -- 67 wire.go:111
        refine bsv (vs := [.agg _]) H sl_LEntry z_Entry rfl rfl rfl rfl rfl rfl ?_; intro w5 b68 H5  -- 68 wire.go:111
        refine apO (Y := entL) ap_LEntry (K := [_, _]) (L := L1) (M := []) H5 ho (news := [(bodyE c0 X').1]) rfl rfl rfl ?_ (by simp only [List.length_singleton]; omega) rfl ?_
        · exact Src.row (m := 1) (sz := 7) (H5.ent (i := 0) rfl) rfl
        intro A6 c6 w6 L6 _ _ ho6 H6
        refine asS rfl rfl ?_  -- 4 wire.go:111
        refine lw_nil ?_
        refine cw_region ?_ -- region 11
        refine mvI rfl rfl ?_  -- 70 wire.go:112
        refine mvI rfl rfl ?_  -- 71 wire.go:112
        refine add rfl rfl (by omega) (by omega) rfl ?_  -- 72 wire.go:112
        refine add rfl rfl (by omega) (by omega) rfl ?_  -- 73 wire.go:112
        refine asI rfl rfl ?_  -- 5 wire.go:112
        refine lw_nil ?_
        refine ⟨(at_ + (n + 3), out ++ [(bodyE c0 X').1], A6, c6), ⟨by omega, by simp; omega, fun es m hD => ?_, L6, ho6, H6.forget (by simp) (fun _ h => h)⟩, sl2 rfl ?_, by repeat (first | exact agr_ovr | refine agr_upd rfl ?_ | refine agr_updL _ rfl ?_), by show l.length - (at_ + (n + 3)) < l.length - at_; omega⟩
        · have := hdec _ _ (.go hstep (by rw [List.drop_drop]; exact hD))
          rw [List.append_assoc, Nat.add_assoc]
          exact this
        · show Value.int .i64 _ = Value.int .i64 _
          congr 1
    · rw [if_pos hsum] at hstep
      refine aw rfl rfl rfl rfl rfl (fun _ _ => neqT_r rfl rfl (by omega)) ?_  -- slot 58
      refine aw_nil ?_
      intro w' hw' hF; replace H := H.later hw'; clear hw'
      refine lw_nil ?_
      refine cw_true rfl ?_
      refine cw_exit ?_ -- 0
      refine cw_seq ?_
      refine cw_region ?_ -- region 12
      refine mvS rfl rfl ?_  -- 74 wire.go:114
      refine mvI rfl rfl ?_  -- 75 wire.go:114
      refine asS rfl rfl ?_  -- 2 wire.go:114
      refine asI rfl rfl ?_  -- 3 wire.go:114
      refine lw_nil ?_
      refine cw_ret ?_
      exact fin2 rfl rfl rfl (hfin hstep H)
  · refine cw_false rfl ?_
    refine cw_exit ?_ -- 0
    have hs : step (l.drop at_) = none := by rw [List.drop_of_length_le (by omega)]; rfl
    refine cw_seq ?_
    refine cw_region ?_ -- region 12
    refine mvS rfl rfl ?_  -- 74 wire.go:114
    refine mvI rfl rfl ?_  -- 75 wire.go:114
    refine asS rfl rfl ?_  -- 2 wire.go:114
    refine asI rfl rfl ?_  -- 3 wire.go:114
    refine lw_nil ?_
    refine cw_ret ?_
    exact fin2 rfl rfl rfl (hfin hs H)
end Go.Proofs.Ytemnchkebhclpaa
end

section
namespace Go.Proofs.Ytemnchkebhclpaa
open Go Go.Eng Go.RowKit

def Good (e : Ent) : Prop := entCheck e = 0
def flat (es : List Ent) : List UInt8 := es.flatMap encB

theorem u8nat (n : Nat) (h : n < 256) : (UInt8.ofNat n).toNat = n := by simp [Nat.mod_eq_of_lt h]
theorem u8of (c : UInt8) (n : Nat) (h : c.toNat = n) : UInt8.ofNat n = c := by subst h; simp

theorem rn_num : ∀ (k n i m : Nat) (rest : List UInt8), n < 128 ^ k → i + k ≤ 5 → (0 < k ) → (n ≠ 0 ∨ i = 0) → rn i m (num n ++ rest) = (m + n * 2 ^ (7 * i), rest, false)
  | 0, _, _, _, _, _, _, h0, _ => absurd h0 (by decide)
  | k + 1, n, i, m, rest, hn, hi, _, hz => by
    by_cases h : n ≤ 127
    · rw [num_small h]
      simp only [List.cons_append, List.nil_append, rn]
      rw [if_neg (by omega), u8nat n (by omega), if_pos (by omega), Nat.mod_eq_of_lt (by omega)]
      have : (decide (n = 0) && decide (0 < i)) = false := by
        rcases hz with h | h
        · simp [h]
        · simp [h]
      rw [this]
    · rw [num_big (by omega)]
      simp only [List.cons_append, rn]
      have hm : n % 128 < 128 := Nat.mod_lt _ (by decide)
      rw [if_neg (by omega), u8nat _ (by omega), if_neg (by omega)]
      have hk : k ≠ 0 := by rintro rfl; simp at hn; omega
      rw [rn_num k (n / 128) (i + 1) _ rest (by rw [Nat.pow_succ] at hn; exact Nat.div_lt_of_lt_mul (by omega)) (by omega) (by omega) (.inl (by omega))]
      congr 1
      have e1 : (n % 128 + 128) % 128 = n % 128 := by omega
      have e2 : 2 ^ (7 * (i + 1)) = 128 * 2 ^ (7 * i) := by rw [Nat.mul_add, Nat.pow_add]; omega
      rw [e1, e2]
      have e3 : n / 128 * (128 * 2 ^ (7 * i)) = (n / 128 * 128) * 2 ^ (7 * i) := (Nat.mul_assoc _ _ _).symm
      rw [e3, Nat.add_assoc, ← Nat.add_mul]
      congr 2
      omega
theorem rnB_num {n : Nat} (hn : n ≤ 1073741824) (rest : List UInt8) : rnB (num n ++ rest) false = (n, rest, false) := by
  unfold rnB
  rw [if_neg (by decide), rn_num 5 n 0 0 rest (by omega) (by omega) (by omega) (.inr rfl)]
  simp
theorem rn_inv : ∀ (l : List UInt8) (i m n : Nat) (l' : List UInt8), rn i m l = (n, l', false) → ∃ q, n = m + q * 2 ^ (7 * i) ∧ l = num q ++ l' ∧ (q ≠ 0 ∨ i = 0)
  | [], i, m, n, l', h => by simp [rn] at h
  | c :: l, i, m, n, l', h => by
    rw [rn] at h
    split at h
    · simp at h
    have hc : c.toNat < 256 := UInt8.toNat_lt _
    split at h
    · rename_i h128
      simp only [Prod.mk.injEq] at h
      obtain ⟨h1, h2, h3⟩ := h
      rw [Nat.mod_eq_of_lt h128] at h1
      refine ⟨c.toNat, h1.symm, ?_, ?_⟩
      · rw [num_small (by omega), u8of c _ rfl, h2]; rfl
      · simp at h3; omega
    · rename_i h128
      obtain ⟨q, h1, h2, h3⟩ := rn_inv l (i + 1) _ n l' h
      have hq : q ≠ 0 := by omega
      have e2 : 2 ^ (7 * (i + 1)) = 128 * 2 ^ (7 * i) := by rw [Nat.mul_add, Nat.pow_add]; omega
      refine ⟨c.toNat % 128 + q * 128, ?_, ?_, .inl (by omega)⟩
      · rw [h1, e2, Nat.add_mul, Nat.mul_assoc, Nat.add_assoc]
      · have d1 : (c.toNat % 128 + q * 128) / 128 = q := by omega
        have d2 : (c.toNat % 128 + q * 128) % 128 = c.toNat % 128 := by omega
        rw [num_big (by omega), d1, d2, u8of c _ (by omega), h2]
        rfl
theorem rnB_inv {l l' : List UInt8} {b : Bool} {n : Nat} (h : rnB l b = (n, l', false)) : b = false ∧ l = num n ++ l' := by
  unfold rnB at h
  cases b with
  | true => simp at h
  | false =>
    rw [if_neg (by decide)] at h
    obtain ⟨q, h1, h2, -⟩ := rn_inv l 0 0 n l' h
    have : n = q := by simpa using h1
    subst this
    exact ⟨rfl, h2⟩

theorem kind_split : ∀ c : Nat, c < 32 → (c &&& 15) + (if (!decide (((c &&& 16 : Nat) : Int) = 0)) = true then 16 else 0) = c := by decide
theorem kind_join : ∀ k : Nat, k < 4 → ∀ t : Bool, let c := k + if t then 16 else 0; c < 32 ∧ (c &&& 15) = k ∧ (!decide (((c &&& 16 : Nat) : Int) = 0)) = t := by decide

theorem body_inv {c : UInt8} {x : List UInt8} (h : bodyOk c x = true) : Good (bodyE c x).1 ∧ bodyB (bodyE c x).1 = c :: x := by
  unfold bodyOk at h
  simp only [Bool.and_eq_true, Bool.not_eq_true', decide_eq_true_eq] at h
  obtain ⟨⟨h1, h2⟩, h3⟩ := h
  refine ⟨h3, ?_⟩
  unfold bodyE at h1 ⊢
  simp only at h1 ⊢
  generalize hq1 : rnB x false = q1 at *
  obtain ⟨n1, l1, x1⟩ := q1
  dsimp only at *
  generalize hq2 : rnB l1 x1 = q2 at *
  obtain ⟨n2, l2, x2⟩ := q2
  dsimp only at *
  generalize hq3 : rnB l2 x2 = q3 at *
  obtain ⟨n3, l3, x3⟩ := q3
  dsimp only at *
  generalize hq4 : rnB l3 x3 = q4 at *
  obtain ⟨n4, l4, x4⟩ := q4
  dsimp only at *
  subst h1
  obtain ⟨rfl, r4⟩ := rnB_inv hq4
  obtain ⟨rfl, r3⟩ := rnB_inv hq3
  obtain ⟨rfl, r2⟩ := rnB_inv hq2
  obtain ⟨-, r1⟩ := rnB_inv hq1
  have hk := kind_split c.toNat h2
  have e1 : kindB ⟨(n1 : Nat), (n2 : Nat), (n3 : Nat), (n4 : Nat), (c.toNat &&& 15 : Nat), !decide (((c.toNat &&& 16 : Nat) : Int) = 0), ⟨l4.toArray⟩⟩ = c := by
    unfold kindB
    exact u8of c _ (by simp only [Int.toNat_natCast]; exact hk.symm)
  unfold bodyB
  rw [e1]
  simp [numsB, Ent.nums, r1, r2, r3, r4]
theorem body_enc {e : Ent} (h : Good e) : ∃ c x, bodyB e = c :: x ∧ bodyOk c x = true ∧ (bodyE c x).1 = e := by
  obtain ⟨h1, h2, h3, h4, -⟩ := entCheck_ok h
  refine ⟨kindB e, numsB e.nums ++ e.text.data.toList, rfl, ?_⟩
  obtain ⟨ep, pid, ver, seq, kind, txn, text⟩ := e
  simp only [Ent.nums, List.mem_cons, List.mem_nil_iff, or_false, forall_eq_or_imp, forall_eq] at h3
  dsimp only at h1 h2
  obtain ⟨a1, a2, a3, a4⟩ := h3
  obtain ⟨n1, rfl⟩ : ∃ n : Nat, ep = n := ⟨ep.toNat, by omega⟩
  obtain ⟨n2, rfl⟩ : ∃ n : Nat, pid = n := ⟨pid.toNat, by omega⟩
  obtain ⟨n3, rfl⟩ : ∃ n : Nat, ver = n := ⟨ver.toNat, by omega⟩
  obtain ⟨n4, rfl⟩ : ∃ n : Nat, seq = n := ⟨seq.toNat, by omega⟩
  obtain ⟨k, rfl⟩ : ∃ n : Nat, kind = n := ⟨kind.toNat, by omega⟩
  have hb : numsB (Ent.nums ⟨(n1 : Nat), (n2 : Nat), (n3 : Nat), (n4 : Nat), (k : Nat), txn, text⟩) ++ text.data.toList = num n1 ++ (num n2 ++ (num n3 ++ (num n4 ++ text.data.toList))) := by
    simp [numsB, Ent.nums]
  obtain ⟨j1, j2, j3⟩ := kind_join k (by omega) txn
  have hkb : (kindB ⟨(n1 : Nat), (n2 : Nat), (n3 : Nat), (n4 : Nat), (k : Nat), txn, text⟩).toNat = k + if txn then 16 else 0 := by
    unfold kindB
    exact u8nat _ (by simp only [Int.toNat_natCast]; exact Nat.lt_trans j1 (by decide))
  have hE : bodyE (kindB ⟨(n1 : Nat), (n2 : Nat), (n3 : Nat), (n4 : Nat), (k : Nat), txn, text⟩) (num n1 ++ (num n2 ++ (num n3 ++ (num n4 ++ text.data.toList)))) = (⟨(n1 : Nat), (n2 : Nat), (n3 : Nat), (n4 : Nat), (k : Nat), txn, text⟩, false) := by
    unfold bodyE
    simp only [rnB_num (show n1 ≤ 1073741824 by omega), rnB_num (show n2 ≤ 1073741824 by omega), rnB_num (show n3 ≤ 1073741824 by omega), rnB_num (show n4 ≤ 1073741824 by omega), hkb, j2, j3]
  dsimp only
  rw [hb]
  refine ⟨?_, by rw [hE]⟩
  unfold bodyOk
  rw [hE, hkb]
  simp [j1, show entCheck _ = 0 from h]

theorem encB_len (e : Ent) : (encB e).length = (bodyB e).length + 3 := by simp [encB]
theorem step_enc {e : Ent} (h : Good e) (rest : List UInt8) : step (encB e ++ rest) = some (e, (encB e).length) := by
  obtain ⟨hl, h0⟩ := bodyB_len h
  have hs := sumB_lt (bodyB e)
  obtain ⟨c, x, h1, h2, h3⟩ := body_enc h
  have e1 : encB e ++ rest = UInt8.ofNat (bodyB e).length :: (bodyB e ++ (UInt8.ofNat (sumB (bodyB e) / 256) :: UInt8.ofNat (sumB (bodyB e) % 256) :: rest)) := by simp [encB]
  rw [e1, step, u8nat _ (by omega), if_neg (by simp only [List.length_append, List.length_cons]; omega)]
  have t1 : (bodyB e ++ (UInt8.ofNat (sumB (bodyB e) / 256) :: UInt8.ofNat (sumB (bodyB e) % 256) :: rest)).take (bodyB e).length = bodyB e := List.take_left
  have t2 : (bodyB e ++ (UInt8.ofNat (sumB (bodyB e) / 256) :: UInt8.ofNat (sumB (bodyB e) % 256) :: rest)).getD (bodyB e).length 0 = UInt8.ofNat (sumB (bodyB e) / 256) := by
    rw [List.getD_eq_getElem?_getD, List.getElem?_append_right (Nat.le_refl _), Nat.sub_self]; rfl
  have t3 : (bodyB e ++ (UInt8.ofNat (sumB (bodyB e) / 256) :: UInt8.ofNat (sumB (bodyB e) % 256) :: rest)).getD ((bodyB e).length + 1) 0 = UInt8.ofNat (sumB (bodyB e) % 256) := by
    rw [List.getD_eq_getElem?_getD, List.getElem?_append_right (by omega), Nat.add_sub_cancel_left]; rfl
  rw [t1, t2, t3, u8nat _ (by omega), u8nat _ (by omega), if_neg (fun h => h (Nat.div_add_mod' _ _).symm)]
  have t4 : (bodyB e ++ (UInt8.ofNat (sumB (bodyB e) / 256) :: UInt8.ofNat (sumB (bodyB e) % 256) :: rest)).headD 0 = c := by rw [h1]; rfl
  rw [t4, encB_len]
  rw [h1]
  simp [h2, h3]
theorem step_inv {l : List UInt8} {e : Ent} {k : Nat} (h : step l = some (e, k)) : Good e ∧ l.take k = encB e ∧ k = (encB e).length := by
  cases l with
  | nil => cases h
  | cons n r =>
    simp only [step] at h
    split at h; · cases h
    rename_i hn
    split at h; · cases h
    rename_i hs
    split at h
    · rename_i hb
      injection h with h
      injection h with h1 h2
      have hn0 : n.toNat ≠ 0 := fun h => hn (.inl h)
      have hlen : n.toNat + 2 ≤ r.length := by omega
      have hX : r.take n.toNat = r.headD 0 :: (r.take n.toNat).tail := by
        cases r with
        | nil => simp at hlen
        | cons a r =>
          obtain ⟨m, hm⟩ : ∃ m, n.toNat = m + 1 := ⟨n.toNat - 1, by omega⟩
          rw [hm]; rfl
      obtain ⟨hg, hbB⟩ := body_inv hb
      rw [← hX, h1] at hbB
      rw [h1] at hg
      have hbl : (bodyB e).length = n.toNat := by rw [hbB, List.length_take]; omega
      have hlt := sumB_lt (bodyB e)
      rw [← hbB] at hs
      have hsum : sumB (bodyB e) = (r.getD n.toNat 0).toNat * 256 + (r.getD (n.toNat + 1) 0).toNat := by simpa using hs
      have b1 : (r.getD n.toNat 0).toNat < 256 := UInt8.toNat_lt _
      have b2 : (r.getD (n.toNat + 1) 0).toNat < 256 := UInt8.toNat_lt _
      have g1 : UInt8.ofNat (sumB (bodyB e) / 256) = r.getD n.toNat 0 := u8of _ _ (by omega)
      have g2 : UInt8.ofNat (sumB (bodyB e) % 256) = r.getD (n.toNat + 1) 0 := u8of _ _ (by omega)
      refine ⟨hg, ?_, ?_⟩
      · unfold encB
        rw [hbl, g1, g2, u8of n _ rfl, hbB, ← h2]
        simp only [List.take_succ_cons, List.cons_append]
        congr 1
        have := List.take_add_one (l := r) (i := n.toNat + 1)
        rw [this, List.take_add_one]
        rw [List.getD_eq_getElem?_getD, List.getD_eq_getElem?_getD, List.getElem?_eq_getElem (show n.toNat < r.length by omega), List.getElem?_eq_getElem (show n.toNat + 1 < r.length by omega)]
        simp only [Option.toList, Option.getD_some, List.append_assoc, List.cons_append, List.nil_append]
      · rw [encB_len, hbl, ← h2]
    · cases h

theorem dec_enc : ∀ (es : List Ent) (rest : List UInt8), (∀ e ∈ es, Good e) → step rest = none → Dec (flat es ++ rest) es (flat es).length
  | [], rest, _, h => .stop h
  | e :: es, rest, hg, h => by
    have h1 := step_enc (hg e (List.mem_cons_self ..)) (flat es ++ rest)
    have h2 := dec_enc es rest (fun x hx => hg x (List.mem_cons_of_mem _ hx)) h
    have e1 : flat (e :: es) ++ rest = encB e ++ (flat es ++ rest) := by simp [flat]
    have e2 : (flat (e :: es)).length = (encB e).length + (flat es).length := by simp [flat]
    rw [e1, e2]
    exact .go h1 (by rw [List.drop_left]; exact h2)
theorem dec_inv {l : List UInt8} {es : List Ent} {n : Nat} (h : Dec l es n) : l.take n = flat es ∧ n = (flat es).length ∧ n ≤ l.length ∧ (∀ e ∈ es, Good e) ∧ step (l.drop n) = none := by
  induction h with
  | stop h => exact ⟨rfl, rfl, Nat.zero_le _, by simp, h⟩
  | @go l e k n es h hd ih =>
    obtain ⟨i1, i2, i3, i4, i5⟩ := ih
    obtain ⟨h1, h2, h3⟩ := step_inv h
    obtain ⟨h4, h5⟩ := step_le h
    refine ⟨?_, ?_, ?_, ?_, ?_⟩
    · rw [List.take_add, h2, i1]; rfl
    · rw [h3, i2]; simp [flat]
    · rw [List.length_drop] at i3; omega
    · intro x hx
      rcases List.mem_cons.1 hx with rfl | hx
      · exact h1
      · exact i4 x hx
    · rw [List.drop_drop] at i5; exact i5
theorem dec_fun {l : List UInt8} {es es' : List Ent} {n n' : Nat} (h : Dec l es n) (h' : Dec l es' n') : es = es' ∧ n = n' := by
  induction h generalizing es' n' with
  | stop h => cases h' with
    | stop => exact ⟨rfl, rfl⟩
    | go h1 _ => rw [h] at h1; cases h1
  | go h hd ih => cases h' with
    | stop h1 => rw [h] at h1; cases h1
    | go h1 hd1 =>
      rw [h] at h1
      injection h1 with h1; injection h1 with h1 h2
      subst h1; subst h2
      obtain ⟨a, b⟩ := ih hd1
      exact ⟨by rw [a], by rw [b]⟩
end Go.Proofs.Ytemnchkebhclpaa
end

section
namespace Go.Proofs.Ytemnchkebhclpaa
open Go Go.Eng Go.RowKit

theorem flat_one (e : Ent) : flat [e] = encB e := by simp [flat]
theorem flat_succ {es : List Ent} {k : Nat} (h : k < es.length) : flat (es.take (k + 1)) = flat (es.take k) ++ encB es[k] := by
  unfold flat
  rw [List.take_succ_eq_append_getElem h, List.flatMap_append, List.flatMap_singleton]
theorem flat_take_le (es : List Ent) (k : Nat) : (flat (es.take k)).length ≤ (flat es).length := by
  have : flat es = flat (es.take k) ++ flat (es.drop k) := by
    unfold flat; rw [← List.flatMap_append, List.take_append_drop]
  rw [this, List.length_append]; omega

def e0 : Ent := ⟨0, 1, 0, 0, 2, true, ⟨#[]⟩⟩
set_option maxRecDepth 10000 in
theorem wireTells_ok (w : World) : Ret Try.prog i_tailracekeep_wireTells [] w fun v w2 => v = .bool true ∧ Below w.heap.size w w2 := by
  have hg : Good e0 := by unfold Good; decide
  refine ret_of fn_tailracekeep_wireTells rfl rfl ?_
  have H := Hp.start w
  refine cw_seq ?_
  refine cw_region ?_ -- region 0
  refine asB rfl rfl ?_  -- 0 alive.go:12
  refine lw_nil ?_
  refine cw_seq ?_
  refine cw_region ?_ -- region 1
  refine l1 (v := e0.v) (bld_r st_Entry z_Entry rfl) rfl rfl rfl ?_
  refine cal cb_wire_Encode (encode_ok e0 _ hg) rfl rfl ?_; rintro _ w1 ⟨A1, c1, rfl, hr1, hc1, hb1⟩; replace H := H.later hb1
  refine mvU rfl rfl ?_  -- 5 alive.go:13
  refine exV rfl rfl rfl ?_  -- 8 alive.go:13
  refine exV rfl rfl rfl ?_  -- 9 alive.go:13
  refine asS rfl rfl ?_  -- 1 alive.go:13
  refine asI rfl rfl ?_  -- 2 alive.go:13
  refine lw_nil ?_
  have hl := encB_len e0
  obtain ⟨hbl, hb0⟩ := bodyB_len hg
  refine cw_seq ?_
  refine cw_region ?_ -- region 2
  refine mvS rfl rfl ?_  -- 11 alive.go:14
  refine cal cb_wire_Decode (decode_ok (encB e0) A1 c1 _ (hr1.mono (Nat.zero_le _) (Nat.le_refl _)) hc1 (by omega)) rfl rfl ?_; rintro _ w2 ⟨es, n, A2, c2, rfl, hd, -, -, hb2⟩; replace H := H.later hb2 -- args ['11']  -- 12 alive.go:14
  have hd1 := dec_enc [e0] [] (by simp [hg]) rfl
  rw [List.append_nil, flat_one] at hd1
  obtain ⟨rfl, rfl⟩ := dec_fun hd hd1
  refine mvU rfl rfl ?_  -- 10 alive.go:14
  refine exV rfl rfl rfl ?_  -- 13 alive.go:14
  refine exV rfl rfl rfl ?_  -- 14 alive.go:14
  refine asS rfl rfl ?_  -- 3 alive.go:14
  refine asI rfl rfl ?_  -- 4 alive.go:14
  refine lw_nil ?_
  refine cw_seq ?_
  refine cw_region ?_ -- region 3
  refine mvI rfl rfl ?_  -- 15 alive.go:15
  refine eqlT rfl rfl rfl rfl ?_
  refine mvB rfl rfl ?_  -- 17 alive.go:15
  refine lwG rfl ?_
  refine mvS rfl rfl ?_  -- 18 alive.go:15
  refine lwG rfl ?_
  refine lenS len_Lbyte rfl rfl ?_  -- 19 alive.go:15
  refine lwG rfl ?_
  refine gtrT rfl rfl (by omega) rfl ?_
  refine pkTB rfl rfl rfl ?_ -- or pkFB  -- 21 alive.go:15
  refine mvB rfl rfl ?_  -- 22 alive.go:15
  refine lwG rfl ?_
  refine mvI rfl rfl ?_  -- 23 alive.go:15
  refine lwG rfl ?_
  refine mvS rfl rfl ?_  -- 24 alive.go:15
  refine lwG rfl ?_
  refine lenS len_Lbyte rfl rfl ?_  -- 25 alive.go:15
  refine lwG rfl ?_
  refine eqlT rfl rfl rfl rfl ?_
  refine pkTB rfl rfl rfl ?_ -- or pkFB  -- 27 alive.go:15
  refine mvB rfl rfl ?_  -- 28 alive.go:15
  refine lwG rfl ?_
  refine mvS rfl rfl ?_  -- 29 alive.go:15
  refine lwG rfl ?_
  refine lenS len_LEntry rfl rfl ?_  -- 30 alive.go:15
  refine lwG rfl ?_
  refine eqlT rfl rfl rfl rfl ?_
  refine pkTB rfl rfl rfl ?_ -- or pkFB  -- 32 alive.go:15
  refine asB rfl rfl ?_  -- 0 alive.go:15
  refine lw_nil ?_
  refine cw_ret ?_
  exact fin1 (v := .bool true) rfl rfl ⟨rfl, H.below⟩

set_option maxRecDepth 10000 in
theorem entryFixed_ok (l : List UInt8) (A : Option Addr) (c : Nat) (w : World) (hr : Rd byteL 0 w.heap.size A l w) (hc : l.length ≤ c) (hbd : l.length ≤ 1000000000000) :
    Ret Try.prog i_tailracekeep_EntryFixed [.slice A l.length c] w fun v w2 => v = .bool true ∧ Below w.heap.size w w2 := by
  refine ret_of fn_tailracekeep_EntryFixed rfl rfl ?_
  refine cw_seq ?_
  refine cw_region ?_ -- region 0
  refine asB rfl rfl ?_  -- 2 low.go:51
  refine lw_nil ?_
  refine cw_seq ?_
  refine cw_seq ?_
  refine cw_region ?_ -- region 1
  refine cal cb_tailracekeep_wireTells (wireTells_ok _) rfl rfl ?_; rintro _ w1 ⟨rfl, hb1⟩
  refine not rfl rfl ?_  -- 11 low.go:52
  refine lw_nil ?_
  refine cw_false rfl ?_
  refine cw_skip ?_
  refine cw_seq ?_
  refine cw_region ?_ -- region 3
  refine mvS rfl rfl ?_  -- 13 low.go:55
  refine cal cb_wire_Decode (decode_ok l A c _ ((hr.below hb1).mono (Nat.le_refl _) hb1.size) hc hbd) rfl rfl ?_; rintro _ w2 ⟨es, n, A2, c2, rfl, hd, hr2, hc2, hb2⟩
  have hb02 : Below w.heap.size w w2 := hb1.trans (hb2.mono hb1.size)
  obtain ⟨d1, d2, d3, d4, -⟩ := dec_inv hd
  have H := Hp.start w2
  refine mvU rfl rfl ?_  -- 12 low.go:55
  refine exV rfl rfl rfl ?_  -- 15 low.go:55
  refine exV rfl rfl rfl ?_  -- 16 low.go:55
  refine asS rfl rfl ?_  -- 3 low.go:55
  refine asI rfl rfl ?_  -- 4 low.go:55
  refine lw_nil ?_
  refine cw_seq ?_
  refine cw_region ?_ -- region 4
  refine asS rfl rfl ?_  -- 5 low.go:56
  refine lw_nil ?_
  refine cw_seq ?_
  refine cw_seq ?_
  refine cw_region ?_ -- region 5
  refine mvS rfl rfl ?_  -- 17 low.go:57
  refine lenS len_LEntry rfl rfl ?_  -- 18 low.go:57
  refine mvI rfl rfl ?_  -- 19 low.go:57
  refine lw_nil ?_
  refine cw_block ?_ -- block 0
  have hel : es.length ≤ (flat es).length := by
    clear d1 d2 d3 d4 hd hr2 hc2
    induction es with
    | nil => simp
    | cons e es ih =>
      have := encB_len e
      have e1 : flat (e :: es) = encB e ++ flat es := by simp [flat]
      rw [e1, List.length_append, List.length_cons]
      omega
  refine cw_loop (τ := Nat × Option Addr × Nat) [2, 5, 7, 8, 9, 19, 20, 21, 22, 23, 24, 25, 26, 27, 28, 29, 30, 31, 32, 33]
    (fun (k, A1, c1) => [(5, .slice A1 (flat (es.take k)).length c1), (19, .int .i64 (k : Nat))])
    (fun (k, A1, c1) w' => k ≤ es.length ∧ ∃ L', Own byteL (.slice A1 (flat (es.take k)).length c1) T_byte (flat (es.take k)) L' ∧ Hp w2 w' ([] ++ L' ++ []) [])
    (fun (k, _, _) => es.length - k) (0, none, 0) ⟨by omega, [], Own.nil, H⟩ (sl2 rfl rfl) ?_ -- LOOP
  rintro ⟨k, A1, c1⟩ ρ1 w3 ⟨hk, L1, ho, H⟩
  show CW _ _ _ _ (updL (ovr _ _ ρ1) [(5, .slice A1 (flat (es.take k)).length c1), (19, .int .i64 (k : Nat))]) w3
  refine cw_seq ?_
  refine cw_region ?_ -- region 6
  refine lssS rfl rfl rfl (fun h20 => ?_) (fun h20 => ?_)  -- 20 low.go:57
  all_goals refine lw_nil ?_
  all_goals refine cw_seq ?_
  -- IF slot 20
  · refine cw_true rfl ?_
    refine cw_skip ?_
    have hkl : k < es.length := by omega
    obtain ⟨bb, o, rfl, -, hbl, hcl⟩ := hr2.at_ hkl
    have hge : Good es[k] := d4 _ (List.getElem_mem hkl)
    have hfs := flat_succ hkl
    have hfl := flat_take_le es (k + 1)
    rw [hfs, List.length_append] at hfl
    generalize es[k] = e at *
    refine cw_seq ?_
    refine cw_block ?_ -- block 1
    refine cw_seq ?_
    refine cw_region ?_ -- region 7
    refine ixa sl_LEntry rfl rfl (by omega) (by omega) rfl ?_  -- 21 low.go:57
    refine ldA (xs := e.c) agg_Entry rfl rfl (fun j v hj => (H.below.cell (p := ⟨bb, _, none⟩) hbl).trans (hcl j v hj)) rfl ?_  -- 22 low.go:57
    refine alo H z_Entry rfl ?_; intro w4 b7 H  -- 7 low.go:57
    refine stW H 0 siz_Entry rfl rfl rfl rfl rfl rfl ?_; intro w5 H  -- None low.go:57
    refine lw_nil ?_
    refine cw_seq ?_
    refine cw_region ?_ -- region 8
    refine ldW H 0 agg_Entry rfl rfl rfl rfl ?_  -- 24 low.go:58
    refine cal cb_wire_Encode (encode_ok e _ hge) rfl rfl ?_; rintro _ w6 ⟨A6, c6, rfl, hr6, hc6, hb6⟩; replace H := H.later hb6 -- args ['24']  -- 25 low.go:58
    refine mvU rfl rfl ?_  -- 23 low.go:58
    refine exV rfl rfl rfl ?_  -- 26 low.go:58
    refine exV rfl rfl rfl ?_  -- 27 low.go:58
    refine asS rfl rfl ?_  -- 8 low.go:58
    refine asI rfl rfl ?_  -- 9 low.go:58
    refine lw_nil ?_
    refine cw_seq ?_
    refine cw_seq ?_
    refine cw_region ?_ -- region 9
    refine mvI rfl rfl ?_  -- 28 low.go:59
    refine l1 (neqF_r rfl rfl rfl) rfl rfl rfl ?_
    refine lw_nil ?_
    refine cw_false rfl ?_
    refine cw_skip ?_
    refine cw_region ?_ -- region 11
    refine mvS rfl rfl ?_  -- 30 low.go:62
    refine mvS rfl rfl ?_  -- 31 low.go:62
    refine apO (Y := byteL) ap_Lbyte (K := [_]) (L := L1) (M := []) H ho (news := encB e) rfl rfl rfl hr6.src (by omega) rfl ?_
    intro A7 c7 w7 L7 _ _ ho7 H7
    refine asS rfl rfl ?_  -- 5 low.go:62
    refine lw_nil ?_
    refine cw_region ?_ -- region 12
    refine add rfl rfl (by omega) (by omega) rfl ?_  -- 33 low.go:57
    refine mvI rfl rfl ?_  -- 19 low.go:57
    refine lw_nil ?_
    rw [← hfs] at ho7
    refine ⟨(k + 1, A7, c7), ⟨by omega, L7, ho7, H7.forget (by simp) (fun _ h => h)⟩, sl2 (by rw [hfs]; rfl) rfl, by repeat (first | exact agr_ovr | refine agr_upd rfl ?_ | refine agr_updL _ rfl ?_), by show es.length - (k + 1) < es.length - k; omega⟩
  · refine cw_false rfl ?_
    refine cw_exit ?_ -- 0
    have hk : k = es.length := by omega
    subst hk
    rw [List.take_length] at ho
    have hrn : Rd byteL 0 w2.heap.size (cut A c 0 1) (l.take n) w2 := (((hr.below hb02).mono (Nat.le_refl _) hb02.size).from_ (k := 0) (cut_from hc) (fun h => h)).take n
    have hnl : (l.take n).length = n := by rw [List.length_take]; omega
    refine cw_seq ?_
    refine cw_draw mixed [0, 1, 2, 3, 4, 5, 6, 7, 8, 9, 10, 11, 12, 13] [] [] [0, 1, 2, 3, 4, 5, 7, 8, 9, 11, 12, 13] (sp []) (by kernel_rfl) (by kernel_rfl) (by kernel_rfl) (by kernel_rfl) (fun _ _ _ h => h) (sp_st _) ?_
    refine aw rfl rfl rfl rfl rfl (fun _ _ => mv_r rfl) ?_  -- 34 low.go:64
    refine aw rfl rfl rfl rfl rfl (fun _ _ => mv_r rfl) ?_  -- 35 low.go:64
    refine aw rfl rfl rfl rfl rfl (fun _ _ => lenS_r len_Lbyte rfl) ?_  -- 36 low.go:64
    refine aw rfl rfl rfl rfl rfl (fun _ _ => leqT_r rfl rfl (by omega)) ?_  -- slot 37
    refine aw rfl rfl rfl rfl rfl (fun _ _ => mv_r rfl) ?_  -- 38 low.go:64
    refine aw rfl rfl rfl rfl rfl (fun _ _ => mv_r rfl) ?_  -- 39 low.go:64
    refine aw rfl rfl rfl rfl rfl (fun w' hw' => cvBT_r sl_Lbyte int_byte str_string rfl (by rw [List.take_length]) (fun _ => rfl) (ho.rd (H.later hw'))) ?_  -- 40 low.go:64
    refine aw rfl rfl rfl rfl rfl (fun _ _ => mv_r rfl) ?_  -- 41 low.go:64
    refine aw rfl rfl rfl rfl rfl (fun _ _ => mv_r rfl) ?_  -- 42 low.go:64
    refine aw rfl rfl rfl rfl rfl (fun _ _ => sliHi_r (i := (n : Nat)) sl_Lbyte rfl rfl (by omega) (by omega)) ?_
    refine aw rfl rfl rfl rfl rfl (fun w' hw' => cvBT_r sl_Lbyte int_byte str_string rfl (by rw [hnl]; rfl) (fun _ => rfl) (hrn.below (H.later hw').below)) ?_  -- 44 low.go:64
    refine aw rfl rfl rfl rfl rfl (fun _ _ => seqlT_r rfl rfl (by rw [d1])) ?_  -- 45 low.go:64
    refine aw rfl rfl rfl rfl rfl (fun _ _ => pkT_r rfl rfl) ?_ -- or pkFB  -- 46 low.go:64
    refine aw rfl rfl rfl rfl rfl (fun _ _ => as_r rfl) ?_  -- 2 low.go:64
    refine aw_nil ?_
    intro w' hw' hF; replace H := H.later hw'; clear hw'
    refine lw_nil ?_
    refine cw_ret ?_
    exact fin1 (v := .bool true) rfl rfl ⟨rfl, hb02.trans (H.below.mono hb02.size)⟩
end Go.Proofs.Ytemnchkebhclpaa
end
