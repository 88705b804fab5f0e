/- W4: a part of the proofs over this seat: what stands in its theorems holds for every input that they name. -/
import Derived.Test.YtemnchkebhclpaaW1
import Derived.Test.YtemnchkebhclpaaW2
import Derived.Test.YtemnchkebhclpaaW3
namespace Go.Proofs.Ytemnchkebhclpaa
open Go Go.Eng Go.RowKit

def kindB (e : Ent) : UInt8 := UInt8.ofNat (e.kind.toNat + if e.txn then 16 else 0)
def numsB (l : List Int) : List UInt8 := l.flatMap fun n => num n.toNat
def bodyB (e : Ent) : List UInt8 := kindB e :: numsB e.nums ++ e.text.data.toList
def encB (e : Ent) : List UInt8 := UInt8.ofNat (bodyB e).length :: bodyB e ++ [UInt8.ofNat (sumB (bodyB e) / 256), UInt8.ofNat (sumB (bodyB e) % 256)]

theorem wrap8m (n : Nat) : IntKind.u8.wrap (n : Int) = (n % 256 : Nat) := by
  simp [IntKind.wrap, IntKind.signed, IntKind.bits]
theorem byteT (s : ByteArray) : byteL.all s.data.toList = Lib.strCells s := by
  unfold Lay.all Lib.strCells
  show List.flatMap (fun n : UInt8 => [Value.int .u8 n.toNat]) _ = _
  induction s.data.toList with
  | nil => rfl
  | cons a l ih => simp only [List.flatMap_cons, List.map_cons, ih]; rfl

theorem entCheck_ok {e : Ent} (h : entCheck e = 0) : 1 ≤ e.kind ∧ e.kind ≤ 3 ∧ (∀ n ∈ e.nums, 0 ≤ n ∧ n ≤ 1073741824) ∧ e.text.size ≤ 40 ∧ ¬ e.noForm := by
  unfold entCheck at h
  split at h; · omega
  split at h; · omega
  split at h; · omega
  split at h; · omega
  rename_i h1 h2 h3 h4
  refine ⟨by omega, by omega, fun n hn => ?_, by omega, h4⟩
  have := List.all_eq_true.1 (Classical.not_not.1 h2) n hn
  exact inNum_t this
theorem numsB_len : ∀ (l : List Int), (∀ n ∈ l, 0 ≤ n ∧ n ≤ 1073741824) → (numsB l).length ≤ 5 * l.length
  | [], _ => by simp [numsB]
  | n :: l, h => by
    have h1 := numsB_len l fun m hm => h m (List.mem_cons_of_mem _ hm)
    have h2 := h n (List.mem_cons_self ..)
    have h3 := num_len 5 n.toNat (by omega)
    simp only [numsB, List.flatMap_cons, List.length_append, List.length_cons] at *
    omega
theorem bodyB_len {e : Ent} (h : entCheck e = 0) : (bodyB e).length ≤ 61 ∧ 0 < (bodyB e).length := by
  obtain ⟨_, _, h3, h4, _⟩ := entCheck_ok h
  have := numsB_len _ h3
  have hs : e.text.data.toList.length = e.text.size := by rw [Array.length_toList]; rfl
  simp only [bodyB, List.length_append, List.length_cons, hs]
  have h4' : e.nums.length = 4 := rfl
  omega

set_option maxRecDepth 4000 in
theorem encode_bad (e : Ent) (w : World) (h : entCheck e ≠ 0) : Ret Try.prog i_wire_Encode [e.v] w fun v w2 => v = .tuple #[.slice none 0 0, .int .i64 (entCheck e)] ∧ Below w.heap.size w w2 := by
  refine ret_of fn_wire_Encode rfl rfl ?_
  have H := Hp.start w
  refine cw_seq ?_
  refine cw_region ?_ -- region 0
  refine bxA H rfl rfl ?_; intro w1 b1 H  -- 1 wire.go:44
  refine asS rfl rfl ?_  -- 2 wire.go:44
  refine asI rfl rfl ?_  -- 3 wire.go:44
  refine lw_nil ?_
  refine cw_seq ?_
  refine cw_seq ?_
  refine cw_region ?_ -- region 1
  refine ldW H 0 agg_Entry rfl rfl rfl rfl ?_  -- 10 wire.go:45
  refine cal cb_wire_Check (wcheck_ok e _) rfl rfl ?_; rintro _ w2 ⟨rfl, hb2⟩; replace H := H.later hb2 -- args ['10']  -- 11 wire.go:45
  refine asI rfl rfl ?_  -- 4 wire.go:45
  refine lw_nil ?_
  refine cw_seq ?_
  refine cw_region ?_ -- region 2
  refine mvI rfl rfl ?_  -- 12 wire.go:45
  refine l1 (neqT_r rfl rfl h) rfl rfl rfl ?_
  refine lw_nil ?_
  refine cw_true rfl ?_
  refine cw_seq ?_
  refine cw_region ?_ -- region 3
  refine mvI rfl rfl ?_  -- 14 wire.go:46
  refine asS rfl rfl ?_  -- 2 wire.go:46
  refine asI rfl rfl ?_  -- 3 wire.go:46
  refine lw_nil ?_
  refine cw_ret ?_
  exact fin2 (v := .slice none 0 0) (v2 := .int .i64 (entCheck e)) rfl rfl rfl ⟨rfl, H.below⟩

set_option maxRecDepth 4000 in
theorem encode_ok (e : Ent) (w : World) (h : entCheck e = 0) : Ret Try.prog i_wire_Encode [e.v] w fun v w2 => ∃ A c, v = .tuple #[.slice A (encB e).length c, .int .i64 0] ∧ Rd byteL w.heap.size w2.heap.size A (encB e) w2 ∧ (encB e).length ≤ c ∧ Below w.heap.size w w2 := by
  obtain ⟨hk1, hk3, hnn, htx, -⟩ := entCheck_ok h
  obtain ⟨hl61, hl0⟩ := bodyB_len h
  refine ret_of fn_wire_Encode rfl rfl ?_
  have H := Hp.start w
  refine cw_seq ?_
  refine cw_region ?_ -- region 0
  refine bxA H rfl rfl ?_; intro w1 b1 H  -- 1 wire.go:44
  refine asS rfl rfl ?_  -- 2 wire.go:44
  refine asI rfl rfl ?_  -- 3 wire.go:44
  refine lw_nil ?_
  refine cw_seq ?_
  refine cw_seq ?_
  refine cw_region ?_ -- region 1
  refine ldW H 0 agg_Entry rfl rfl rfl rfl ?_  -- 10 wire.go:45
  refine cal cb_wire_Check (wcheck_ok e _) rfl rfl ?_; rintro _ w2 ⟨rfl, hb2⟩; replace H := H.later hb2 -- args ['10']  -- 11 wire.go:45
  refine asI rfl rfl ?_  -- 4 wire.go:45
  refine lw_nil ?_
  refine cw_seq ?_
  refine cw_region ?_ -- region 2
  refine mvI rfl rfl ?_  -- 12 wire.go:45
  refine l1 (neqF_r rfl rfl h) rfl rfl rfl ?_
  refine lw_nil ?_
  refine cw_false rfl ?_
  refine cw_skip ?_
  refine cw_seq ?_
  refine cw_region ?_ -- region 4
  refine fad fd_Entry_4 rfl rfl ?_  -- 15 wire.go:48
  refine ldE H 0 one_int rfl rfl rfl rfl ?_  -- 16 wire.go:48
  refine asI rfl rfl ?_  -- 5 wire.go:48
  refine lw_nil ?_
  refine cw_seq ?_
  obtain ⟨k, hk⟩ : ∃ k : Nat, e.kind = k := ⟨e.kind.toNat, by omega⟩
  have hkB : kindB e = UInt8.ofNat (k + if e.txn then 16 else 0) := by unfold kindB; rw [hk]; rfl
  refine cw_cut (τ := Unit) [17, 18, 19, 20, 5] (fun _ => [(5, .int .i64 (k + if e.txn then 16 else 0 : Nat))]) (fun _ w' => Hp w w' [(b1, .cells e.c.toArray T_Entry)] []) ?_ ?_
  · refine cw_seq ?_
    refine cw_region ?_ -- region 5
    refine fad fd_Entry_5 rfl rfl ?_  -- 17 wire.go:49
    refine ldE H 0 one_bool rfl rfl rfl rfl ?_  -- 18 wire.go:49
    refine lw_nil ?_
    refine cw_if (b := e.txn) rfl (fun ht => ?_) (fun ht => ?_)
    · refine cw_region ?_ -- region 6
      refine mvI rfl rfl ?_  -- 19 wire.go:50
      have h16 : k ||| 16 = k + 16 := by
        have : k = 1 ∨ k = 2 ∨ k = 3 := by omega
        rcases this with rfl | rfl | rfl <;> rfl
      rw [hk]
      refine l1 (or_r (a := k) (b := 16) rfl rfl (by omega) (by omega)) rfl rfl rfl ?_
      rw [h16]
      refine asI rfl rfl ?_  -- 5 wire.go:50
      refine lw_nil ?_
      refine ⟨(), H, sl1 (by rw [ht]; rfl), by repeat (first | exact Agr.refl _ _ | exact agr_ovr | refine agr_upd rfl ?_ | refine agr_updL _ rfl ?_)⟩
    · refine cw_skip ?_
      rw [hk]
      refine ⟨(), H, sl1 (by rw [ht]; rfl), by repeat (first | exact Agr.refl _ _ | exact agr_ovr | refine agr_upd rfl ?_ | refine agr_updL _ rfl ?_)⟩
  rintro _ ρ1 w3 H
  show CW _ _ _ _ (updL (ovr _ _ ρ1) [(5, .int .i64 (k + if e.txn then 16 else 0 : Nat))]) w3
  have hk19 : (k + if e.txn then 16 else 0) < 256 := by split <;> omega
  refine cw_seq ?_
  refine cw_region ?_ -- region 7
  refine mvI rfl rfl ?_  -- 21 wire.go:52
  refine cvI int_int int_byte rfl (wrap8 hk19) rfl ?_  -- 22 wire.go:52
  refine bsv (vs := [.int .u8 _]) H sl_Lbyte z_byte rfl rfl rfl rfl rfl rfl ?_; intro w4 b23 H  -- 23 wire.go:52
  refine asS rfl rfl ?_  -- 6 wire.go:52
  refine lw_nil ?_
  replace H := H.swap
  have ho : Own byteL (.slice (some ⟨b23, 0, none⟩) 1 1) T_byte [kindB e] [(b23, .cells (flatV [.int .u8 (k + if e.txn then 16 else 0 : Nat)]).toArray T_byte)] := by
    have e1 : byteL.all [kindB e] = (flatV [.int .u8 (k + if e.txn then 16 else 0 : Nat)]).toArray.toList := by
      show [Value.int .u8 _] = _
      rw [hkB, u8n _ hk19]
      rfl
    unfold Own
    rw [e1]
    exact OwnE.lit (n := 1) (by decide) rfl
  refine cw_seq ?_
  refine cw_seq ?_
  refine cw_region ?_ -- region 8
  refine fad fd_Entry_0 rfl rfl ?_  -- 24 wire.go:53
  refine ldE H 0 one_int rfl rfl rfl rfl ?_  -- 25 wire.go:53
  refine fad fd_Entry_1 rfl rfl ?_  -- 26 wire.go:53
  refine ldE H 0 one_int rfl rfl rfl rfl ?_  -- 27 wire.go:53
  refine fad fd_Entry_2 rfl rfl ?_  -- 28 wire.go:53
  refine ldE H 0 one_int rfl rfl rfl rfl ?_  -- 29 wire.go:53
  refine fad fd_Entry_3 rfl rfl ?_  -- 30 wire.go:53
  refine ldE H 0 one_int rfl rfl rfl rfl ?_  -- 31 wire.go:53
  refine bsv (vs := [.int .i64 _, .int .i64 _, .int .i64 _, .int .i64 _]) H sl_Lint z_int rfl rfl rfl rfl rfl rfl ?_; intro w5 b32 H  -- 32 wire.go:53
  refine lenS len_Lint rfl rfl ?_  -- 33 wire.go:53
  refine mvI rfl rfl ?_  -- 34 wire.go:53
  refine lw_nil ?_
  refine cw_block ?_ -- block 0
  have hns : ∀ k, k < 4 → (flatV [.int .i64 e.epoch, .int .i64 e.pid, .int .i64 e.ver, .int .i64 e.seq]).toArray[0 + k * 1]? = some (.int .i64 (e.nums.getD k 0)) := by
    intro k hk
    have : k = 0 ∨ k = 1 ∨ k = 2 ∨ k = 3 := by omega
    rcases this with rfl | rfl | rfl | rfl <;> rfl
  have hmem : ∀ k, k < 4 → e.nums.getD k 0 ∈ e.nums := by
    intro k hk
    have : k = 0 ∨ k = 1 ∨ k = 2 ∨ k = 3 := by omega
    rcases this with rfl | rfl | rfl | rfl <;> simp [Ent.nums]
  have hstep : ∀ k, k < 4 → e.nums.take (k + 1) = e.nums.take k ++ [e.nums.getD k 0] := by
    intro k hk
    have : k = 0 ∨ k = 1 ∨ k = 2 ∨ k = 3 := by omega
    rcases this with rfl | rfl | rfl | rfl <;> rfl
  have hnlen : ∀ k, k ≤ 4 → (numsB (e.nums.take k)).length ≤ 20 := by
    intro k hk
    have := numsB_len (e.nums.take k) fun n hn => hnn n (List.mem_of_mem_take hn)
    have h2 : (e.nums.take k).length ≤ 4 := by simp [Ent.nums]; omega
    omega
  refine cw_loop (τ := Nat × Option Addr × Nat) [6, 8, 34, 35, 36, 37, 38, 39, 40, 41] (fun (k, A, c) => [(6, .slice A (kindB e :: numsB (e.nums.take k)).length c), (34, .int .i64 k)])
    (fun (k, A, c) w' => k ≤ 4 ∧ ∃ L', Own byteL (.slice A (kindB e :: numsB (e.nums.take k)).length c) T_byte (kindB e :: numsB (e.nums.take k)) L' ∧ Hp w w' ([(b32, .cells (flatV [.int .i64 e.epoch, .int .i64 e.pid, .int .i64 e.ver, .int .i64 e.seq]).toArray T_int), (b1, .cells e.c.toArray T_Entry)] ++ L' ++ []) []) (fun (k, _, _) => 4 - k) (0, _, 1) ⟨by omega, _, ho, H⟩ (sl2 rfl rfl) ?_ -- LOOP
  rintro ⟨j, A1, c1⟩ ρ1 w1 ⟨hj4, L1, ho, H⟩
  show CW _ _ _ _ (updL (ovr _ _ ρ1) [(6, .slice A1 (kindB e :: numsB (e.nums.take j)).length c1), (34, .int .i64 j)]) w1
  refine cw_seq ?_
  refine cw_region ?_ -- region 9
  refine lssS rfl rfl rfl (fun h35 => ?_) (fun h35 => ?_)  -- 35 wire.go:53
  all_goals refine lw_nil ?_
  all_goals refine cw_seq ?_
  · refine cw_true rfl ?_
    refine cw_skip ?_
    have hj : j < 4 := by omega
    have hns := hns j hj
    obtain ⟨hm0, hm1⟩ := hnn _ (hmem j hj)
    have hstep := hstep j hj
    have hnl := hnlen j hj4
    generalize e.nums.getD j 0 = x at *
    obtain ⟨m, rfl⟩ : ∃ m : Nat, x = m := ⟨x.toNat, by omega⟩
    refine cw_seq ?_
    refine cw_block ?_ -- block 1
    refine cw_seq ?_
    refine cw_region ?_ -- region 10
    refine ixa sl_Lint rfl rfl (by omega) (by omega) rfl ?_  -- 36 wire.go:53
    refine ldE H 0 one_int rfl rfl hns rfl ?_  -- 37 wire.go:53
    refine asI rfl rfl ?_  -- 8 wire.go:53
    refine lw_nil ?_
    refine cw_region ?_ -- region 11
    refine mvS rfl rfl ?_  -- 38 wire.go:54
    refine mvI rfl rfl ?_  -- 39 wire.go:54
    refine cal cb_wire_number (number_ok m H ho (by omega) (by simp only [List.length_cons]; omega)) rfl rfl ?_; rintro _ w5 ⟨A2, c2, L2, rfl, ho2, H2⟩ -- args ['38', '39']  -- 40 wire.go:54
    refine asS rfl rfl ?_  -- 6 wire.go:54
    refine lw_nil ?_
    refine cw_region ?_ -- region 12
    refine add rfl rfl (by omega) (by omega) rfl ?_  -- 41 wire.go:53
    refine mvI rfl rfl ?_  -- 34 wire.go:53
    refine lw_nil ?_
    have hnx : kindB e :: numsB (e.nums.take (j + 1)) = kindB e :: numsB (e.nums.take j) ++ num m := by
      rw [hstep]; simp [numsB]
    rw [← hnx] at ho2
    refine ⟨(j + 1, A2, c2), ⟨by omega, L2, ho2, H2⟩, sl2 (by rw [hnx]; rfl) rfl, by repeat (first | exact agr_ovr | refine agr_upd rfl ?_ | refine agr_updL _ rfl ?_), by show 4 - (j + 1) < 4 - j; omega⟩
  · refine cw_false rfl ?_
    refine cw_exit ?_ -- 0
    have hj : j = 4 := by omega
    subst hj
    have h20 := hnlen 4 (by omega)
    have e4 : e.nums.take 4 = e.nums := rfl
    rw [e4] at *
    have hne : kindB e :: numsB e.nums ≠ [] := by simp
    refine cw_seq ?_
    refine cw_region ?_ -- region 13
    refine mvS rfl rfl ?_  -- 42 wire.go:56
    refine fad fd_Entry_6 rfl rfl ?_  -- 43 wire.go:56
    refine ldE H 1 one_string rfl rfl rfl rfl ?_  -- 44 wire.go:56
    refine apT (Y := byteL) ap_Lbyte str_string rfl byteT H ho hne rfl rfl (by simp only [List.length_cons]; omega) rfl ?_
    intro A2 c2 w2 L2 hc1 hc2 ho H
    refine asS rfl rfl ?_  -- 6 wire.go:56
    refine lw_nil ?_
    have eb : kindB e :: numsB e.nums ++ e.text.data.toList = bodyB e := rfl
    rw [eb] at *
    refine cw_seq ?_
    refine cw_region ?_ -- region 14
    refine mvS rfl rfl ?_  -- 46 wire.go:57
    refine cal cb_wire_sum (sum_ok (bodyB e) A2 c2 w2 ((ho.rd H).mono (Nat.zero_le _) (Nat.le_refl _)) (by omega)) rfl rfl ?_; rintro _ w6 ⟨rfl, hb6⟩; replace H := H.later hb6 -- args ['46']  -- 47 wire.go:57
    refine asI rfl rfl ?_  -- 9 wire.go:57
    refine lw_nil ?_
    have hs := sumB_lt (bodyB e)
    refine cw_seq ?_
    refine cw_region ?_ -- region 15
    refine mvS rfl rfl ?_  -- 48 wire.go:58
    refine lenS len_Lbyte rfl rfl ?_  -- 49 wire.go:58
    refine cvI int_int int_byte rfl (wrap8 (n := (bodyB e).length) (by omega)) rfl ?_  -- 50 wire.go:58
    refine bsv (vs := [.int .u8 _]) H sl_Lbyte z_byte rfl rfl rfl rfl rfl rfl ?_; intro w7 b51 H7  -- 51 wire.go:58
    refine mvS rfl rfl ?_  -- 52 wire.go:58
    have ho5 : Own byteL (.slice (some ⟨b51, 0, none⟩) 1 1) T_byte [UInt8.ofNat (bodyB e).length] [(b51, .cells (flatV [.int .u8 ((bodyB e).length : Nat)]).toArray T_byte)] := by
      have e1 : byteL.all [UInt8.ofNat (bodyB e).length] = (flatV [.int .u8 ((bodyB e).length : Nat)]).toArray.toList := by
        show [Value.int .u8 _] = _
        rw [u8n _ (by omega)]
        rfl
      unfold Own
      rw [e1]
      exact OwnE.lit (n := 1) (by decide) rfl
    refine apO (Y := byteL) ap_Lbyte (K := []) (M := _) H7 ho5 (news := bodyB e) rfl rfl rfl (ho.rd (K := (b51, _) :: [_, _]) (M := []) H7).src (by simp only [List.length_cons, List.length_nil]; omega) rfl ?_
    intro A8 c8 w8 L8 _ _ ho8 H8
    refine mvI rfl rfl ?_  -- 54 wire.go:58
    refine l1 (shr_r (b := 8) rfl rfl (by omega)) rfl rfl rfl ?_
    refine cvI int_int int_byte rfl (wrap8 (n := sumB (bodyB e) / 2 ^ 8) (by omega)) rfl ?_  -- 56 wire.go:58
    refine mvI rfl rfl ?_  -- 57 wire.go:58
    refine cvI int_int int_byte rfl (wrap8m (sumB (bodyB e))) rfl ?_  -- 58 wire.go:58
    refine bsv (vs := [.int .u8 _, .int .u8 _]) H8 sl_Lbyte z_byte rfl rfl rfl rfl rfl rfl ?_; intro w9 b59 H9  -- 59 wire.go:58
    refine apO (Y := byteL) ap_Lbyte (K := [_]) (M := _) H9 ho8 (news := [UInt8.ofNat (sumB (bodyB e) / 256), UInt8.ofNat (sumB (bodyB e) % 256)]) rfl rfl rfl ?_ (by simp only [List.length_append, List.length_cons, List.length_nil]; omega) rfl ?_
    · have := Src.row (m := 2) (sz := 1) (H9.ent (i := 0) rfl) rfl
      have e1 : byteL.all [UInt8.ofNat (sumB (bodyB e) / 256), UInt8.ofNat (sumB (bodyB e) % 256)] = [.int .u8 (sumB (bodyB e) / 256 : Nat), .int .u8 (sumB (bodyB e) % 256 : Nat)] := by
        show [Value.int .u8 _, Value.int .u8 _] = _
        rw [u8n _ (by omega), u8n _ (by omega)]
      rw [e1]
      exact this
    intro A9 c9 w10 L9 hc9 _ ho9 H10
    refine asS rfl rfl ?_  -- 2 wire.go:58
    refine asI rfl rfl ?_  -- 3 wire.go:58
    refine lw_nil ?_
    refine cw_ret ?_
    refine fin2 rfl rfl rfl ⟨A9, c9, rfl, ?_, hc9, H10.below⟩
    exact ho9.rd H10
end Go.Proofs.Ytemnchkebhclpaa
