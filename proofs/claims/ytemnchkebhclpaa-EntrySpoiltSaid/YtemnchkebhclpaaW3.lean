/- W3: a part of the proofs over this seat: what stands in its theorems holds for every input that they name. -/
import Derived.Test.YtemnchkebhclpaaDat
namespace Go.Proofs.Ytemnchkebhclpaa
open Go Go.Eng Go.RowKit

def inNum (n : Int) : Bool := decide (0 ≤ n) && decide (n ≤ 1073741824)
theorem inNum_t {n : Int} (h : inNum n = true) : 0 ≤ n ∧ n ≤ 1073741824 := by simpa [inNum] using h
theorem inNum_f {n : Int} (h : ¬ inNum n = true) : n < 0 ∨ 1073741824 < n := by
  simp [inNum] at h; omega
def Ent.nums (e : Ent) : List Int := [e.epoch, e.pid, e.ver, e.seq]
def Ent.noForm (e : Ent) : Prop := (e.kind ≠ 1 ∧ (e.pid = 0 ∨ e.txn = false ∨ e.seq ≠ 0 ∨ e.text ≠ ⟨#[]⟩)) ∨ (e.pid = 0 ∧ (e.txn = true ∨ 0 < e.ver + e.seq))
instance (e : Ent) : Decidable e.noForm := by unfold Ent.noForm; infer_instance
/-- P1.1 -/
def entCheck (e : Ent) : Int :=
  if e.kind < 1 ∨ 3 < e.kind then 3
  else if ¬ e.nums.all inNum = true then 2
  else if 40 < e.text.size then 1
  else if e.noForm then 4 else 0

set_option maxRecDepth 4000 in
theorem wcheck_ok (e : Ent) (w : World) : Ret Try.prog i_wire_Check [e.v] w fun v w2 => v = .int .i64 (entCheck e) ∧ Below w.heap.size w w2 := by
  refine ret_of fn_wire_Check rfl rfl ?_
  have H := Hp.start w
  refine cw_seq ?_
  refine cw_region ?_ -- region 0
  refine bxA H rfl rfl ?_; intro w1 b1 H  -- 1 wire.go:7
  refine asI rfl rfl ?_  -- 2 wire.go:7
  refine lw_nil ?_
  refine cw_seq ?_
  refine cw_seq ?_
  refine cw_region ?_ -- region 1
  refine fad fd_Entry_4 rfl rfl ?_  -- 5 wire.go:8
  refine ldE H 0 one_int rfl rfl rfl rfl ?_  -- 6 wire.go:8
  refine lssS rfl rfl rfl (fun h7 => ?_) (fun h7 => ?_)  -- 7 wire.go:8
  · have hE : entCheck e = 3 := by unfold entCheck; rw [if_pos (.inl h7)]
    refine mvB rfl rfl ?_  -- 8 wire.go:8
    iterate 3 refine lwN rfl rfl rfl ?_
    refine pkTB rfl rfl rfl ?_ -- or pkFB  -- 12 wire.go:8
    refine lw_nil ?_
    refine cw_true rfl ?_
    refine cw_seq ?_
    refine cw_region ?_ -- region 2
    refine asI rfl rfl ?_  -- 2 wire.go:9
    refine lw_nil ?_
    refine cw_ret ?_
    exact fin1 (v := .int .i64 3) rfl rfl ⟨by rw [hE], H.below⟩
  refine mvB rfl rfl ?_  -- 8 wire.go:8
  refine lwG rfl ?_
  refine fad fd_Entry_4 rfl rfl ?_  -- 9 wire.go:8
  refine lwG rfl ?_
  refine ldE H 0 one_int rfl rfl rfl rfl ?_  -- 10 wire.go:8
  refine lwG rfl ?_
  refine gtrS rfl rfl rfl (fun h11 => ?_) (fun h11 => ?_)  -- 11 wire.go:8
  · have hE : entCheck e = 3 := by unfold entCheck; rw [if_pos (.inr h11)]
    refine pkFB rfl rfl rfl ?_ -- or pkFB  -- 12 wire.go:8
    refine lw_nil ?_
    refine cw_true rfl ?_
    refine cw_seq ?_
    refine cw_region ?_ -- region 2
    refine asI rfl rfl ?_  -- 2 wire.go:9
    refine lw_nil ?_
    refine cw_ret ?_
    exact fin1 (v := .int .i64 3) rfl rfl ⟨by rw [hE], H.below⟩
  refine pkFB rfl rfl rfl ?_ -- or pkFB  -- 12 wire.go:8
  refine lw_nil ?_
  refine cw_false rfl ?_
  refine cw_skip ?_
  have hk0 : ¬ (e.kind < 1 ∨ 3 < e.kind) := by omega
  refine cw_seq ?_
  refine cw_seq ?_
  refine cw_region ?_ -- region 3
  refine fad fd_Entry_0 rfl rfl ?_  -- 13 wire.go:11
  refine ldE H 0 one_int rfl rfl rfl rfl ?_  -- 14 wire.go:11
  refine fad fd_Entry_1 rfl rfl ?_  -- 15 wire.go:11
  refine ldE H 0 one_int rfl rfl rfl rfl ?_  -- 16 wire.go:11
  refine fad fd_Entry_2 rfl rfl ?_  -- 17 wire.go:11
  refine ldE H 0 one_int rfl rfl rfl rfl ?_  -- 18 wire.go:11
  refine fad fd_Entry_3 rfl rfl ?_  -- 19 wire.go:11
  refine ldE H 0 one_int rfl rfl rfl rfl ?_  -- 20 wire.go:11
  refine bsv (vs := [.int .i64 _, .int .i64 _, .int .i64 _, .int .i64 _]) H sl_Lint z_int rfl rfl rfl rfl rfl rfl ?_; intro w2 b21 H  -- 21 wire.go:11
  refine lenS len_Lint rfl rfl ?_  -- 22 wire.go:11
  refine mvI rfl rfl ?_  -- 23 wire.go:11
  refine lw_nil ?_
  refine cw_block ?_ -- block 0
  have hns : ∀ k, k < 4 → (flatV [.int .i64 e.epoch, .int .i64 e.pid, .int .i64 e.ver, .int .i64 e.seq]).toArray[0 + k * 1]? = some (.int .i64 (e.nums.getD k 0)) := by
    intro k hk
    have : k = 0 ∨ k = 1 ∨ k = 2 ∨ k = 3 := by omega
    rcases this with rfl | rfl | rfl | rfl <;> rfl
  have hmem : ∀ k, k < 4 → e.nums.getD k 0 ∈ e.nums := by
    intro k hk
    have : k = 0 ∨ k = 1 ∨ k = 2 ∨ k = 3 := by omega
    rcases this with rfl | rfl | rfl | rfl <;> simp [Ent.nums]
  refine cw_loop (τ := Nat) [4, 23, 24, 25, 26, 27, 28, 29, 30, 31, 32, 33, 2] (fun k => [(23, .int .i64 k)]) (fun k w' => k ≤ 4 ∧ (∀ j, j < k → (e.nums.getD j 0 |> inNum) = true) ∧ Hp w w' [(b21, _), (b1, _)] []) (fun k => 4 - k) 0 ⟨by omega, by simp, H⟩ (sl1 rfl) ?_ -- LOOP
  rintro k ρ1 w1 ⟨hk4, hgood, H⟩
  refine cw_seq ?_
  refine cw_region ?_ -- region 4
  refine lssS rfl rfl rfl (fun h24 => ?_) (fun h24 => ?_)  -- 24 wire.go:11
  all_goals refine lw_nil ?_
  all_goals refine cw_seq ?_
  · refine cw_true rfl ?_
    refine cw_skip ?_
    have hk : k < 4 := by omega
    have hns := hns k hk
    have hm := hmem k hk
    generalize hx : e.nums.getD k 0 = x at hns hm
    refine cw_seq ?_
    refine cw_block ?_ -- block 1
    refine cw_seq ?_
    refine cw_region ?_ -- region 5
    refine ixa sl_Lint rfl rfl (by omega) (by omega) rfl ?_  -- 25 wire.go:11
    refine ldE H 0 one_int rfl rfl hns rfl ?_  -- 26 wire.go:11
    refine asI rfl rfl ?_  -- 4 wire.go:11
    refine lw_nil ?_
    refine cw_seq ?_
    refine cw_region ?_ -- region 6
    refine mvI rfl rfl ?_  -- 27 wire.go:12
    by_cases hin : inNum x = true
    · obtain ⟨h0, h1⟩ := inNum_t hin
      refine lssF rfl rfl (by omega) rfl ?_
      refine mvB rfl rfl ?_  -- 29 wire.go:12
      refine lwG rfl ?_
      refine mvI rfl rfl ?_  -- 30 wire.go:12
      refine lwG rfl ?_
      refine gtrF rfl rfl (by omega) rfl ?_  -- 31 wire.go:12
      refine pkFB rfl rfl rfl ?_ -- or pkFB  -- 32 wire.go:12
      refine lw_nil ?_
      refine cw_false rfl ?_
      refine cw_skip ?_
      refine cw_region ?_ -- region 8
      refine add rfl rfl (by omega) (by omega) rfl ?_  -- 33 wire.go:11
      refine mvI rfl rfl ?_  -- 23 wire.go:11
      refine lw_nil ?_
      refine ⟨k + 1, ⟨by omega, fun j hj => ?_, H⟩, sl1 rfl, by repeat (first | exact agr_ovr | refine agr_upd rfl ?_ | refine agr_updL _ rfl ?_), by show 4 - (k + 1) < 4 - k; omega⟩
      by_cases hjk : j = k
      · subst hjk; rw [hx]; exact hin
      · exact hgood j (by omega)
    · have hE : entCheck e = 2 := by
        unfold entCheck
        rw [if_neg hk0, if_pos]
        intro ha
        exact hin (List.all_eq_true.1 ha x hm)
      have hbad := inNum_f hin
      by_cases h0 : x < 0
      · refine lssT rfl rfl h0 rfl ?_
        refine mvB rfl rfl ?_  -- 29 wire.go:12
        iterate 2 refine lwN rfl rfl rfl ?_
        refine pkTB rfl rfl rfl ?_ -- or pkFB  -- 32 wire.go:12
        refine lw_nil ?_
        refine cw_true rfl ?_
        refine cw_seq ?_
        refine cw_region ?_ -- region 7
        refine asI rfl rfl ?_  -- 2 wire.go:13
        refine lw_nil ?_
        refine cw_ret ?_
        exact fin1 (v := .int .i64 2) rfl rfl ⟨by rw [hE], H.below⟩
      · refine lssF rfl rfl h0 rfl ?_
        refine mvB rfl rfl ?_  -- 29 wire.go:12
        refine lwG rfl ?_
        refine mvI rfl rfl ?_  -- 30 wire.go:12
        refine lwG rfl ?_
        refine gtrT rfl rfl (by omega) rfl ?_  -- 31 wire.go:12
        refine pkFB rfl rfl rfl ?_ -- or pkFB  -- 32 wire.go:12
        refine lw_nil ?_
        refine cw_true rfl ?_
        refine cw_seq ?_
        refine cw_region ?_ -- region 7
        refine asI rfl rfl ?_  -- 2 wire.go:13
        refine lw_nil ?_
        refine cw_ret ?_
        exact fin1 (v := .int .i64 2) rfl rfl ⟨by rw [hE], H.below⟩
  · refine cw_false rfl ?_
    refine cw_exit ?_ -- 0
    have hk : k = 4 := by omega
    subst hk
    have hall : e.nums.all inNum = true := by
      have g0 := hgood 0 (by omega)
      have g1 := hgood 1 (by omega)
      have g2 := hgood 2 (by omega)
      have g3 := hgood 3 (by omega)
      simp only [Ent.nums, List.getD_cons_zero, List.getD_cons_succ] at g0 g1 g2 g3
      simp [Ent.nums, g0, g1, g2, g3]
    have hv := inNum_t (List.all_eq_true.1 hall e.ver (by simp [Ent.nums]))
    have hs := inNum_t (List.all_eq_true.1 hall e.seq (by simp [Ent.nums]))
    refine cw_seq ?_
    refine cw_seq ?_
    refine cw_region ?_ -- region 9
    refine fad fd_Entry_6 rfl rfl ?_  -- 34 wire.go:16
    refine ldE H 1 one_string rfl rfl rfl rfl ?_  -- 35 wire.go:16
    refine lenT str_string rfl rfl ?_  -- 36 wire.go:16
    refine gtrS rfl rfl rfl (fun h37 => ?_) (fun h37 => ?_)  -- 37 wire.go:16
    all_goals refine lw_nil ?_
    · refine cw_true rfl ?_
      refine cw_seq ?_
      refine cw_region ?_ -- region 10
      refine asI rfl rfl ?_  -- 2 wire.go:17
      refine lw_nil ?_
      refine cw_ret ?_
      have hE : entCheck e = 1 := by
        unfold entCheck
        rw [if_neg hk0, if_neg (by simpa using hall), if_pos (by omega)]
      exact fin1 (v := .int .i64 1) rfl rfl ⟨by rw [hE], H.below⟩
    refine cw_false rfl ?_
    refine cw_skip ?_
    have hE : entCheck e = if e.noForm then 4 else 0 := by
      unfold entCheck
      rw [if_neg hk0, if_neg (by simpa using hall), if_neg (by omega)]
    refine cw_seq ?_
    refine cw_seq ?_
    refine cw_region ?_ -- region 11
    by_cases hx : e.text = ⟨#[]⟩
    all_goals cases ht : e.txn
    all_goals (have h5 : e.c.toArray[0 + 5]? = some (.bool e.txn) := rfl; rw [ht] at h5)
    all_goals (refine fad fd_Entry_4 rfl rfl ?_)
    all_goals (refine ldE H 1 one_int rfl rfl rfl rfl ?_)
    all_goals (refine neqS rfl rfl rfl (fun _ => ?_) (fun _ => ?_))
    all_goals (refine mvB rfl rfl ?_)
    all_goals first | refine lwN rfl rfl rfl ?_ | (refine lwG rfl ?_; (refine fad fd_Entry_1 rfl rfl ?_))
    all_goals first | refine lwN rfl rfl rfl ?_ | (refine lwG rfl ?_; (refine ldE H 1 one_int rfl rfl rfl rfl ?_))
    all_goals first | refine lwN rfl rfl rfl ?_ | (refine lwG rfl ?_; (refine eqlS rfl rfl rfl (fun _ => ?_) (fun _ => ?_)))
    all_goals first | refine lwN rfl rfl rfl ?_ | (refine lwG rfl ?_; (refine mvB rfl rfl ?_))
    all_goals first | refine lwN rfl rfl rfl ?_ | (refine lwG rfl ?_; (refine fad fd_Entry_5 rfl rfl ?_))
    all_goals first | refine lwN rfl rfl rfl ?_ | (refine lwG rfl ?_; (refine ldE H 1 one_bool rfl rfl h5 rfl ?_))
    all_goals first | refine lwN rfl rfl rfl ?_ | (refine lwG rfl ?_; (refine not rfl rfl ?_))
    all_goals first | refine lwN rfl rfl rfl ?_ | (refine lwG rfl ?_; (first | refine pkTB rfl rfl rfl ?_ | refine pkFB rfl rfl rfl ?_))
    all_goals first | refine lwN rfl rfl rfl ?_ | (refine lwG rfl ?_; (refine mvB rfl rfl ?_))
    all_goals first | refine lwN rfl rfl rfl ?_ | (refine lwG rfl ?_; (refine fad fd_Entry_3 rfl rfl ?_))
    all_goals first | refine lwN rfl rfl rfl ?_ | (refine lwG rfl ?_; (refine ldE H 1 one_int rfl rfl rfl rfl ?_))
    all_goals first | refine lwN rfl rfl rfl ?_ | (refine lwG rfl ?_; (refine neqS rfl rfl rfl (fun _ => ?_) (fun _ => ?_)))
    all_goals first | refine lwN rfl rfl rfl ?_ | (refine lwG rfl ?_; (first | refine pkTB rfl rfl rfl ?_ | refine pkFB rfl rfl rfl ?_))
    all_goals first | refine lwN rfl rfl rfl ?_ | (refine lwG rfl ?_; (refine mvB rfl rfl ?_))
    all_goals first | refine lwN rfl rfl rfl ?_ | (refine lwG rfl ?_; (refine fad fd_Entry_6 rfl rfl ?_))
    all_goals first | refine lwN rfl rfl rfl ?_ | (refine lwG rfl ?_; (refine ldE H 1 one_string rfl rfl rfl rfl ?_))
    all_goals first | refine lwN rfl rfl rfl ?_ | (refine lwG rfl ?_; (first | refine l1 (sneqT_r rfl rfl hx) rfl rfl rfl ?_ | refine l1 (sneqF_r rfl rfl hx) rfl rfl rfl ?_))
    all_goals first | refine lwN rfl rfl rfl ?_ | (refine lwG rfl ?_; (first | refine pkTB rfl rfl rfl ?_ | refine pkFB rfl rfl rfl ?_))
    all_goals (first | refine pkTB rfl rfl rfl ?_ | refine pkFB rfl rfl rfl ?_)
    all_goals (refine mvB rfl rfl ?_)
    all_goals first | refine lwN rfl rfl rfl ?_ | (refine lwG rfl ?_; (refine fad fd_Entry_1 rfl rfl ?_))
    all_goals first | refine lwN rfl rfl rfl ?_ | (refine lwG rfl ?_; (refine ldE H 1 one_int rfl rfl rfl rfl ?_))
    all_goals first | refine lwN rfl rfl rfl ?_ | (refine lwG rfl ?_; (refine eqlS rfl rfl rfl (fun _ => ?_) (fun _ => ?_)))
    all_goals first | refine lwN rfl rfl rfl ?_ | (refine lwG rfl ?_; (refine mvB rfl rfl ?_))
    all_goals first | refine lwN rfl rfl rfl ?_ | (refine lwG rfl ?_; (refine fad fd_Entry_5 rfl rfl ?_))
    all_goals first | refine lwN rfl rfl rfl ?_ | (refine lwG rfl ?_; (refine ldE H 1 one_bool rfl rfl h5 rfl ?_))
    all_goals first | refine lwN rfl rfl rfl ?_ | (refine lwG rfl ?_; (refine mvB rfl rfl ?_))
    all_goals first | refine lwN rfl rfl rfl ?_ | (refine lwG rfl ?_; (refine fad fd_Entry_2 rfl rfl ?_))
    all_goals first | refine lwN rfl rfl rfl ?_ | (refine lwG rfl ?_; (refine ldE H 1 one_int rfl rfl rfl rfl ?_))
    all_goals first | refine lwN rfl rfl rfl ?_ | (refine lwG rfl ?_; (refine fad fd_Entry_3 rfl rfl ?_))
    all_goals first | refine lwN rfl rfl rfl ?_ | (refine lwG rfl ?_; (refine ldE H 1 one_int rfl rfl rfl rfl ?_))
    all_goals first | refine lwN rfl rfl rfl ?_ | (refine lwG rfl ?_; (refine add rfl rfl (by omega) (by omega) rfl ?_))
    all_goals first | refine lwN rfl rfl rfl ?_ | (refine lwG rfl ?_; (refine gtrS rfl rfl rfl (fun _ => ?_) (fun _ => ?_)))
    all_goals first | refine lwN rfl rfl rfl ?_ | (refine lwG rfl ?_; (first | refine pkTB rfl rfl rfl ?_ | refine pkFB rfl rfl rfl ?_))
    all_goals first | refine lwN rfl rfl rfl ?_ | (refine lwG rfl ?_; (first | refine pkTB rfl rfl rfl ?_ | refine pkFB rfl rfl rfl ?_))
    all_goals (first | refine pkTB rfl rfl rfl ?_ | refine pkFB rfl rfl rfl ?_)
    all_goals refine lw_nil ?_
    all_goals first
      | (refine cw_true rfl ?_
         refine cw_seq ?_
         refine cw_region ?_ -- region 12
         refine asI rfl rfl ?_
         refine lw_nil ?_
         refine cw_ret ?_
         exact fin1 (v := .int .i64 4) rfl rfl ⟨by rw [hE, if_pos (by simp [Ent.noForm, *])], H.below⟩)
      | (refine cw_false rfl ?_
         refine cw_skip ?_
         refine cw_seq ?_
         refine cw_region ?_ -- region 13
         refine asI rfl rfl ?_
         refine lw_nil ?_
         refine cw_ret ?_
         exact fin1 (v := .int .i64 0) rfl rfl ⟨by rw [hE, if_neg (by simp [Ent.noForm, *] <;> omega)], H.below⟩)
end Go.Proofs.Ytemnchkebhclpaa
