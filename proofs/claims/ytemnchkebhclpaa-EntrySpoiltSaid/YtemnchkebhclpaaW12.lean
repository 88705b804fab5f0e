/- W12: a part of the proofs over this seat: what stands in its theorems holds for every input that they name. -/
import Derived.Test.YtemnchkebhclpaaW11
import Derived.Test.YtemnchkebhclpaaEngG
namespace Go.Proofs.Ytemnchkebhclpaa
open Go Go.Eng Go.RowKit
/-- picked -/
def pk (n : Int) (m : Nat) : Nat := (if n < 0 then (-(n + 1)).toNat else n.toNat) % m
theorem pk_lt (n : Int) {m : Nat} (h : 0 < m) : pk n m < m := Nat.mod_lt _ h
set_option maxRecDepth 4000 in
theorem picked_ok (n : Int) (m : Nat) (w : World) (h1 : -9223372036854775808 ≤ n) (h2 : n ≤ 9223372036854775807) (hm : 0 < m) (hm2 : m ≤ 1000000000000) :
    Ret Try.prog i_tailracekeep_picked [.int .i64 n, .int .i64 (m : Nat)] w fun v w2 => v = .int .i64 (pk n m : Nat) ∧ Below w.heap.size w w2 := by
  refine ret_of fn_tailracekeep_picked rfl rfl ?_
  have H := Hp.start w
  refine cw_seq ?_
  refine cw_region ?_ -- region 0
  refine asI rfl rfl ?_  -- 4 raw.go:7
  refine lw_nil ?_
  refine cw_seq ?_
  obtain ⟨a, ha⟩ : ∃ a : Nat, (if n < 0 then (-(n + 1)).toNat else n.toNat) = a := ⟨_, rfl⟩
  refine cw_cut (τ := Unit) [5, 6, 7, 8, 9, 0] (fun _ => [(0, .int .i64 (a : Nat))]) (fun _ w' => Hp w w' [] []) ?_ ?_
  · refine cw_seq ?_
    refine cw_region ?_ -- region 1
    refine mvI rfl rfl ?_  -- 5 raw.go:8
    refine lssS rfl rfl rfl (fun h6 => ?_) (fun h6 => ?_)  -- 6 raw.go:8
    all_goals refine lw_nil ?_
    · refine cw_true rfl ?_
      refine cw_region ?_ -- region 2
      refine mvI rfl rfl ?_  -- 7 raw.go:9
      refine l1 (addF_r rfl rfl (by omega) (by omega)) rfl rfl rfl ?_
      refine l1 (negF_r rfl (by omega) (by omega)) rfl rfl rfl ?_
      refine asI rfl rfl ?_  -- 0 raw.go:9
      refine lw_nil ?_
      have e : -(n + 1) = (a : Nat) := by rw [if_pos h6] at ha; omega
      rw [e]
      refine ⟨(), H, sl1 rfl, by repeat (first | exact Agr.refl _ _ | exact agr_ovr | refine agr_upd rfl ?_ | refine agr_updL _ rfl ?_)⟩
    · refine cw_false rfl ?_
      refine cw_skip ?_
      have e : n = (a : Nat) := by rw [if_neg h6] at ha; omega
      subst e
      refine ⟨(), H, sl1 rfl, by repeat (first | exact Agr.refl _ _ | exact agr_ovr | refine agr_upd rfl ?_ | refine agr_updL _ rfl ?_)⟩
  rintro _ ρ1 w1 H
  show CW _ _ _ _ (updL (ovr _ _ ρ1) [(0, .int .i64 (a : Nat))]) w1
  refine cw_seq ?_
  refine cw_region ?_ -- region 3
  refine mvI rfl rfl ?_  -- 10 raw.go:11
  refine mvI rfl rfl ?_  -- 11 raw.go:11
  refine rem rfl rfl (by omega) (by omega) rfl ?_  -- 12 raw.go:11
  refine asI rfl rfl ?_  -- 4 raw.go:11
  refine lw_nil ?_
  refine cw_ret ?_
  have e : ((a : Int) % (m : Int)) = (pk n m : Nat) := by unfold pk; rw [ha]; rfl
  rw [e]
  exact fin1 (v := .int .i64 (pk n m : Nat)) rfl rfl ⟨rfl, H.below⟩
end Go.Proofs.Ytemnchkebhclpaa
