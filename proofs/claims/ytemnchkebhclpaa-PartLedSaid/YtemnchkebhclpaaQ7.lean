/- Q7: a part of the proofs over this seat: what stands in its theorems holds for every input that they name. -/
import Derived.Test.YtemnchkebhclpaaGQ
namespace Go.Proofs.Ytemnchkebhclpaa
open Go Go.Eng Go.RowKit
set_option linter.unusedSimpArgs false
set_option linter.unusedVariables false
def eD : Ent := ⟨0, 0, 0, 0, 1, false, ⟨#[]⟩⟩
abbrev upx : RA := ⟨true, [], 0, 0⟩
abbrev dnx : RA := ⟨false, [], 0, 0⟩
/-- all of n replicas keep up, the first r - 1 of those that do not lead are down -/
def fewS (n few r : Nat) : PaA := ⟨1, 0, List.replicate n true, List.replicate n 0, upx :: (List.replicate (r - 1) dnx ++ List.replicate (n - r) upx), few, 0⟩
theorem few_elect {n few : Nat} (h1 : 2 ≤ n) (h2 : n ≤ 5) : (electA (newA n few) 0).1 = fewS n few 1 := by
  obtain rfl | rfl | rfl | rfl : n = 2 ∨ n = 3 ∨ n = 4 ∨ n = 5 := by omega
  all_goals rfl
theorem few_crash {n few r : Nat} (h1 : 2 ≤ n) (h2 : n ≤ 5) (hr : 1 ≤ r) (hrn : r < n) : crashA (fewS n few r) r 0 = (fewS n few (r + 1), 0) := by
  obtain rfl | rfl | rfl | rfl : n = 2 ∨ n = 3 ∨ n = 4 ∨ n = 5 := by omega
  all_goals obtain rfl | rfl | rfl | rfl : r = 1 ∨ r = 2 ∨ r = 3 ∨ r = 4 := by omega
  all_goals first | rfl | omega
theorem few_up {n few r : Nat} (h1 : 2 ≤ n) (h2 : n ≤ 5) (hr : 1 ≤ r) (hrn : r ≤ n) : upA (fewS n few r).isr (fewS n few r).reps 0 = (n : Int) - r + 1 := by
  obtain rfl | rfl | rfl | rfl : n = 2 ∨ n = 3 ∨ n = 4 ∨ n = 5 := by omega
  all_goals obtain rfl | rfl | rfl | rfl | rfl : r = 1 ∨ r = 2 ∨ r = 3 ∨ r = 4 ∨ r = 5 := by omega
  all_goals first | rfl | omega
theorem eD_good : entCheck { eD with epoch := 1 } = 0 := by decide
theorem few_put {n few r : Nat} (h1 : 2 ≤ n) (h2 : n ≤ 5) (hr : 1 ≤ r) (hrn : r ≤ n) : (putA (fewS n few r) eD).2.2 = if (n : Int) - r + 1 < few then 9 else 0 := by
  have hu := few_up (few := few) h1 h2 hr hrn
  unfold putA
  rw [if_neg (by simp [fewS])]
  have hg : (fewS n few r).reps[(fewS n few r).leader.toNat]? = some upx := rfl
  rw [hg]
  dsimp only
  rw [if_neg (by have := eD_good; simpa [fewS] using this)]
  have hv : vchk [] { eD with epoch := (fewS n few r).epoch } = (-1, 0) := by unfold vchk; exact if_pos rfl
  rw [hv]
  dsimp only
  rw [if_neg (by simp), if_neg (by omega), hu]
  have hf : (fewS n few r).few = few := rfl
  rw [hf]
  split
  · rfl
  · rfl
/-- what PartLed asks -/
theorem led_law {k i : Nat} (h1 : 2 ≤ k) (h2 : k ≤ 5) (hi : 1 ≤ i) (hik : i < k) : (putA (newA k 1) eD).2.2 = 8 ∧ (fetchA (newA k 1) i).2.2 = 8 ∧ (electA (newA k 1) 0).2 = 0 ∧ (shrinkA (electA (newA k 1) 0).1 i).2 = 0 ∧ (electA (shrinkA (electA (newA k 1) 0).1 i).1 i).2 = 13 ∧ (electA (electA (newA k 1) 0).1 0).2 = 6 ∧ (crashA (electA (newA k 1) 0).1 0 0).2 = 0 ∧ (electA (crashA (electA (newA k 1) 0).1 0 0).1 0).2 = 7 ∧ (electA (crashA (electA (newA k 1) 0).1 0 0).1 i).2 = 0 ∧ (crashA (electA (newA k 1) 0).1 0 0).1.leader = -1 ∧ (electA (crashA (electA (newA k 1) 0).1 0 0).1 i).1.leader = i ∧ (electA (crashA (electA (newA k 1) 0).1 0 0).1 i).1.epoch = 2 := by
  obtain rfl | rfl | rfl | rfl : k = 2 ∨ k = 3 ∨ k = 4 ∨ k = 5 := by omega
  all_goals obtain rfl | rfl | rfl | rfl : i = 1 ∨ i = 2 ∨ i = 3 ∨ i = 4 := by omega
  all_goals first | omega | exact ⟨rfl, rfl, rfl, rfl, rfl, rfl, rfl, rfl, rfl, rfl, rfl, rfl⟩
end Go.Proofs.Ytemnchkebhclpaa
