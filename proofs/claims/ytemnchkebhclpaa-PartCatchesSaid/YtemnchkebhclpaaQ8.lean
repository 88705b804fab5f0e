/- Q8: a part of the proofs over this seat: what stands in its theorems holds for every input that they name. -/
import Derived.Test.YtemnchkebhclpaaGQ
namespace Go.Proofs.Ytemnchkebhclpaa
open Go Go.Eng Go.RowKit
set_option linter.unusedSimpArgs false
set_option linter.unusedVariables false
theorem putE_good (i : Nat) {ep : Int} (h0 : 0 ≤ ep) (h1 : ep ≤ 1073741824) : entCheck { putE i with epoch := ep } = 0 := by
  have hl := wordT_len (i : Int)
  unfold entCheck
  rw [if_neg (by simp [putE]), if_neg (by simp [Ent.nums, putE, inNum]; omega), if_neg (by simp only [putE]; omega), if_neg (by simp [Ent.noForm, putE])]
def catE (i : Nat) : Ent := { putE i with epoch := 1 }
def catL (j : Nat) : List Ent := (List.range j).map catE
theorem catL_len (j : Nat) : (catL j).length = j := by simp [catL]
theorem catL_succ (j : Nat) : catL (j + 1) = catL j ++ [catE j] := by simp [catL, List.range_succ]
def catP (k : Nat) : PaA := ⟨1, 0, [true, false], [0, 0], [⟨true, catL k, 0, 0⟩, ⟨true, [], 0, 0⟩], 1, 0⟩
def catS (k j v : Nat) (b : Bool) : PaA := ⟨1, 0, [true, b], [(k : Nat), (v : Nat)], [⟨true, catL k, k, k⟩, ⟨true, (catL k).take j, j, j⟩], 1, 0⟩
theorem cat_start : (electA (newA 2 1) 0).2 = 0 ∧ shrinkA (electA (newA 2 1) 0).1 1 = (catP 0, 0) := ⟨rfl, rfl⟩
theorem cat_put (k : Nat) : putA (catP k) (putE k) = (catP (k + 1), ((k : Nat) : Int), 0) := by
  unfold putA
  rw [if_neg (by simp [catP])]
  have hg : (catP k).reps[(catP k).leader.toNat]? = some ⟨true, catL k, 0, 0⟩ := rfl
  rw [hg]
  dsimp only
  have hc : entCheck { putE k with epoch := (catP k).epoch } = 0 := putE_good k (by simp [catP]) (by simp [catP])
  rw [if_neg (by rw [hc]; simp)]
  have hv : vchk (catL k) { putE k with epoch := (catP k).epoch } = (-1, 0) := by unfold vchk; exact if_pos rfl
  rw [hv]
  dsimp only
  rw [if_neg (by simp), if_neg (by omega), if_neg (by simp [catP, upA])]
  rw [catL_len]
  have : catL (k + 1) = catL k ++ [{ putE k with epoch := (catP k).epoch }] := catL_succ k
  simp [catP, this]
theorem cat_sync0 {k : Nat} (hk : k ≤ 400) : syncA (catP k) 0 = (catS k 0 0 false, 0) := by
  unfold syncA
  have hg : (catP k).reps[0]? = some ⟨true, catL k, 0, 0⟩ := rfl
  rw [hg]
  dsimp only
  rw [if_neg (by simp), if_pos (show (catP k).leader = ((0 : Nat) : Int) from rfl), advA_at (l := 0) (r := ⟨true, catL k, k, 0⟩) rfl (by simp [catP, catL_len])]
  simp [catP, catS, leastA, catL_len]
  omega
theorem cat_expand {k j v : Nat} : (expandA (catS k j v false) 1).2 = if v < k then 13 else 0 := by
  unfold expandA
  rw [if_neg (by simp [catS]), if_neg (by simp [catS])]
  have hg : (catS k j v false).reps[1]? = some ⟨true, (catL k).take j, j, j⟩ := rfl
  rw [hg]
  dsimp only
  rw [if_neg (by simp)]
  have hh : highOf (catS k j v false) = (k : Nat) := rfl
  rw [hh]
  simp [catS]
  by_cases h : v < k
  · rw [if_pos (by omega), if_pos h]
  · rw [if_neg (by omega), if_neg h]
theorem cat_expanded {k j v : Nat} (h : k ≤ v) : expandA (catS k j v false) 1 = (catS k j v true, 0) := by
  unfold expandA
  rw [if_neg (by simp [catS]), if_neg (by simp [catS])]
  have hg : (catS k j v false).reps[1]? = some ⟨true, (catL k).take j, j, j⟩ := rfl
  rw [hg]
  dsimp only
  rw [if_neg (by simp)]
  have hh : highOf (catS k j v false) = (k : Nat) := rfl
  rw [hh, if_neg (by simp [catS]; omega)]
  rfl
theorem cat_again {k j v : Nat} : (expandA (catS k j v true) 1).2 = 6 := by
  unfold expandA
  rw [if_neg (by simp [catS]), if_pos (by simp [catS])]
theorem match_self {L : List Ent} {j : Nat} (h : j ≤ L.length) : matchN (L.take j) L = j := by
  have h1 := (matchN_le (L.take j) L).1
  have h2 := match_ge (a := L.take j) (b := L) (k := j) (by rw [List.length_take]; omega) (by rw [List.take_take, Nat.min_self])
  rw [List.length_take] at h1
  omega
theorem cat_fetch {k j v : Nat} (hj : j ≤ k) (hk : k ≤ 400) : (fetchA (catS k j v false) 1).2.2 = 0 ∧ (j < k → (syncA (fetchA (catS k j v false) 1).1 1) = (catS k (j + 1) j false, 0)) ∧ (j = k → (fetchA (catS k j v false) 1).1 = catS k j k false) := by
  have hm : matchN ((catL k).take j) (catL k) = j := match_self (by rw [catL_len]; exact hj)
  have hF := fetchA_at (p := catS k j v false) (r := 1) (l := 0) (x := ⟨true, (catL k).take j, j, j⟩) (y := ⟨true, catL k, k, k⟩) rfl rfl (by decide) rfl rfl
  dsimp only at hF
  rw [hm, Nat.min_self] at hF
  have hle : leastA (catS k j v false).isr ((catS k j v false).known.set 1 (j : Nat)) 400 = (k : Nat) := by simp [catS, leastA]; omega
  rw [hle, catL_len] at hF
  have hH : max ((k : Nat) : Int) (min ((k : Nat) : Int) ((k : Nat) : Int)) = (k : Nat) := by omega
  rw [hH] at hF
  refine ⟨by rw [hF], fun h => ?_, fun h => ?_⟩
  · obtain ⟨z, hz⟩ : ∃ z, (catL k)[j]? = some z := ⟨_, List.getElem?_eq_getElem (by rw [catL_len]; exact h)⟩
    have hfe : fetched ⟨true, (catL k).take j, j, j⟩ ⟨true, catL k, k, k⟩ (k : Nat) = (⟨true, (catL k).take (j + 1), j, ((j + 1 : Nat) : Int)⟩, 1) := by
      unfold fetched
      dsimp only
      rw [hm, hz]
      dsimp only
      rw [List.take_add_one, hz, Nat.min_self, show min (max ((j : Nat) : Int) ((k : Nat) : Int)) (((j : Nat) : Int) + 1) = ((j + 1 : Nat) : Int) by omega, List.take_take, Nat.min_self]
      rfl
    rw [hfe] at hF
    rw [hF]
    dsimp only
    unfold syncA
    have hg : (((catS k j v false).reps.set 0 ⟨true, catL k, k, (k : Nat)⟩).set 1 ⟨true, (catL k).take (j + 1), j, ((j + 1 : Nat) : Int)⟩)[1]? = some ⟨true, (catL k).take (j + 1), j, ((j + 1 : Nat) : Int)⟩ := rfl
    rw [hg]
    dsimp only
    rw [if_neg (by simp), if_neg (by simp [catS])]
    have hl : ((catL k).take (j + 1)).length = j + 1 := by rw [List.length_take, catL_len]; omega
    rw [hl]
    rfl
  · subst h
    have hfe : fetched ⟨true, (catL j).take j, j, j⟩ ⟨true, catL j, j, j⟩ (j : Nat) = (⟨true, (catL j).take j, j, (j : Nat)⟩, 0) := by
      unfold fetched
      dsimp only
      rw [hm, List.getElem?_eq_none (by rw [catL_len]; exact Nat.le_refl _)]
      dsimp only
      rw [List.take_take, Nat.min_self, show min (max ((j : Nat) : Int) ((j : Nat) : Int)) ((j : Nat) : Int) = ((j : Nat) : Int) by omega]
    rw [hfe] at hF
    rw [hF]
    rfl
end Go.Proofs.Ytemnchkebhclpaa
