/- W15: a part of the proofs over this seat: what stands in its theorems holds for every input that they name. -/
import Derived.Test.YtemnchkebhclpaaW14
import Derived.Test.YtemnchkebhclpaaEngJ
namespace Go.Proofs.Ytemnchkebhclpaa
open Go Go.Eng Go.RowKit
set_option maxHeartbeats 4000000 in
set_option maxRecDepth 10000 in
theorem clone_byte_ok (es : List UInt8) (A : Option Addr) (c : Nat) (w : World) (hr : Rd byteL 0 w.heap.size A es w) (hb : es.length * 1 ≤ 140737488355328) :
    Ret Try.prog i_slices_Clone_Lbyte_byte [.slice A es.length c] w fun v w2 => ∃ A' c' L', v = .slice A' es.length c' ∧ es.length ≤ c' ∧ c' ≤ maxLen ∧ Own byteL (.slice A' es.length c') T_byte es L' ∧ Hp w w2 L' [] := by
  refine ret_of fn_slices_Clone_Lbyte_byte rfl rfl ?_
  have H := Hp.startRd hr
  refine cw_seq ?_
  refine cw_region ?_ -- region 0 slices.go:355
  refine l1 (asS_r rfl) rfl rfl rfl ?_
  refine lw_nil ?_
  refine cw_seq ?_
  refine cw_seq ?_
  refine cw_region ?_ -- region 1 slices.go:357
  refine l1 (mvS_r rfl) rfl rfl rfl ?_
  refine lwB (slnil_r len_Lbyte rfl) rfl rfl rfl (fun h4 => ?_) (fun h4 => ?_)
  · -- slot 4 True
    refine lw_nil ?_
    refine cw_true rfl ?_
    refine cw_seq ?_
    refine cw_region ?_ -- region 2 slices.go:358
    refine l1 (asS_r rfl) rfl rfl rfl ?_
    refine lw_nil ?_
    refine cw_ret ?_
    have he : es = [] := by
      cases es with
      | nil => rfl
      | cons e es => obtain ⟨b, o, hA, _⟩ := hr (by simp); subst hA; cases h4
    subst he
    exact fin1 rfl rfl ⟨none, 0, [], rfl, by simp, by decide, Own.nil, H.forget (by simp) (by simp)⟩
  · -- slot 4 False
    refine lw_nil ?_
    refine cw_false rfl ?_
    refine cw_skip ?_
    refine cw_seq ?_
    refine cw_region ?_ -- region 3 slices.go:362
    refine bs0 H sl_Lbyte rfl ?_; intro w1 b5 H
    refine l1 (mvS_r rfl) rfl rfl rfl ?_
    refine apO (Y := byteL) ap_Lbyte (K := []) (L := [(b5, _)]) (M := []) H (OwnE.lit (by decide) (by rfl)) (es := []) (news := es) rfl rfl rfl (Rd.src (H.fact (i := 0) rfl)) (by simpa using hb) rfl ?_
    intro A3 c3 w3 L3 h3a h3b ho3 H
    refine l1 (asS_r rfl) rfl rfl rfl ?_
    refine lw_nil ?_
    refine cw_ret ?_
    exact fin1 rfl rfl ⟨A3, c3, L3, rfl, h3a, h3b, ho3, H.forget (by simp) (by simp)⟩
set_option maxHeartbeats 4000000 in
set_option maxRecDepth 10000 in
theorem clone_Entry_ok (es : List Ent) (A : Option Addr) (c : Nat) (w : World) (hr : Rd entL 0 w.heap.size A es w) (hb : es.length * 64 ≤ 140737488355328) :
    Ret Try.prog i_slices_Clone_LEntry_Entry [.slice A es.length c] w fun v w2 => ∃ A' c' L', v = .slice A' es.length c' ∧ es.length ≤ c' ∧ c' ≤ maxLen ∧ Own entL (.slice A' es.length c') T_Entry es L' ∧ Hp w w2 L' [] := by
  refine ret_of fn_slices_Clone_LEntry_Entry rfl rfl ?_
  have H := Hp.startRd hr
  refine cw_seq ?_
  refine cw_region ?_ -- region 0 slices.go:355
  refine l1 (asS_r rfl) rfl rfl rfl ?_
  refine lw_nil ?_
  refine cw_seq ?_
  refine cw_seq ?_
  refine cw_region ?_ -- region 1 slices.go:357
  refine l1 (mvS_r rfl) rfl rfl rfl ?_
  refine lwB (slnil_r len_LEntry rfl) rfl rfl rfl (fun h4 => ?_) (fun h4 => ?_)
  · -- slot 4 True
    refine lw_nil ?_
    refine cw_true rfl ?_
    refine cw_seq ?_
    refine cw_region ?_ -- region 2 slices.go:358
    refine l1 (asS_r rfl) rfl rfl rfl ?_
    refine lw_nil ?_
    refine cw_ret ?_
    have he : es = [] := by
      cases es with
      | nil => rfl
      | cons e es => obtain ⟨b, o, hA, _⟩ := hr (by simp); subst hA; cases h4
    subst he
    exact fin1 rfl rfl ⟨none, 0, [], rfl, by simp, by decide, Own.nil, H.forget (by simp) (by simp)⟩
  · -- slot 4 False
    refine lw_nil ?_
    refine cw_false rfl ?_
    refine cw_skip ?_
    refine cw_seq ?_
    refine cw_region ?_ -- region 3 slices.go:362
    refine bs0 H sl_LEntry rfl ?_; intro w1 b5 H
    refine l1 (mvS_r rfl) rfl rfl rfl ?_
    refine apO (Y := entL) ap_LEntry (K := []) (L := [(b5, _)]) (M := []) H (OwnE.lit (by decide) (by rfl)) (es := []) (news := es) rfl rfl rfl (Rd.src (H.fact (i := 0) rfl)) (by simpa using hb) rfl ?_
    intro A3 c3 w3 L3 h3a h3b ho3 H
    refine l1 (asS_r rfl) rfl rfl rfl ?_
    refine lw_nil ?_
    refine cw_ret ?_
    exact fin1 rfl rfl ⟨A3, c3, L3, rfl, h3a, h3b, ho3, H.forget (by simp) (by simp)⟩
set_option maxHeartbeats 4000000 in
set_option maxRecDepth 10000 in
theorem clone_int_ok (es : List Int) (A : Option Addr) (c : Nat) (w : World) (hr : Rd intL 0 w.heap.size A es w) (hb : es.length * 8 ≤ 140737488355328) :
    Ret Try.prog i_slices_Clone_Lint_int [.slice A es.length c] w fun v w2 => ∃ A' c' L', v = .slice A' es.length c' ∧ es.length ≤ c' ∧ c' ≤ maxLen ∧ Own intL (.slice A' es.length c') T_int es L' ∧ Hp w w2 L' [] := by
  refine ret_of fn_slices_Clone_Lint_int rfl rfl ?_
  have H := Hp.startRd hr
  refine cw_seq ?_
  refine cw_region ?_ -- region 0 slices.go:355
  refine l1 (asS_r rfl) rfl rfl rfl ?_
  refine lw_nil ?_
  refine cw_seq ?_
  refine cw_seq ?_
  refine cw_region ?_ -- region 1 slices.go:357
  refine l1 (mvS_r rfl) rfl rfl rfl ?_
  refine lwB (slnil_r len_Lint rfl) rfl rfl rfl (fun h4 => ?_) (fun h4 => ?_)
  · -- slot 4 True
    refine lw_nil ?_
    refine cw_true rfl ?_
    refine cw_seq ?_
    refine cw_region ?_ -- region 2 slices.go:358
    refine l1 (asS_r rfl) rfl rfl rfl ?_
    refine lw_nil ?_
    refine cw_ret ?_
    have he : es = [] := by
      cases es with
      | nil => rfl
      | cons e es => obtain ⟨b, o, hA, _⟩ := hr (by simp); subst hA; cases h4
    subst he
    exact fin1 rfl rfl ⟨none, 0, [], rfl, by simp, by decide, Own.nil, H.forget (by simp) (by simp)⟩
  · -- slot 4 False
    refine lw_nil ?_
    refine cw_false rfl ?_
    refine cw_skip ?_
    refine cw_seq ?_
    refine cw_region ?_ -- region 3 slices.go:362
    refine bs0 H sl_Lint rfl ?_; intro w1 b5 H
    refine l1 (mvS_r rfl) rfl rfl rfl ?_
    refine apO (Y := intL) ap_Lint (K := []) (L := [(b5, _)]) (M := []) H (OwnE.lit (by decide) (by rfl)) (es := []) (news := es) rfl rfl rfl (Rd.src (H.fact (i := 0) rfl)) (by simpa using hb) rfl ?_
    intro A3 c3 w3 L3 h3a h3b ho3 H
    refine l1 (asS_r rfl) rfl rfl rfl ?_
    refine lw_nil ?_
    refine cw_ret ?_
    exact fin1 rfl rfl ⟨A3, c3, L3, rfl, h3a, h3b, ho3, H.forget (by simp) (by simp)⟩
end Go.Proofs.Ytemnchkebhclpaa
