/- GU: a part of the proofs over this seat: what stands in its theorems holds for every input that they name. -/
import Derived.Test.YtemnchkebhclpaaV5
import Derived.Test.YtemnchkebhclpaaGB
section
namespace Go.Proofs.Ytemnchkebhclpaa
open Go Go.Eng Go.RowKit
set_option linter.unusedSimpArgs false
def visL (es : List Ent) (n i : Nat) : List ByteArray := match es[i]? with
  | some e => if e.kind = 1 ∧ keptE (es.take n) i e = true then [e.text] else []
  | none => []
/-- the texts from place a to below place b that a reader sees, where n entries are kept -/
def texts (es : List Ent) (n a b : Nat) : List ByteArray := (List.range' a (b - a)).flatMap (visL es n)
theorem texts_self (es : List Ent) (n a : Nat) : texts es n a a = [] := by simp [texts]
theorem texts_succ {es : List Ent} {n a b : Nat} (h : a ≤ b) : texts es n a (b + 1) = texts es n a b ++ visL es n b := by
  unfold texts
  have e : b + 1 - a = (b - a) + 1 := by omega
  rw [e, List.range'_1_concat, List.flatMap_append]
  have e2 : a + (b - a) = b := by omega
  simp [e2]
theorem texts_app {es : List Ent} {n a b c : Nat} (h1 : a ≤ b) (h2 : b ≤ c) : texts es n a c = texts es n a b ++ texts es n b c := by
  induction c with
  | zero =>
    have : b = 0 := by omega
    subst this
    rw [texts_self, List.append_nil]
  | succ c ih =>
    by_cases hb : b = c + 1
    · subst hb; rw [texts_self, List.append_nil]
    · rw [texts_succ (by omega), texts_succ (by omega), ih (by omega), List.append_assoc]
/-- P3.3: what a reader gets from a place on -/
def ReadS (es : List Ent) (n st a most : Nat) (out : List ByteArray) (b : Nat) : Prop := a ≤ b ∧ (b = a ∨ b ≤ st) ∧ out = texts es n a b ∧ out.length ≤ most ∧ (st ≤ b ∨ out.length = most)
set_option maxHeartbeats 4000000 in
set_option maxRecDepth 10000 in
theorem read_ok (es : List Ent) (A : Option Addr) (c n a most : Nat) (w : World) (hr : Rd entL 0 w.heap.size A es w) (hc : es.length ≤ c) (hb : es.length ≤ 1000000) (hn : n ≤ es.length) (ha : a ≤ es.length) (hm1 : 1 ≤ most) (hm2 : most ≤ 20) :
    Ret Try.prog i_view_Read [.slice A es.length c, .int .i64 (n : Nat), .int .i64 (a : Nat), .int .i64 (most : Nat)] w fun v w2 => ∃ (st : Nat) (out : List ByteArray) (b : Nat) (A' : Option Addr) (c' : Nat), isStab (es.take n) st ∧ ReadS es n st a most out b ∧ v = .tuple #[.slice A' out.length c', .int .i64 (b : Nat), .int .i64 0] ∧ Rd strL w.heap.size w2.heap.size A' out w2 ∧ out.length ≤ c' ∧ Below w.heap.size w w2 := by
  refine ret_of fn_view_Read rfl rfl ?_
  have H := Hp.startRd hr
  refine cw_seq ?_
  refine cw_region ?_ -- region 0 view.go:103
  refine l1 (asS_r rfl) rfl rfl rfl ?_
  refine l1 (asI_r rfl) rfl rfl rfl ?_
  refine l1 (asI_r rfl) rfl rfl rfl ?_
  refine lw_nil ?_
  refine cw_seq ?_
  refine cw_region ?_ -- region 1 view.go:104
  refine l1 (mvS_r rfl) rfl rfl rfl ?_
  refine l1 (mvI_r rfl) rfl rfl rfl ?_
  refine cal cb_view_Stable (stable_ok es _ _ n _ (H.rd0 0 rfl) hc hb hn) rfl rfl ?_
  rintro _ w1 ⟨st, hst, rfl, hb2⟩; replace H := H.later hb2; clear hb2
  have hstl : st ≤ n := by have := hst.1; simp at this; omega
  refine l1 (mvU_r rfl) rfl rfl rfl ?_
  refine l1 (exI_r rfl rfl) rfl rfl rfl ?_
  refine l1 (exI_r rfl rfl) rfl rfl rfl ?_
  refine l1 (asI_r rfl) rfl rfl rfl ?_
  refine l1 (asI_r rfl) rfl rfl rfl ?_
  refine lw_nil ?_
  refine cw_seq ?_
  refine cw_seq ?_
  refine cw_region ?_ -- region 2 view.go:105
  refine l1 (mvI_r rfl) rfl rfl rfl ?_
  refine l1 (neqF_r rfl rfl rfl) rfl rfl rfl ?_
  refine lw_nil ?_
  refine cw_false rfl ?_
  refine cw_skip ?_
  refine cw_seq ?_
  refine cw_seq ?_
  refine cw_region ?_ -- region 4 view.go:108
  refine l1 (mvI_r rfl) rfl rfl rfl ?_
  refine l1 (lssF_r rfl rfl (by omega)) rfl rfl rfl ?_
  refine l1 (mvB_r rfl) rfl rfl rfl ?_
  refine lwG rfl ?_
  refine l1 (mvI_r rfl) rfl rfl rfl ?_
  refine lwG rfl ?_
  refine l1 (mvS_r rfl) rfl rfl rfl ?_
  refine lwG rfl ?_
  refine l1 (lenS_r len_LEntry rfl) rfl rfl rfl ?_
  refine lwG rfl ?_
  refine l1 (gtrF_r rfl rfl (by omega)) rfl rfl rfl ?_
  refine l1 (pkFB_r rfl rfl) rfl rfl rfl ?_
  refine l1 (mvB_r rfl) rfl rfl rfl ?_
  refine lwG rfl ?_
  refine l1 (mvI_r rfl) rfl rfl rfl ?_
  refine lwG rfl ?_
  refine l1 (lssF_r rfl rfl (by omega)) rfl rfl rfl ?_
  refine l1 (pkFB_r rfl rfl) rfl rfl rfl ?_
  refine l1 (mvB_r rfl) rfl rfl rfl ?_
  refine lwG rfl ?_
  refine l1 (mvI_r rfl) rfl rfl rfl ?_
  refine lwG rfl ?_
  refine l1 (gtrF_r rfl rfl (by omega)) rfl rfl rfl ?_
  refine l1 (pkFB_r rfl rfl) rfl rfl rfl ?_
  refine lw_nil ?_
  refine cw_false rfl ?_
  refine cw_skip ?_
  refine cw_seq ?_
  refine cw_region ?_ -- region 6 view.go:111
  refine l1 (asS_r rfl) rfl rfl rfl ?_
  refine lw_nil ?_
  refine cw_seq ?_
  refine cw_region ?_ -- region 7 view.go:112
  refine l1 (mvI_r rfl) rfl rfl rfl ?_
  refine l1 (asI_r rfl) rfl rfl rfl ?_
  refine lw_nil ?_
  refine cw_seq ?_
  refine cw_block ?_ -- block 0
  refine cw_loop (τ := Nat × List ByteArray × Option Addr × Nat) [13, 14, 41, 42, 43, 44, 45, 46, 47, 48, 49, 50, 51, 52, 53, 54, 55, 56, 57, 58, 59, 60, 61, 62, 63, 64, 65, 66, 67, 68, 69, 70, 71, 72] (fun (at_, out, A1, c1) => [(13, .slice A1 out.length c1), (14, .int .i64 (at_ : Nat))]) (fun (at_, out, A1, c1) w' => a ≤ at_ ∧ (at_ = a ∨ at_ ≤ st) ∧ out = texts es n a at_ ∧ out.length ≤ most ∧ ∃ L', Own strL (.slice A1 out.length c1) T_string out L' ∧ Hp w w' ([] ++ L' ++ []) [FRd entL 0 w.heap.size A es]) (fun (at_, _, _, _) => st - at_) (a, [], none, 0) ⟨by omega, .inl rfl, (texts_self _ _ _).symm, by simp, [], Own.nil, H⟩ (sl2 rfl rfl) ?_ -- LOOP 0
  rintro ⟨at_, out, A1, c1⟩ ρ1 w2 ⟨hat1, hat2, hout, hol, L1, ho, H⟩
  show CW _ _ _ _ (updL (ovr _ _ ρ1) [(13, .slice A1 out.length c1), (14, .int .i64 (at_ : Nat))]) w2
  refine cw_seq ?_
  refine cw_seq ?_
  refine cw_region ?_ -- region 8 view.go:113
  refine l1 (mvI_r rfl) rfl rfl rfl ?_
  refine l1 (mvI_r rfl) rfl rfl rfl ?_
  refine lwD (lss_r rfl rfl) rfl rfl rfl (fun h43 => ?_) (fun h43 => ?_)
  · -- slot 43 True
    refine l1 (mvB_r rfl) rfl rfl rfl ?_
    refine lwG rfl ?_
    refine l1 (mvS_r rfl) rfl rfl rfl ?_
    refine lwG rfl ?_
    refine l1 (lenS_r len_Lstring rfl) rfl rfl rfl ?_
    refine lwG rfl ?_
    refine l1 (mvI_r rfl) rfl rfl rfl ?_
    refine lwG rfl ?_
    refine lwD (lss_r rfl rfl) rfl rfl rfl (fun h48 => ?_) (fun h48 => ?_)
    · -- slot 48 True
      refine l1 (pkTB_r rfl rfl) rfl rfl rfl ?_
      refine lw_nil ?_
      refine cw_true rfl ?_
      refine cw_skip ?_
      refine cw_seq ?_
      refine cw_block ?_ -- block 1
      refine cw_seq ?_
      refine cw_region ?_ -- region 10 view.go:114
      refine l1 (mvS_r rfl) rfl rfl rfl ?_
      refine l1 (mvI_r rfl) rfl rfl rfl ?_
      refine ixF H 0 rfl sl_LEntry rfl rfl (by omega) (by omega) rfl ?_; intro b3 o3 x3 e3
      have hxt : (es.take n)[at_]? = some x3 := by rw [List.getElem?_take_of_lt (by omega)]; exact e3.at_
      refine l1 (fad_r fd_Entry_4 rfl) rfl rfl rfl ?_
      refine l1 (ld_r one_int rfl (e3.cl 4 _ rfl)) rfl rfl rfl ?_
      refine lwD (eql_r rfl rfl) rfl rfl rfl (fun h57 => ?_) (fun h57 => ?_)
      · -- slot 57 True
        refine l1 (mvB_r rfl) rfl rfl rfl ?_
        refine lwG rfl ?_
        refine l1 (mvS_r rfl) rfl rfl rfl ?_
        refine lwG rfl ?_
        refine l1 (mvI_r rfl) rfl rfl rfl ?_
        refine lwG rfl ?_
        refine sliHiF (k := n) H 0 rfl sl_LEntry rfl rfl hc (by omega) rfl ?_; intro A61 H
        refine lwG rfl ?_
        have hK := kept_ok (es.take n) A61 c at_ x3 _ (H.rd0 0 rfl) hxt (by simp; omega) (by simp; omega)
        rw [show (es.take n).length = n by simp; omega] at hK
        refine l1 (mvI_r rfl) rfl rfl rfl ?_
        refine lwG rfl ?_
        refine cal cb_view_kept (hK) rfl rfl ?_
        rintro _ w4 ⟨rfl, hb2⟩; replace H := H.later hb2; clear hb2
        refine l1 (pkTB_r rfl rfl) rfl rfl rfl ?_
        refine lw_nil ?_
        refine cw_if rfl (fun hc64 => ?_) (fun hc64 => ?_)
        · -- cond 64 True
          refine cw_region ?_ -- region 11 view.go:115
          refine l1 (mvS_r rfl) rfl rfl rfl ?_
          refine l1 (mvS_r rfl) rfl rfl rfl ?_
          refine l1 (mvI_r rfl) rfl rfl rfl ?_
          refine ixF H 1 rfl sl_LEntry rfl rfl (by omega) (by omega) rfl ?_; intro b5 o5 x5 e5
          refine l1 (fad_r fd_Entry_6 rfl) rfl rfl rfl ?_
          refine l1 (ld_r one_string rfl (e5.cl 6 _ rfl)) rfl rfl rfl ?_
          refine bsv (vs := [.string x5.text]) H sl_Lstring z_string rfl rfl rfl rfl rfl rfl ?_; intro w6 b71 H
          have hxx : x5 = x3 := by have h1 := e3.at_; rw [e5.at_] at h1; injection h1
          refine apO (Y := strL) ap_Lstring (K := [(b71, _)]) (L := L1) (M := []) H ho (news := [x5.text]) rfl rfl rfl (Src.row (m := 1) (sz := 1) (H.ent (i := 0) rfl) rfl) (by simp only [List.length_singleton]; omega) rfl ?_
          intro A3 c3 w7 L3 h3a _ ho3 H
          refine l1 (asS_r rfl) rfl rfl rfl ?_
          refine lw_nil ?_
          refine cw_region ?_ -- region 9 view.go:113
          refine l1 (mvI_r rfl) rfl rfl rfl ?_
          refine l1 (add_r rfl rfl (by omega) (by omega)) rfl rfl rfl ?_
          refine l1 (asI_r rfl) rfl rfl rfl ?_
          refine lw_nil ?_
          have hvis : visL es n at_ = [x5.text] := by unfold visL; rw [e3.at_]; simp only; rw [if_pos ⟨h57, hc64⟩, hxx]
          refine ⟨(at_ + 1, out ++ [x5.text], A3, c3), ⟨by omega, .inr (by omega), by rw [texts_succ hat1, hvis, hout], by simp; omega, L3, ho3, H.forget (by simp) (by simp)⟩, sl2 rfl rfl, by repeat (first | exact Agr.refl _ _ | exact agr_ovr | refine agr_upd rfl ?_ | refine agr_updL _ rfl ?_ | refine agr_ovr2 rfl ?_), by show st - (at_ + 1) < st - at_; omega⟩
        · -- cond 64 False
          refine cw_skip ?_
          refine cw_region ?_ -- region 9 view.go:113
          refine l1 (mvI_r rfl) rfl rfl rfl ?_
          refine l1 (add_r rfl rfl (by omega) (by omega)) rfl rfl rfl ?_
          refine l1 (asI_r rfl) rfl rfl rfl ?_
          refine lw_nil ?_
          have hvis : visL es n at_ = [] := by unfold visL; rw [e3.at_]; simp only; rw [if_neg (by rintro ⟨p, q⟩; first | exact h57 p | (rw [hc64] at q; cases q))]
          refine ⟨(at_ + 1, out, A1, c1), ⟨by omega, .inr (by omega), by rw [texts_succ hat1, hvis, hout, List.append_nil], hol, L1, ho, H.forget (by simp) (by simp)⟩, sl2 rfl rfl, by repeat (first | exact Agr.refl _ _ | exact agr_ovr | refine agr_upd rfl ?_ | refine agr_updL _ rfl ?_ | refine agr_ovr2 rfl ?_), by show st - (at_ + 1) < st - at_; omega⟩
      · -- slot 57 False
        refine l1 (mvB_r rfl) rfl rfl rfl ?_
        refine lwN rfl rfl rfl ?_
        refine lwN rfl rfl rfl ?_
        refine lwN rfl rfl rfl ?_
        refine lwN rfl rfl rfl ?_
        refine lwN rfl rfl rfl ?_
        refine l1 (pkFB_r rfl rfl) rfl rfl rfl ?_
        refine lw_nil ?_
        refine cw_false rfl ?_
        refine cw_skip ?_
        refine cw_region ?_ -- region 9 view.go:113
        refine l1 (mvI_r rfl) rfl rfl rfl ?_
        refine l1 (add_r rfl rfl (by omega) (by omega)) rfl rfl rfl ?_
        refine l1 (asI_r rfl) rfl rfl rfl ?_
        refine lw_nil ?_
        have hvis : visL es n at_ = [] := by unfold visL; rw [e3.at_]; simp only; rw [if_neg (by rintro ⟨p, q⟩; first | exact h57 p | (rw [hc64] at q; cases q))]
        refine ⟨(at_ + 1, out, A1, c1), ⟨by omega, .inr (by omega), by rw [texts_succ hat1, hvis, hout, List.append_nil], hol, L1, ho, H.forget (by simp) (by simp)⟩, sl2 rfl rfl, by repeat (first | exact Agr.refl _ _ | exact agr_ovr | refine agr_upd rfl ?_ | refine agr_updL _ rfl ?_ | refine agr_ovr2 rfl ?_), by show st - (at_ + 1) < st - at_; omega⟩
    · -- slot 48 False
      refine l1 (pkTB_r rfl rfl) rfl rfl rfl ?_
      refine lw_nil ?_
      refine cw_false rfl ?_
      refine cw_exit ?_ -- 0
      refine cw_seq ?_
      refine cw_region ?_ -- region 12 view.go:118
      refine l1 (mvS_r rfl) rfl rfl rfl ?_
      refine l1 (mvI_r rfl) rfl rfl rfl ?_
      refine l1 (asS_r rfl) rfl rfl rfl ?_
      refine l1 (asI_r rfl) rfl rfl rfl ?_
      refine l1 (asI_r rfl) rfl rfl rfl ?_
      refine lw_nil ?_
      refine cw_ret ?_
      obtain ⟨A2, c2, he, hlc, -⟩ := ho.form
      injection he with h1 h2 h3
      subst h3
      exact fin3 rfl rfl rfl rfl ⟨st, out, at_, A1, c1, hst, ⟨hat1, hat2, hout, hol, by omega⟩, rfl, ho.rd H, hlc, H.below⟩
  · -- slot 43 False
    refine l1 (mvB_r rfl) rfl rfl rfl ?_
    refine lwN rfl rfl rfl ?_
    refine lwN rfl rfl rfl ?_
    refine lwN rfl rfl rfl ?_
    refine lwN rfl rfl rfl ?_
    refine l1 (pkFB_r rfl rfl) rfl rfl rfl ?_
    refine lw_nil ?_
    refine cw_false rfl ?_
    refine cw_exit ?_ -- 0
    refine cw_seq ?_
    refine cw_region ?_ -- region 12 view.go:118
    refine l1 (mvS_r rfl) rfl rfl rfl ?_
    refine l1 (mvI_r rfl) rfl rfl rfl ?_
    refine l1 (asS_r rfl) rfl rfl rfl ?_
    refine l1 (asI_r rfl) rfl rfl rfl ?_
    refine l1 (asI_r rfl) rfl rfl rfl ?_
    refine lw_nil ?_
    refine cw_ret ?_
    obtain ⟨A2, c2, he, hlc, -⟩ := ho.form
    injection he with h1 h2 h3
    subst h3
    exact fin3 rfl rfl rfl rfl ⟨st, out, at_, A1, c1, hst, ⟨hat1, hat2, hout, hol, by omega⟩, rfl, ho.rd H, hlc, H.below⟩
end Go.Proofs.Ytemnchkebhclpaa
end

section
namespace Go.Proofs.Ytemnchkebhclpaa
open Go Go.Eng Go.RowKit
set_option linter.unusedSimpArgs false
/-- what IndexFunc answers -/
def idxI : Option Nat → Int
  | some i => i
  | none => -1
set_option maxHeartbeats 4000000 in
set_option maxRecDepth 10000 in
theorem indexFunc_Entry_ok (es : List Ent) (A : Option Addr) (c : Nat) (w : World) (hr : Rd entL 0 w.heap.size A es w) (hb : es.length ≤ 1000000) (f : FuncId) (cap : List Value) (hf : callB Try.prog f = true) (pred : Ent → Bool)
    (hp : ∀ e w', e ∈ es → Below w.heap.size w w' → Ret Try.prog f (.agg (entL.f e).toArray :: cap) w' fun v w2 => v = .bool (pred e) ∧ Below w'.heap.size w' w2) :
    Ret Try.prog i_slices_IndexFunc_LEntry_Entry [.slice A es.length c, .func (.func f) #[] cap.toArray] w fun v w2 => v = .int .i64 (idxI (es.findIdx? pred)) ∧ Below w.heap.size w w2 := by
  refine ret_of fn_slices_IndexFunc_LEntry_Entry rfl rfl ?_
  have H := Hp.startRd hr
  refine cw_seq ?_
  refine cw_region ?_ -- region 0 slices.go:107
  refine l1 (asI_r rfl) rfl rfl rfl ?_
  refine lw_nil ?_
  refine cw_seq ?_
  refine cw_seq ?_
  refine cw_region ?_ -- region 1 slices.go:108
  refine l1 (mvS_r rfl) rfl rfl rfl ?_
  refine l1 (lenS_r len_LEntry rfl) rfl rfl rfl ?_
  refine l1 (mvI_r rfl) rfl rfl rfl ?_
  refine lw_nil ?_
  refine cw_block ?_ -- block 0
  refine cw_loop (τ := Nat) [4, 5, 8, 9, 10, 11, 12, 13, 14, 15, 16, 17, 18] (fun k => [(8, .int .i64 (k : Nat))]) (fun k w' => k ≤ es.length ∧ (∀ j e, j < k → es[j]? = some e → pred e = false) ∧ Hp w w' [] [FRd entL 0 w.heap.size A es]) (fun k => es.length - k) 0 ⟨by omega, by intro j e hj; omega, H⟩ (sl1 rfl) ?_ -- LOOP 0
  rintro k ρ1 w1 ⟨hk, hno, H⟩
  show CW _ _ _ _ (updL (ovr _ _ ρ1) [(8, .int .i64 (k : Nat))]) w1
  refine cw_seq ?_
  refine cw_region ?_ -- region 2 slices.go:108
  refine lwD (lss_r rfl rfl) rfl rfl rfl (fun h9 => ?_) (fun h9 => ?_)
  · -- slot 9 True
    refine lw_nil ?_
    refine cw_seq ?_
    refine cw_true rfl ?_
    refine cw_skip ?_
    refine cw_seq ?_
    refine cw_block ?_ -- block 1
    refine cw_seq ?_
    refine cw_region ?_ -- region 3 slices.go:108
    refine l1 (mvI_r rfl) rfl rfl rfl ?_
    refine l1 (asI_r rfl) rfl rfl rfl ?_
    refine lw_nil ?_
    refine cw_seq ?_
    refine cw_region ?_ -- region 4 slices.go:109
    refine l1 (mvF_r rfl) rfl rfl rfl ?_
    refine l1 (mvS_r rfl) rfl rfl rfl ?_
    refine l1 (mvI_r rfl) rfl rfl rfl ?_
    refine ixF H 0 rfl sl_LEntry rfl rfl (by omega) (by omega) rfl ?_; intro b2 o2 x2 e2
    refine l1 (ldA_r (xs := entL.f x2) agg_Entry rfl rfl e2.cl) rfl rfl rfl ?_
    refine calF hf rfl (hp x2 _ (List.mem_of_getElem? e2.at_) H.below) rfl rfl ?_; rintro _ w3 ⟨rfl, hb2⟩; replace H := H.later hb2; clear hb2
    refine lwCase 16 rfl (fun h16 => ?_) (fun h16 => ?_)
    · -- branch
      refine lw_nil ?_
      refine cw_true rfl ?_
      refine cw_seq ?_
      refine cw_region ?_ -- region 5 slices.go:110
      refine l1 (mvI_r rfl) rfl rfl rfl ?_
      refine l1 (asI_r rfl) rfl rfl rfl ?_
      refine lw_nil ?_
      refine cw_ret ?_
      have hi : es.findIdx? pred = some k := by
        rw [List.findIdx?_eq_some_iff_getElem]
        obtain ⟨hl, hx⟩ := getE e2.at_
        exact ⟨hl, by rw [hx]; exact h16, fun j hj => by rw [hno j _ hj (List.getElem?_eq_getElem (by omega))]; simp⟩
      exact fin1 (v := .int .i64 (k : Nat)) rfl rfl ⟨by rw [hi]; rfl, H.below⟩
    · -- branch
      refine lw_nil ?_
      refine cw_false rfl ?_
      refine cw_skip ?_
      refine cw_region ?_ -- region 6 slices.go:108
      refine l1 (add_r rfl rfl (by omega) (by omega)) rfl rfl rfl ?_
      refine l1 (mvI_r rfl) rfl rfl rfl ?_
      refine lw_nil ?_
      refine ⟨k + 1, ⟨by omega, fun j e hj he => ?_, H⟩, sl1 rfl, by repeat (first | exact Agr.refl _ _ | exact agr_ovr | refine agr_upd rfl ?_ | refine agr_updL _ rfl ?_ | refine agr_ovr2 rfl ?_), by show es.length - (k + 1) < es.length - k; omega⟩
      by_cases hji : j < k
      · exact hno j e hji he
      · have : j = k := by omega
        subst this; have he2 := e2.at_; rw [he] at he2; injection he2 with he2; subst he2; exact h16
  · -- slot 9 False
    refine lw_nil ?_
    refine cw_seq ?_
    refine cw_false rfl ?_
    refine cw_exit ?_ -- 0
    refine cw_seq ?_
    refine cw_region ?_ -- region 7 slices.go:113
    refine l1 (asI_r rfl) rfl rfl rfl ?_
    refine lw_nil ?_
    refine cw_ret ?_
    have hi : es.findIdx? pred = none := by
      rw [List.findIdx?_eq_none_iff]
      intro e he
      obtain ⟨j, hj⟩ := List.mem_iff_getElem?.1 he
      exact hno j e (by have := (getE hj).1; omega) hj
    exact fin1 (v := .int .i64 (-1)) rfl rfl ⟨by rw [hi]; rfl, H.below⟩
set_option maxHeartbeats 4000000 in
set_option maxRecDepth 10000 in
theorem containsFunc_Entry_ok (es : List Ent) (A : Option Addr) (c : Nat) (w : World) (hr : Rd entL 0 w.heap.size A es w) (hb : es.length ≤ 1000000) (f : FuncId) (cap : List Value) (hf : callB Try.prog f = true) (pred : Ent → Bool)
    (hp : ∀ e w', e ∈ es → Below w.heap.size w w' → Ret Try.prog f (.agg (entL.f e).toArray :: cap) w' fun v w2 => v = .bool (pred e) ∧ Below w'.heap.size w' w2) :
    Ret Try.prog i_slices_ContainsFunc_LEntry_Entry [.slice A es.length c, .func (.func f) #[] cap.toArray] w fun v w2 => v = .bool (es.any pred) ∧ Below w.heap.size w w2 := by
  refine ret_of fn_slices_ContainsFunc_LEntry_Entry rfl rfl ?_
  have H := Hp.start w
  refine cw_seq ?_
  refine cw_region ?_ -- region 0 slices.go:124
  refine l1 (asB_r rfl) rfl rfl rfl ?_
  refine lw_nil ?_
  refine cw_seq ?_
  refine cw_region ?_ -- region 1 slices.go:125
  refine l1 (mvS_r rfl) rfl rfl rfl ?_
  refine l1 (mvF_r rfl) rfl rfl rfl ?_
  refine cal cb_slices_IndexFunc_LEntry_Entry (indexFunc_Entry_ok es _ _ _ hr hb f cap hf pred hp) rfl rfl ?_
  rintro _ w1 ⟨rfl, hb⟩; replace H := H.later hb; clear hb
  refine l1 (geq_r rfl rfl) rfl rfl rfl ?_
  refine l1 (asB_r rfl) rfl rfl rfl ?_
  refine lw_nil ?_
  refine cw_ret ?_
  have hv : decide (0 ≤ idxI (es.findIdx? pred)) = es.any pred := by
    cases hi : es.findIdx? pred with
    | none => rw [List.findIdx?_eq_none_iff] at hi; simp [idxI]; exact fun a h => hi a h
    | some i =>
      obtain ⟨hl, h1, -⟩ := List.findIdx?_eq_some_iff_getElem.1 hi
      have : es.any pred = true := List.any_eq_true.2 ⟨_, List.getElem_mem hl, h1⟩
      rw [this]; simp [idxI]
  exact fin1 (v := .bool (decide (0 ≤ idxI (es.findIdx? pred)))) rfl rfl ⟨by rw [hv], H.below⟩
/-- what comes of entries that are checked one by one -/
def sentE (l : List Ent) : List Ent := l.foldl (fun out x => if (vchk out x).2 = 0 ∧ (vchk out x).1 < 0 then out ++ [x] else out) []
theorem sentE_snoc (l : List Ent) (x : Ent) : sentE (l ++ [x]) = if (vchk (sentE l) x).2 = 0 ∧ (vchk (sentE l) x).1 < 0 then sentE l ++ [x] else sentE l := by
  unfold sentE; rw [List.foldl_append]; rfl
theorem sentE_sub (l : List Ent) : (∀ e ∈ sentE l, e ∈ l) ∧ (sentE l).length ≤ l.length := by
  induction l using snoc_ind with
  | h0 => exact ⟨fun e h => by simp [sentE] at h, by simp [sentE]⟩
  | h1 l x ih =>
    rw [sentE_snoc]
    split
    · refine ⟨fun e he => ?_, by simp; exact ih.2⟩
      rcases List.mem_append.1 he with h | h
      · exact List.mem_append_left _ (ih.1 e h)
      · exact List.mem_append_right _ h
    · exact ⟨fun e he => List.mem_append_left _ (ih.1 e he), by simp; have := ih.2; omega⟩
set_option maxHeartbeats 4000000 in
set_option maxRecDepth 10000 in
theorem sent_ok (es : List Ent) (A : Option Addr) (c : Nat) (w : World) (hr : Rd entL 0 w.heap.size A es w) (hb : es.length ≤ 1000) (hq : seqB es) :
    Ret Try.prog i_tailracekeep_sent [.slice A es.length c] w fun v w2 => ∃ A' c', v = .slice A' (sentE es).length c' ∧ Rd entL w.heap.size w2.heap.size A' (sentE es) w2 ∧ (sentE es).length ≤ c' ∧ Below w.heap.size w w2 := by
  refine ret_of fn_tailracekeep_sent rfl rfl ?_
  have H := Hp.startRd hr
  refine cw_seq ?_
  refine cw_region ?_ -- region 0 low.go:156
  refine l1 (asS_r rfl) rfl rfl rfl ?_
  refine lw_nil ?_
  refine cw_seq ?_
  refine cw_region ?_ -- region 1 low.go:157
  refine l1 (asS_r rfl) rfl rfl rfl ?_
  refine lw_nil ?_
  refine cw_seq ?_
  refine cw_seq ?_
  refine cw_region ?_ -- region 2 low.go:158
  refine l1 (mvS_r rfl) rfl rfl rfl ?_
  refine l1 (lenS_r len_LEntry rfl) rfl rfl rfl ?_
  refine l1 (mvI_r rfl) rfl rfl rfl ?_
  refine lw_nil ?_
  refine cw_block ?_ -- block 0
  refine cw_loop (τ := Nat × List Ent × Option Addr × Nat) [3, 5, 6, 7, 10, 11, 12, 13, 14, 15, 16, 17, 18, 19, 20, 21, 22, 23, 24, 25, 26, 27, 28, 29, 30] (fun (k, out, A1, c1) => [(3, .slice A1 out.length c1), (10, .int .i64 (k : Nat))]) (fun (k, out, A1, c1) w' => k ≤ es.length ∧ out = sentE (es.take k) ∧ ∃ L', Own entL (.slice A1 out.length c1) T_Entry out L' ∧ Hp w w' ([] ++ L' ++ []) [FRd entL 0 w.heap.size A es]) (fun (k, _, _, _) => es.length - k) (0, [], none, 0) ⟨by omega, rfl, [], Own.nil, H⟩ (sl2 rfl rfl) ?_ -- LOOP 0
  rintro ⟨k, out, A1, c1⟩ ρ1 w1 ⟨hk, hout, L1, ho, H⟩
  show CW _ _ _ _ (updL (ovr _ _ ρ1) [(3, .slice A1 out.length c1), (10, .int .i64 (k : Nat))]) w1
  refine cw_seq ?_
  refine cw_region ?_ -- region 3 low.go:158
  refine lwD (lss_r rfl rfl) rfl rfl rfl (fun h11 => ?_) (fun h11 => ?_)
  · -- slot 11 True
    refine lw_nil ?_
    refine cw_seq ?_
    refine cw_true rfl ?_
    refine cw_skip ?_
    refine cw_seq ?_
    refine cw_block ?_ -- block 1
    refine cw_seq ?_
    refine cw_region ?_ -- region 4 low.go:158
    refine ixF H 0 rfl sl_LEntry rfl rfl (by omega) (by omega) rfl ?_; intro b2 o2 x2 e2
    have hol : out.length ≤ es.length := by rw [hout]; have := (sentE_sub (es.take k)).2; simp at this; omega
    have hqo : seqB out := fun e he => by rw [hout] at he; exact hq e (List.take_subset _ _ ((sentE_sub _).1 e he))
    refine l1 (ldA_r (xs := Ent.c x2) agg_Entry rfl rfl e2.cl) rfl rfl rfl ?_
    refine alo H z_Entry rfl ?_; intro w3 b5 H
    refine stW H 0 siz_Entry rfl rfl rfl rfl rfl rfl ?_; intro w4 H
    refine lw_nil ?_
    refine cw_seq ?_
    refine cw_region ?_ -- region 5 low.go:159
    refine l1 (mvS_r rfl) rfl rfl rfl ?_
    refine l1 (ldW_r agg_Entry rfl (H.ent (i := 0) rfl) rfl) rfl rfl rfl ?_
    refine cal cb_view_Check (vcheck_ok out _ _ x2 _ ((Own.rd (K := [(b5, _)]) (M := []) ho H).mono (Nat.zero_le _) (Nat.le_refl _)) (by omega) hqo) rfl rfl ?_
    rintro _ w5 ⟨rfl, hb⟩; replace H := H.later hb; clear hb
    refine l1 (mvU_r rfl) rfl rfl rfl ?_
    refine l1 (exI_r rfl rfl) rfl rfl rfl ?_
    refine l1 (exI_r rfl rfl) rfl rfl rfl ?_
    refine l1 (asI_r rfl) rfl rfl rfl ?_
    refine l1 (asI_r rfl) rfl rfl rfl ?_
    refine lw_nil ?_
    refine cw_seq ?_
    refine cw_region ?_ -- region 6 low.go:159
    refine l1 (mvI_r rfl) rfl rfl rfl ?_
    refine lwD (eql_r rfl rfl) rfl rfl rfl (fun h21 => ?_) (fun h21 => ?_)
    · -- slot 21 True
      refine l1 (mvB_r rfl) rfl rfl rfl ?_
      refine lwG rfl ?_
      refine l1 (mvI_r rfl) rfl rfl rfl ?_
      refine lwG rfl ?_
      refine lwD (lss_r rfl rfl) rfl rfl rfl (fun h24 => ?_) (fun h24 => ?_)
      · -- slot 24 True
        refine l1 (pkTB_r rfl rfl) rfl rfl rfl ?_
        refine lw_nil ?_
        refine cw_true rfl ?_
        refine cw_region ?_ -- region 7 low.go:160
        refine l1 (mvS_r rfl) rfl rfl rfl ?_
        refine l1 (ldW_r agg_Entry rfl (H.ent (i := 0) rfl) rfl) rfl rfl rfl ?_
        refine bsv (vs := [Ent.v x2]) H sl_LEntry z_Entry rfl rfl rfl rfl rfl rfl ?_; intro w6 b28 H
        refine apO (Y := entL) ap_LEntry (K := [(b28, _), (b5, _)]) (L := L1) (M := []) H ho (news := [x2]) rfl rfl rfl (Src.row (m := 1) (sz := 7) (H.ent (i := 0) rfl) rfl) (by simp only [List.length_singleton]; omega) rfl ?_
        intro A3 c3 w7 L3 h3a _ ho3 H
        refine l1 (asS_r rfl) rfl rfl rfl ?_
        refine lw_nil ?_
        refine cw_region ?_ -- region 8 low.go:158
        refine l1 (add_r rfl rfl (by omega) (by omega)) rfl rfl rfl ?_
        refine l1 (mvI_r rfl) rfl rfl rfl ?_
        refine lw_nil ?_
        have htk := take_snoc e2.at_
        have hnx : sentE (es.take (k + 1)) = out ++ [x2] := by rw [htk, sentE_snoc, ← hout, if_pos ⟨h21, h24⟩]
        refine ⟨(k + 1, out ++ [x2], A3, c3), ⟨by omega, hnx.symm, L3, ho3, H.forget (by simp) (by simp)⟩, sl2 rfl rfl, by repeat (first | exact Agr.refl _ _ | exact agr_ovr | refine agr_upd rfl ?_ | refine agr_updL _ rfl ?_ | refine agr_ovr2 rfl ?_), by show es.length - (k + 1) < es.length - k; omega⟩
      · -- slot 24 False
        refine l1 (pkTB_r rfl rfl) rfl rfl rfl ?_
        refine lw_nil ?_
        refine cw_false rfl ?_
        refine cw_skip ?_
        refine cw_region ?_ -- region 8 low.go:158
        refine l1 (add_r rfl rfl (by omega) (by omega)) rfl rfl rfl ?_
        refine l1 (mvI_r rfl) rfl rfl rfl ?_
        refine lw_nil ?_
        have htk := take_snoc e2.at_
        have hnx : sentE (es.take (k + 1)) = out := by rw [htk, sentE_snoc, ← hout, if_neg (fun h => by first | exact h21 h.1 | exact h24 h.2)]
        refine ⟨(k + 1, out, A1, c1), ⟨by omega, hnx.symm, L1, ho, H.forget (by simp) (by simp)⟩, sl2 rfl rfl, by repeat (first | exact Agr.refl _ _ | exact agr_ovr | refine agr_upd rfl ?_ | refine agr_updL _ rfl ?_ | refine agr_ovr2 rfl ?_), by show es.length - (k + 1) < es.length - k; omega⟩
    · -- slot 21 False
      refine l1 (mvB_r rfl) rfl rfl rfl ?_
      refine lwN rfl rfl rfl ?_
      refine lwN rfl rfl rfl ?_
      refine l1 (pkFB_r rfl rfl) rfl rfl rfl ?_
      refine lw_nil ?_
      refine cw_false rfl ?_
      refine cw_skip ?_
      refine cw_region ?_ -- region 8 low.go:158
      refine l1 (add_r rfl rfl (by omega) (by omega)) rfl rfl rfl ?_
      refine l1 (mvI_r rfl) rfl rfl rfl ?_
      refine lw_nil ?_
      have htk := take_snoc e2.at_
      have hnx : sentE (es.take (k + 1)) = out := by rw [htk, sentE_snoc, ← hout, if_neg (fun h => by first | exact h21 h.1 | exact h24 h.2)]
      refine ⟨(k + 1, out, A1, c1), ⟨by omega, hnx.symm, L1, ho, H.forget (by simp) (by simp)⟩, sl2 rfl rfl, by repeat (first | exact Agr.refl _ _ | exact agr_ovr | refine agr_upd rfl ?_ | refine agr_updL _ rfl ?_ | refine agr_ovr2 rfl ?_), by show es.length - (k + 1) < es.length - k; omega⟩
  · -- slot 11 False
    refine lw_nil ?_
    refine cw_seq ?_
    refine cw_false rfl ?_
    refine cw_exit ?_ -- 0
    refine cw_seq ?_
    refine cw_region ?_ -- region 9 low.go:163
    refine l1 (mvS_r rfl) rfl rfl rfl ?_
    refine l1 (asS_r rfl) rfl rfl rfl ?_
    refine lw_nil ?_
    refine cw_ret ?_
    have hke : k = es.length := by omega
    rw [hke, List.take_length] at hout
    subst hout
    obtain ⟨A2, c2, he, hlc, -⟩ := ho.form
    injection he with h1 h2 h3
    subst h3
    exact fin1 rfl rfl ⟨A1, c1, rfl, ho.rd H, hlc, H.below⟩
end Go.Proofs.Ytemnchkebhclpaa
end

section
namespace Go.Proofs.Ytemnchkebhclpaa
open Go Go.Eng Go.RowKit
set_option linter.unusedSimpArgs false
theorem Rd.blk {α : Type} {Y : Lay α} {w : World} {b : Nat} {cs : Array Value} {T : TypeId} {fr : Nat × Nat} {es : List α} (h : w.heap[b]? = some (.cells cs T fr)) (hc : cs.toList = Y.all es) : Rd Y 0 w.heap.size (some ⟨b, 0, none⟩) es w :=
  fun _ => ⟨b, 0, rfl, Nat.zero_le _, lt_of_heap h, fun j u hj => by rw [Nat.zero_add]; exact cellE h (by rw [← hc] at hj; simpa using hj)⟩
def ex1 : Ent := ⟨0, 0, 0, 0, 1, false, ⟨#[97]⟩⟩
theorem stab_ex1 {st : Nat} (h : isStab ([ex1].take 1) st) : st = 1 := by
  rcases h.2.2 with h | ⟨pid, e, h1, _, h3, _⟩
  · exact h
  · have hm := List.mem_of_getElem? h1
    simp at hm
    subst hm
    cases h3
theorem read_ex1 {st b : Nat} {out : List ByteArray} (h : isStab ([ex1].take 1) st) (hr : ReadS [ex1] 1 st 0 20 out b) : out.length = 1 := by
  have := stab_ex1 h
  subst this
  obtain ⟨_, h2, h3, h4, h5⟩ := hr
  have hb : b = 0 ∨ b = 1 := by omega
  rcases hb with rfl | rfl
  · rw [texts_self] at h3; subst h3; simp at h5
  · rw [h3]; rfl
set_option maxHeartbeats 4000000 in
set_option maxRecDepth 10000 in
theorem viewTells_ok (w : World) : Ret Try.prog i_tailracekeep_viewTells [] w fun v w2 => v = .bool true ∧ Below w.heap.size w w2 := by
  refine ret_of fn_tailracekeep_viewTells rfl rfl ?_
  have H := Hp.start w
  refine cw_seq ?_
  refine cw_region ?_ -- region 0 alive.go:19
  refine l1 (asB_r rfl) rfl rfl rfl ?_
  refine lw_nil ?_
  refine cw_seq ?_
  refine cw_region ?_ -- region 1 alive.go:20
  refine l1 (bld_r (cs := (Ent.c ex1).toArray) st_Entry z_Entry (by kernel_rfl)) rfl rfl rfl ?_
  refine alo H z_Entry rfl ?_; intro w1 b1 H
  refine stN H 0 ((Ent.c ex1).toArray) siz_Entry rfl rfl rfl rfl rfl (by kernel_rfl) (by kernel_rfl) ?_; intro w2 H
  refine lw_nil ?_
  refine cw_seq ?_
  refine cw_region ?_ -- region 2 alive.go:21
  refine l1 (ldW_r agg_Entry rfl (H.ent (i := 0) rfl) rfl) rfl rfl rfl ?_
  refine cal cb_view_Check (vcheck_ok [] none 0 ex1 _ Rd.nil (by simp) (by intro e he; cases he)) rfl rfl ?_
  rintro _ w3 ⟨rfl, hb⟩; replace H := H.later hb; clear hb
  refine l1 (mvU_r rfl) rfl rfl rfl ?_
  refine l1 (exI_r rfl rfl) rfl rfl rfl ?_
  refine l1 (exI_r rfl rfl) rfl rfl rfl ?_
  refine l1 (asI_r rfl) rfl rfl rfl ?_
  refine l1 (asI_r rfl) rfl rfl rfl ?_
  refine lw_nil ?_
  refine cw_seq ?_
  refine cw_region ?_ -- region 3 alive.go:22
  refine l1 (ldW_r agg_Entry rfl (H.ent (i := 0) rfl) rfl) rfl rfl rfl ?_
  refine bsv (vs := [Ent.v ex1]) H sl_LEntry z_Entry rfl rfl rfl rfl rfl rfl ?_; intro w4 b15 H
  refine cal cb_view_Read (read_ok [ex1] (some ⟨b15, 0, none⟩) 1 1 0 20 _ (Rd.blk (H.ent (i := 0) rfl) rfl) (by decide) (by decide) (by decide) (by decide) (by decide) (by decide)) rfl rfl ?_
  rintro _ w5 ⟨st, out, b, A2, c2, hst, hrs, rfl, -, -, hb2⟩; replace H := H.later hb2; clear hb2
  refine l1 (mvU_r rfl) rfl rfl rfl ?_
  refine l1 (exS_r rfl rfl) rfl rfl rfl ?_
  refine l1 (exI_r rfl rfl) rfl rfl rfl ?_
  refine l1 (exI_r rfl rfl) rfl rfl rfl ?_
  refine l1 (asS_r rfl) rfl rfl rfl ?_
  refine l1 (asI_r rfl) rfl rfl rfl ?_
  refine l1 (asI_r rfl) rfl rfl rfl ?_
  refine lw_nil ?_
  refine cw_seq ?_
  refine cw_region ?_ -- region 4 alive.go:23
  refine l1 (mvI_r rfl) rfl rfl rfl ?_
  refine l1 (eqlT_r rfl rfl rfl) rfl rfl rfl ?_
  refine l1 (mvB_r rfl) rfl rfl rfl ?_
  refine lwG rfl ?_
  refine l1 (mvI_r rfl) rfl rfl rfl ?_
  refine lwG rfl ?_
  refine l1 (lssT_r rfl rfl (by decide)) rfl rfl rfl ?_
  refine l1 (pkTB_r rfl rfl) rfl rfl rfl ?_
  refine l1 (mvB_r rfl) rfl rfl rfl ?_
  refine lwG rfl ?_
  refine l1 (mvI_r rfl) rfl rfl rfl ?_
  refine lwG rfl ?_
  refine l1 (eqlT_r rfl rfl rfl) rfl rfl rfl ?_
  refine l1 (pkTB_r rfl rfl) rfl rfl rfl ?_
  refine l1 (mvB_r rfl) rfl rfl rfl ?_
  refine lwG rfl ?_
  refine l1 (mvS_r rfl) rfl rfl rfl ?_
  refine lwG rfl ?_
  refine l1 (lenS_r len_Lstring rfl) rfl rfl rfl ?_
  refine lwG rfl ?_
  refine l1 (eqlT_r rfl rfl (by rw [read_ex1 hst hrs]; rfl)) rfl rfl rfl ?_
  refine l1 (pkTB_r rfl rfl) rfl rfl rfl ?_
  refine l1 (asB_r rfl) rfl rfl rfl ?_
  refine lw_nil ?_
  refine cw_ret ?_
  exact fin1 (v := .bool true) rfl rfl ⟨rfl, H.below⟩
set_option maxHeartbeats 4000000 in
set_option maxRecDepth 10000 in
theorem twice_c1_ok (y x : Ent) (b : Nat) (w : World) (hx : w.heap[b]? = some (.cells (Ent.c x).toArray T_Entry (0, 0))) :
    Ret Try.prog i_tailracekeep_TwiceSame_c1 [y.v, .pointer (some ⟨b, 0, none⟩)] w fun v w2 => v = .bool (decide (y.pid = x.pid) && decide (x.ver < y.ver)) ∧ Below w.heap.size w w2 := by
  refine ret_of fn_tailracekeep_TwiceSame_c1 rfl rfl ?_
  have H := Hp.start w
  have hb := lt_of_heap hx
  refine cw_seq ?_
  refine cw_region ?_ -- region 0 low.go:206
  refine bxA H rfl rfl ?_; intro w1 b2 H
  refine l1 (asB_r rfl) rfl rfl rfl ?_
  refine lw_nil ?_
  refine cw_seq ?_
  refine cw_region ?_ -- region 1 low.go:206
  refine l1 (fad_r fd_Entry_1 rfl) rfl rfl rfl ?_
  refine l1 (ld_r one_int rfl (cellE (H.ent (i := 0) rfl) rfl)) rfl rfl rfl ?_
  refine l1 (fad_r fd_Entry_1 rfl) rfl rfl rfl ?_
  refine l1 (ld_r one_int rfl ((H.below.cell (p := ⟨b, _, none⟩) hb).trans (cellE (j := 1) hx rfl))) rfl rfl rfl ?_
  refine lwD (eql_r rfl rfl) rfl rfl rfl (fun h8 => ?_) (fun h8 => ?_)
  · -- slot 8 True
    refine l1 (mvB_r rfl) rfl rfl rfl ?_
    refine lwG rfl ?_
    refine l1 (fad_r fd_Entry_2 rfl) rfl rfl rfl ?_
    refine lwG rfl ?_
    refine l1 (ld_r one_int rfl (cellE (H.ent (i := 0) rfl) rfl)) rfl rfl rfl ?_
    refine lwG rfl ?_
    refine l1 (fad_r fd_Entry_2 rfl) rfl rfl rfl ?_
    refine lwG rfl ?_
    refine l1 (ld_r one_int rfl ((H.below.cell (p := ⟨b, _, none⟩) hb).trans (cellE (j := 2) hx rfl))) rfl rfl rfl ?_
    refine lwG rfl ?_
    refine lwD (gtr_r rfl rfl) rfl rfl rfl (fun h14 => ?_) (fun h14 => ?_)
    · -- slot 14 True
      refine l1 (pkTB_r rfl rfl) rfl rfl rfl ?_
      refine l1 (asB_r rfl) rfl rfl rfl ?_
      refine lw_nil ?_
      refine cw_ret ?_
      have hv : (decide (y.pid = x.pid) && decide (x.ver < y.ver)) = true := by simp [h8, h14]
      exact fin1 (v := .bool true) rfl rfl ⟨by rw [hv], H.below⟩
    · -- slot 14 False
      refine l1 (pkTB_r rfl rfl) rfl rfl rfl ?_
      refine l1 (asB_r rfl) rfl rfl rfl ?_
      refine lw_nil ?_
      refine cw_ret ?_
      have hv : (decide (y.pid = x.pid) && decide (x.ver < y.ver)) = false := by simp [h8, h14]
      exact fin1 (v := .bool false) rfl rfl ⟨by rw [hv], H.below⟩
  · -- slot 8 False
    refine l1 (mvB_r rfl) rfl rfl rfl ?_
    refine lwN rfl rfl rfl ?_
    refine lwN rfl rfl rfl ?_
    refine lwN rfl rfl rfl ?_
    refine lwN rfl rfl rfl ?_
    refine lwN rfl rfl rfl ?_
    refine l1 (pkFB_r rfl rfl) rfl rfl rfl ?_
    refine l1 (asB_r rfl) rfl rfl rfl ?_
    refine lw_nil ?_
    refine cw_ret ?_
    have hv : (decide (y.pid = x.pid) && decide (x.ver < y.ver)) = false := by simp [h8]
    exact fin1 (v := .bool false) rfl rfl ⟨by rw [hv], H.below⟩
/-- entries that came one by one -/
inductive Sent : List Ent → Prop
  | nil : Sent []
  | snoc {es : List Ent} {x : Ent} : Sent es → (vchk es x).2 = 0 → (vchk es x).1 < 0 → Sent (es ++ [x])
theorem sentE_sent (l : List Ent) : Sent (sentE l) := by
  induction l using snoc_ind with
  | h0 => exact .nil
  | h1 l x ih =>
    rw [sentE_snoc]
    split
    · rename_i h; exact .snoc ih h.1 h.2
    · exact ih
theorem sent_inv {l : List Ent} {f : Ent} (h : Sent (l ++ [f])) : Sent l ∧ (vchk l f).2 = 0 ∧ (vchk l f).1 < 0 := by
  generalize hl : l ++ [f] = m at h
  cases h with
  | nil => simp at hl
  | snoc hs a b =>
    obtain ⟨rfl, hx⟩ := List.append_inj' hl rfl
    simp at hx
    subst hx
    exact ⟨hs, a, b⟩
theorem Sent.take {es : List Ent} (h : Sent es) : ∀ k, Sent (es.take k) := by
  induction h with
  | nil => intro k; simp; exact .nil
  | @snoc es x h h1 h2 ih =>
    intro k
    by_cases hk : k ≤ es.length
    · rw [List.take_append_of_le_length hk]; exact ih k
    · rw [List.take_of_length_le (by simp; omega)]; exact .snoc h h1 h2
def cnt (es : List Ent) (pid ver : Int) : Nat := (es.filter fun e => decide (e.kind = 1) && decide (e.pid = pid) && decide (e.ver = ver)).length
theorem cnt_snoc (es : List Ent) (x : Ent) (pid ver : Int) : cnt (es ++ [x]) pid ver = cnt es pid ver + if x.kind = 1 ∧ x.pid = pid ∧ x.ver = ver then 1 else 0 := by
  unfold cnt
  rw [List.filter_append, List.length_append]
  congr 1
  by_cases h1 : x.kind = 1 <;> by_cases h2 : x.pid = pid <;> by_cases h3 : x.ver = ver <;> simp [h1, h2, h3]
theorem cnt_mono {es : List Ent} {a b : Nat} (h : a ≤ b) (pid ver : Int) : cnt (es.take a) pid ver ≤ cnt (es.take b) pid ver := by
  unfold cnt
  refine List.Sublist.length_le (List.Sublist.filter _ ?_)
  have : es.take a = (es.take b).take a := by rw [List.take_take, Nat.min_eq_left h]
  rw [this]
  exact List.take_sublist _ _
theorem cnt_zero {es : List Ent} {pid ver : Int} (h : ∀ e ∈ es, e.pid = pid → e.ver ≠ ver) : cnt es pid ver = 0 := by
  unfold cnt
  rw [List.length_eq_zero_iff, List.filter_eq_nil_iff]
  intro e he hc
  simp at hc
  exact h e he hc.1.2 hc.2
/-- what an entry is that may come -/
theorem vchk_new {es : List Ent} {x : Ent} (h0 : x.pid ≠ 0) (h1 : (vchk es x).2 = 0) (h2 : (vchk es x).1 < 0) {p : Prod} (hp : p = (prodF es x.pid).getD ⟨x.ver, -1, -1, -1⟩) : p.ver ≤ x.ver ∧ (x.kind = 1 → x.seq = (if p.ver < x.ver then -1 else p.seq) + 1) := by
  unfold vchk at h1 h2
  rw [if_neg h0, ← hp] at h1 h2
  unfold vchkP at h1 h2
  split at h1
  · simp at h1
  · rename_i hv
    rw [if_neg hv] at h2
    refine ⟨by omega, fun hk => ?_⟩
    rw [if_neg (fun h => h hk)] at h1 h2
    generalize (if p.ver < x.ver then (-1 : Int) else p.seq) = s at h1 h2 ⊢
    split at h1
    · simp at h1
    · rename_i hg
      rw [if_neg hg] at h2
      split at h1
      · assumption
      · rename_i hs
        rw [if_neg hs] at h2
        exfalso
        split at h1
        · rename_i i hi
          rw [hi] at h2
          simp at h2
          omega
        · simp at h1
theorem sent_link {es : List Ent} (h : Sent es) : ∀ pid, pid ≠ 0 → (∀ p, prodF es pid = some p → (∀ e ∈ es, e.pid = pid → e.ver ≤ p.ver) ∧ p.seq = (cnt es pid p.ver : Int) - 1) := by
  induction h with
  | nil => intro pid _ p hp; cases hp
  | @snoc es x h h1 h2 ih =>
    intro pid h0 p hp
    rw [prodF_snoc] at hp
    by_cases hx : x.pid = pid
    · subst hx
      rw [if_pos ⟨h0, rfl⟩] at hp
      injection hp with hp
      obtain ⟨v1, v2⟩ := vchk_new h0 h1 h2 rfl
      have hver : p.ver = x.ver := by
        rw [← hp]; unfold stepP pv
        split <;> (split <;> (try split) <;> simp_all)
      have hle : ∀ e ∈ es, e.pid = x.pid → e.ver ≤ x.ver := fun e he hpe => by
        cases hq : prodF es x.pid with
        | none => exact absurd hpe.symm (fun h => h0 ((prodF_inv es x.pid).2 hq e he hpe))
        | some q =>
          rw [hq] at v1
          have := (ih x.pid h0 q hq).1 e he hpe
          simp at v1
          omega
      refine ⟨fun e he hpe => ?_, ?_⟩
      · rw [hver]
        rcases List.mem_append.1 he with he | he
        · exact hle e he hpe
        · rw [List.mem_singleton.1 he]; exact Int.le_refl _
      · rw [hver, cnt_snoc]
        -- the number that was last in this version
        have hold : (pv x ((prodF es x.pid).getD p0)).seq = (cnt es x.pid x.ver : Int) - 1 := by
          cases hq : prodF es x.pid with
          | none =>
            have hz : cnt es x.pid x.ver = 0 := cnt_zero fun e he hpe => absurd ((prodF_inv es x.pid).2 hq e he hpe) h0
            rw [hz]; unfold pv; simp only [Option.getD_none]; split <;> simp [p0]
          | some q =>
            obtain ⟨i1, i2⟩ := ih x.pid h0 q hq
            unfold pv
            simp only [Option.getD_some]
            split
            · rename_i hne
              rw [hq] at v1
              simp at v1
              have hz : cnt es x.pid x.ver = 0 := cnt_zero fun e he hpe hev => by have := i1 e he hpe; omega
              rw [hz]; rfl
            · rename_i heq
              have : x.ver = q.ver := Classical.not_not.1 heq
              rw [i2, this]
        by_cases hk : x.kind = 1
        · rw [if_pos ⟨hk, rfl, rfl⟩]
          have hs := v2 hk
          have hseq : p.seq = x.seq := by
            rw [← hp]; unfold stepP
            rw [if_neg (fun h => h hk)]
            split <;> rfl
          have hcnt : x.seq = (cnt es x.pid x.ver : Int) := by
            cases hq : prodF es x.pid with
            | none =>
              have hz : cnt es x.pid x.ver = 0 := cnt_zero fun e he hpe => absurd ((prodF_inv es x.pid).2 hq e he hpe) h0
              rw [hq] at hs; simp at hs; omega
            | some q =>
              obtain ⟨i1, i2⟩ := ih x.pid h0 q hq
              rw [hq] at hs v1
              simp at hs v1
              by_cases hlt : q.ver < x.ver
              · rw [if_pos hlt] at hs
                have hz : cnt es x.pid x.ver = 0 := cnt_zero fun e he hpe hev => by have := i1 e he hpe; omega
                omega
              · rw [if_neg hlt] at hs
                have : q.ver = x.ver := by omega
                rw [this] at i2
                omega
          omega
        · rw [if_neg (fun h => hk h.1)]
          have hseq : p.seq = (pv x ((prodF es x.pid).getD p0)).seq := by
            rw [← hp]; unfold stepP
            rw [if_pos hk]
          rw [hseq, hold]; simp
    · rw [if_neg (fun h => hx h.2)] at hp
      obtain ⟨i1, i2⟩ := ih pid h0 p hp
      refine ⟨fun e he hpe => ?_, ?_⟩
      · rcases List.mem_append.1 he with he | he
        · exact i1 e he hpe
        · rw [List.mem_singleton.1 he] at hpe; exact absurd hpe hx
      · rw [cnt_snoc, if_neg (fun h => hx h.2.1), i2]; simp
theorem sent_ver {es : List Ent} (h : Sent es) {j : Nat} {f : Ent} (hj : es[j]? = some f) (h0 : f.pid ≠ 0) : ∀ e ∈ es.take j, e.pid = f.pid → e.ver ≤ f.ver := by
  have h1 := h.take (j + 1)
  rw [take_snoc hj] at h1
  generalize es.take j = l at h1 ⊢
  obtain ⟨hs, a, b⟩ := sent_inv h1
  intro e he hpe
  obtain ⟨v1, -⟩ := vchk_new h0 a b rfl
  cases hq : prodF l f.pid with
  | none => exact absurd ((prodF_inv l f.pid).2 hq e he hpe) h0
  | some q =>
    rw [hq] at v1
    simp at v1
    have := (sent_link hs f.pid h0 q hq).1 e he hpe
    omega
theorem sent_seq {es : List Ent} (h : Sent es) {j : Nat} {f : Ent} (hj : es[j]? = some f) (h0 : f.pid ≠ 0) (hk : f.kind = 1) : f.seq = (cnt (es.take j) f.pid f.ver : Int) := by
  have h1 := h.take (j + 1)
  rw [take_snoc hj] at h1
  have h2 := sent_link h1 f.pid h0 _ (by rw [prodF_snoc, if_pos ⟨h0, rfl⟩])
  have hver : (stepP (es.take j).length f ((prodF (es.take j) f.pid).getD p0)).ver = f.ver := by
    unfold stepP pv
    split <;> (split <;> (try split) <;> simp_all)
  have hseq : (stepP (es.take j).length f ((prodF (es.take j) f.pid).getD p0)).seq = f.seq := by
    unfold stepP
    rw [if_neg (fun h => h hk)]
    split <;> rfl
  rw [hver, hseq, cnt_snoc, if_pos ⟨hk, rfl, rfl⟩] at h2
  omega
end Go.Proofs.Ytemnchkebhclpaa
end

section
namespace Go.Proofs.Ytemnchkebhclpaa
open Go Go.Eng Go.RowKit
set_option linter.unusedSimpArgs false
theorem seqB_good {es : List Ent} (h : ∀ e ∈ es, Good e) : seqB es := fun e he => by
  obtain ⟨_, _, h3, _⟩ := entCheck_ok (h e he)
  have := h3 e.seq (by simp [Ent.nums])
  omega
def later (es : List Ent) (k : Nat) (x : Ent) : Bool := (es.drop k).any fun y => decide (y.pid = x.pid) && decide (x.ver < y.ver)
theorem twice_pid0 {es : List Ent} {x : Ent} (h : x.pid = 0) : vchk es x = (-1, 0) := by unfold vchk; rw [if_pos h]
theorem twice_some {es : List Ent} {x : Ent} {k : Nat} (hk : es[k]? = some x) (h0 : x.pid ≠ 0) : ∃ p, prodF es x.pid = some p := by
  cases hq : prodF es x.pid with
  | none => exact absurd ((prodF_inv es x.pid).2 hq x (List.mem_of_getElem? hk) rfl) h0
  | some p => exact ⟨p, rfl⟩
theorem twice_later {es : List Ent} (h : Sent es) {k : Nat} {x : Ent} (hk : es[k]? = some x) (h0 : x.pid ≠ 0) (hl : later es k x = true) : (vchk es x).2 = 10 := by
  obtain ⟨p, hp⟩ := twice_some hk h0
  unfold later at hl
  obtain ⟨y, hy, hy2⟩ := List.any_eq_true.1 hl
  simp at hy2
  have := (sent_link h x.pid h0 p hp).1 y (List.mem_of_mem_drop hy) hy2.1
  unfold vchk
  rw [if_neg h0, hp]
  unfold vchkP
  simp only [Option.getD_some]
  rw [if_pos (by omega)]
theorem twice_same {es : List Ent} (h : Sent es) {k : Nat} {x : Ent} (hk : es[k]? = some x) (h0 : x.pid ≠ 0) (hl : later es k x = false) (hd : x.kind = 1) : vchk es x = ((k : Int), 0) := by
  obtain ⟨p, hp⟩ := twice_some hk h0
  obtain ⟨l1, l2⟩ := sent_link h x.pid h0 p hp
  have hkl := (getE hk).1
  have hxle := l1 x (List.mem_of_getElem? hk) rfl
  have hver : p.ver = x.ver := by
    obtain ⟨e, he, hpe, hve⟩ := ((prodF_inv es x.pid).1 p hp).ver
    obtain ⟨j, hj⟩ := List.mem_iff_getElem?.1 he
    by_cases hjk : j < k
    · have := sent_ver h hk h0 e (List.mem_of_getElem? (by rw [List.getElem?_take_of_lt hjk]; exact hj)) hpe
      omega
    · have hmem : e ∈ es.drop k := List.mem_of_getElem? (i := j - k) (by rw [List.getElem?_drop, show k + (j - k) = j by omega]; exact hj)
      have hnl := List.any_eq_false.1 hl e hmem
      simp [hpe] at hnl
      omega
  have hseq := sent_seq h hk h0 hd
  have hc1 : cnt (es.take (k + 1)) x.pid x.ver = cnt (es.take k) x.pid x.ver + 1 := by
    rw [take_snoc hk, cnt_snoc, if_pos ⟨hd, rfl, rfl⟩]
  have hc2 : cnt (es.take (k + 1)) x.pid x.ver ≤ cnt es x.pid x.ver := by
    have := cnt_mono (es := es) (a := k + 1) (b := es.length) (by omega) x.pid x.ver
    rwa [List.take_length] at this
  rw [hver] at l2
  have hdup : es.findIdx? (isDup x) = some k := dup_some hk (by simp [isDup, hd]) fun j e hj he => by
    by_cases hi : isDup x e = true
    · exfalso
      simp [isDup] at hi
      obtain ⟨⟨⟨a1, a2⟩, a3⟩, a4⟩ := hi
      have s1 := sent_seq h he (by rw [a2]; exact h0) a1
      rw [a2, a3] at s1
      have s2 : cnt (es.take (j + 1)) x.pid x.ver = cnt (es.take j) x.pid x.ver + 1 := by
        rw [take_snoc he, cnt_snoc, if_pos ⟨a1, a2, a3⟩]
      have s3 := cnt_mono (es := es) (a := j + 1) (b := k) (by omega) x.pid x.ver
      omega
    · simpa using hi
  unfold vchk
  rw [if_neg h0, hp]
  unfold vchkP
  simp only [Option.getD_some, hver]
  rw [if_neg (by omega), if_neg (fun h => h hd), if_neg (by omega : ¬ x.ver < x.ver), if_neg (by omega), if_neg (by omega), hdup]
def ex2 : Ent := ⟨0, 1, 0, 1, 1, false, ⟨#[]⟩⟩
set_option maxHeartbeats 4000000 in
set_option maxRecDepth 10000 in
theorem twiceSame_ok (l : List Raw) (A : Option Addr) (c : Nat) (i_ : Int) (w : World) (hr : Rd rawL 0 w.heap.size A l w) (hok : ∀ r ∈ l, r.ok) (hl : l.length ≤ 9223372036854775807) (hi : i64 i_) :
    Ret Try.prog i_tailracekeep_TwiceSame [.slice A l.length c, .int .i64 i_] w fun v w2 => v = .bool true ∧ Below w.heap.size w w2 := by
  refine ret_of fn_tailracekeep_TwiceSame rfl rfl ?_
  have H := Hp.startRd hr
  obtain ⟨hi1, hi2⟩ := hi
  refine cw_seq ?_
  refine cw_region ?_ -- region 0 low.go:194
  refine l1 (asB_r rfl) rfl rfl rfl ?_
  refine lw_nil ?_
  refine cw_seq ?_
  refine cw_region ?_ -- region 1 low.go:195
  refine l1 (mvS_r rfl) rfl rfl rfl ?_
  refine cal cb_tailracekeep_many (many_ok l 60 _ _ _ (H.rd0 0 rfl) hok hl (by decide)) rfl rfl ?_
  rintro _ w2 ⟨Aes, ces, rfl, hr1, hces, hb1⟩; replace H := H.learnRd hb1 hr1; clear hr1 hb1
  generalize hes : manyE l 60 = es at H hces ⊢
  have hgood : ∀ e ∈ es, Good e := by rw [← hes]; exact manyE_good
  have hel : es.length ≤ 60 := by rw [← hes]; exact manyE_len l 60
  refine cal cb_tailracekeep_sent (sent_ok es _ _ _ (H.rd0 0 rfl) (by omega) (seqB_good hgood)) rfl rfl ?_
  rintro _ w4 ⟨Ass, css, rfl, hr3, hcss, hb3⟩; replace H := H.learnRd hb3 hr3; clear hr3 hb3
  have hsubss := sentE_sub es
  have hsentss := sentE_sent es
  generalize hdefss : sentE es = ss at H hcss hsubss hsentss ⊢
  have hlss : ss.length ≤ 60 := by have := hsubss.2; omega
  have hgss : ∀ e ∈ ss, Good e := fun e he => hgood e (hsubss.1 e he)
  refine l1 (asS_r rfl) rfl rfl rfl ?_
  refine lw_nil ?_
  refine cw_seq ?_
  refine cw_seq ?_
  refine cw_region ?_ -- region 2 low.go:196
  refine l1 (mvS_r rfl) rfl rfl rfl ?_
  refine l1 (lenS_r len_LEntry rfl) rfl rfl rfl ?_
  refine lwD (eql_r rfl rfl) rfl rfl rfl (fun h18 => ?_) (fun h18 => ?_)
  · -- slot 18 True
    refine lw_nil ?_
    refine cw_true rfl ?_
    refine cw_seq ?_
    refine cw_region ?_ -- region 3 low.go:197
    refine l1 (bld_r (cs := (Ent.c ex2).toArray) st_Entry z_Entry (by kernel_rfl)) rfl rfl rfl ?_
    refine cal cb_view_Check (vcheck_ok [] none 0 ex2 _ Rd.nil (by simp) (by intro e he; cases he)) rfl rfl ?_
    rintro _ w5 ⟨rfl, hb⟩; replace H := H.later hb; clear hb
    refine l1 (mvU_r rfl) rfl rfl rfl ?_
    refine l1 (exI_r rfl rfl) rfl rfl rfl ?_
    refine l1 (exI_r rfl rfl) rfl rfl rfl ?_
    refine l1 (asI_r rfl) rfl rfl rfl ?_
    refine l1 (asI_r rfl) rfl rfl rfl ?_
    refine lw_nil ?_
    refine cw_seq ?_
    refine cw_region ?_ -- region 4 low.go:198
    refine l1 (mvI_r rfl) rfl rfl rfl ?_
    refine l1 (eql_r rfl rfl) rfl rfl rfl ?_
    refine l1 (asB_r rfl) rfl rfl rfl ?_
    refine lw_nil ?_
    refine cw_ret ?_
    exact fin1 (v := .bool (decide ((vchk [] ex2).2 = 11))) rfl rfl ⟨rfl, H.below⟩
  · -- slot 18 False
    refine lw_nil ?_
    refine cw_false rfl ?_
    refine cw_skip ?_
    refine cw_seq ?_
    refine cw_region ?_ -- region 5 low.go:200
    refine l1 (mvI_r rfl) rfl rfl rfl ?_
    refine l1 (mvS_r rfl) rfl rfl rfl ?_
    refine l1 (lenS_r len_LEntry rfl) rfl rfl rfl ?_
    refine cal cb_tailracekeep_picked (picked_ok i_ ss.length _ (by omega) (by omega) (by omega) (by omega)) rfl rfl ?_
    rintro _ w6 ⟨rfl, hb⟩; replace H := H.later hb; clear hb
    have hkl := pk_lt i_ (show 0 < ss.length by omega)
    generalize pk i_ ss.length = k at hkl ⊢
    refine l1 (asI_r rfl) rfl rfl rfl ?_
    refine lw_nil ?_
    refine cw_seq ?_
    refine cw_region ?_ -- region 6 low.go:201
    refine l1 (mvS_r rfl) rfl rfl rfl ?_
    refine l1 (mvI_r rfl) rfl rfl rfl ?_
    refine ixF H 0 rfl sl_LEntry rfl rfl (by omega) (by omega) rfl ?_; intro b7 o7 x7 e7
    refine l1 (ldA_r (xs := Ent.c x7) agg_Entry rfl rfl e7.cl) rfl rfl rfl ?_
    refine alo H z_Entry rfl ?_; intro w8 b9 H
    refine stW H 0 siz_Entry rfl rfl rfl rfl rfl rfl ?_; intro w9 H
    refine lw_nil ?_
    refine cw_seq ?_
    refine cw_region ?_ -- region 7 low.go:202
    refine l1 (mvS_r rfl) rfl rfl rfl ?_
    refine l1 (ldW_r agg_Entry rfl (H.ent (i := 0) rfl) rfl) rfl rfl rfl ?_
    refine cal cb_view_Check (vcheck_ok ss _ _ x7 _ (H.rd0 0 rfl) (by omega) (seqB_good hgss)) rfl rfl ?_
    rintro _ w10 ⟨rfl, hb⟩; replace H := H.later hb; clear hb
    refine l1 (mvU_r rfl) rfl rfl rfl ?_
    refine l1 (exI_r rfl rfl) rfl rfl rfl ?_
    refine l1 (exI_r rfl rfl) rfl rfl rfl ?_
    refine l1 (asI_r rfl) rfl rfl rfl ?_
    refine l1 (asI_r rfl) rfl rfl rfl ?_
    refine lw_nil ?_
    refine cw_seq ?_
    refine cw_seq ?_
    refine cw_region ?_ -- region 8 low.go:203
    refine l1 (fad_r fd_Entry_1 rfl) rfl rfl rfl ?_
    refine l1 (ld_r one_int rfl (cellE (H.ent (i := 0) rfl) rfl)) rfl rfl rfl ?_
    refine lwD (eql_r rfl rfl) rfl rfl rfl (fun h42 => ?_) (fun h42 => ?_)
    · -- slot 42 True
      refine lw_nil ?_
      refine cw_true rfl ?_
      refine cw_seq ?_
      refine cw_region ?_ -- region 9 low.go:204
      refine l1 (mvI_r rfl) rfl rfl rfl ?_
      refine l1 (eqlT_r rfl rfl (by rw [twice_pid0 h42])) rfl rfl rfl ?_
      refine l1 (mvB_r rfl) rfl rfl rfl ?_
      refine lwG rfl ?_
      refine l1 (mvI_r rfl) rfl rfl rfl ?_
      refine lwG rfl ?_
      refine l1 (eqlT_r rfl rfl (by rw [twice_pid0 h42])) rfl rfl rfl ?_
      refine l1 (pkTB_r rfl rfl) rfl rfl rfl ?_
      refine l1 (asB_r rfl) rfl rfl rfl ?_
      refine lw_nil ?_
      refine cw_ret ?_
      exact fin1 (v := .bool true) rfl rfl ⟨rfl, H.below⟩
    · -- slot 42 False
      refine lw_nil ?_
      refine cw_false rfl ?_
      refine cw_skip ?_
      refine cw_seq ?_
      refine cw_region ?_ -- region 10 low.go:206
      refine l1 (mvS_r rfl) rfl rfl rfl ?_
      refine l1 (mvI_r rfl) rfl rfl rfl ?_
      refine sliLoF (k := k) H 0 rfl sl_LEntry rfl rfl rfl hcss (by omega) rfl ?_; intro A51 H
      obtain ⟨ds, hdsds⟩ : ∃ ds, ss.drop k = ds := ⟨_, rfl⟩
      rw [hdsds] at H
      have hdlds : ss.length - k = ds.length := by rw [← hdsds]; simp
      rw [hdlds]
      refine l1 (mkf_r rfl) rfl rfl rfl ?_
      refine cal cb_slices_ContainsFunc_LEntry_Entry (containsFunc_Entry_ok ds _ _ _ (H.rd0 0 rfl) (by omega) i_tailracekeep_TwiceSame_c1 [.pointer (some ⟨b9, 0, none⟩)] cb_tailracekeep_TwiceSame_c1 (fun y => decide (y.pid = x7.pid) && decide (x7.ver < y.ver)) (fun e w' _ hw' => twice_c1_ok e x7 b9 w' ((hw'.block _ (lt_of_heap (H.ent (i := 0) rfl))).trans (H.ent (i := 0) rfl)))) rfl rfl ?_
      rintro _ w11 ⟨rfl, hb⟩; replace H := H.later hb; clear hb
      refine l1 (asB_r rfl) rfl rfl rfl ?_
      refine lw_nil ?_
      refine cw_seq ?_
      refine cw_seq ?_
      refine cw_region ?_ -- region 11 low.go:207
      have hlt : ds.any (fun y => decide (y.pid = x7.pid) && decide (x7.ver < y.ver)) = later ss k x7 := by unfold later; rw [hdsds]
      rw [hlt]
      refine l1 (mvB_r rfl) rfl rfl rfl ?_
      refine lw_nil ?_
      refine cw_if rfl (fun hc54 => ?_) (fun hc54 => ?_)
      · -- cond 54 True
        refine cw_seq ?_
        refine cw_region ?_ -- region 12 low.go:208
        refine l1 (mvI_r rfl) rfl rfl rfl ?_
        refine l1 (eql_r rfl rfl) rfl rfl rfl ?_
        refine l1 (asB_r rfl) rfl rfl rfl ?_
        refine lw_nil ?_
        refine cw_ret ?_
        have hv : (vchk ss x7).2 = 10 := twice_later hsentss e7.at_ h42 hc54
        exact fin1 (v := .bool (decide ((vchk ss x7).2 = 10))) rfl rfl ⟨by rw [hv]; rfl, H.below⟩
      · -- cond 54 False
        refine cw_skip ?_
        refine cw_seq ?_
        refine cw_region ?_ -- region 13 low.go:210
        refine l1 (fad_r fd_Entry_4 rfl) rfl rfl rfl ?_
        refine l1 (ld_r one_int rfl (cellE (H.ent (i := 0) rfl) rfl)) rfl rfl rfl ?_
        refine lwND (neq_r rfl rfl) rfl rfl rfl (fun h59 => ?_) (fun h59 => ?_)
        · -- slot 59 True
          refine l1 (mvB_r rfl) rfl rfl rfl ?_
          refine lwN rfl rfl rfl ?_
          refine lwN rfl rfl rfl ?_
          refine lwN rfl rfl rfl ?_
          refine lwN rfl rfl rfl ?_
          refine lwN rfl rfl rfl ?_
          refine lwN rfl rfl rfl ?_
          refine lwN rfl rfl rfl ?_
          refine l1 (pkTB_r rfl rfl) rfl rfl rfl ?_
          refine l1 (asB_r rfl) rfl rfl rfl ?_
          refine lw_nil ?_
          refine cw_ret ?_
          exact fin1 (v := .bool true) rfl rfl ⟨rfl, H.below⟩
        · -- slot 59 False
          refine l1 (mvB_r rfl) rfl rfl rfl ?_
          refine lwG rfl ?_
          refine l1 (mvI_r rfl) rfl rfl rfl ?_
          refine lwG rfl ?_
          refine l1 (eqlT_r rfl rfl (by rw [twice_same hsentss e7.at_ h42 hc54 h59])) rfl rfl rfl ?_
          refine lwG rfl ?_
          refine l1 (mvB_r rfl) rfl rfl rfl ?_
          refine lwG rfl ?_
          refine l1 (mvI_r rfl) rfl rfl rfl ?_
          refine lwG rfl ?_
          refine l1 (mvI_r rfl) rfl rfl rfl ?_
          refine lwG rfl ?_
          refine l1 (eqlT_r rfl rfl (by rw [twice_same hsentss e7.at_ h42 hc54 h59])) rfl rfl rfl ?_
          refine lwG rfl ?_
          refine l1 (pkTB_r rfl rfl) rfl rfl rfl ?_
          refine l1 (pkFB_r rfl rfl) rfl rfl rfl ?_
          refine l1 (asB_r rfl) rfl rfl rfl ?_
          refine lw_nil ?_
          refine cw_ret ?_
          exact fin1 (v := .bool true) rfl rfl ⟨rfl, H.below⟩
end Go.Proofs.Ytemnchkebhclpaa
end

section
namespace Go.Proofs.Ytemnchkebhclpaa
open Go Go.Eng Go.RowKit
set_option linter.unusedSimpArgs false
theorem openAt_take {es : List Ent} {a b k : Nat} {pid : Int} (hab : a ≤ b) (hka : k < a) (h : openAt (es.take b) k pid) : openAt (es.take a) k pid := by
  obtain ⟨e, h1, h2, h3, h4, h5, h6⟩ := h
  have hkb : k < b := by omega
  rw [List.getElem?_take_of_lt hkb] at h1
  refine ⟨e, by rw [List.getElem?_take_of_lt hka]; exact h1, h2, h3, h4, h5, fun j f hj hf hp => ?_⟩
  have hja : j < a := by
    have := (getE hf).1
    simp at this
    omega
  rw [List.getElem?_take_of_lt hja] at hf
  exact h6 j f hj (by rw [List.getElem?_take_of_lt (by omega)]; exact hf) hp
theorem stab_mono {es : List Ent} {a b x y : Nat} (hab : a ≤ b) (hb : b ≤ es.length) (hx : isStab (es.take a) x) (hy : isStab (es.take b) y) : x ≤ y := by
  obtain ⟨x1, x2, x3⟩ := hx
  obtain ⟨y1, y2, y3⟩ := hy
  rw [List.length_take] at x1 y1
  rcases y3 with h | ⟨pid, h⟩
  · rw [List.length_take] at h; omega
  · by_cases hya : y < a
    · exact x2 y pid (openAt_take hab hya h)
    · omega
theorem stab_closed {es : List Ent} {a x k : Nat} {e : Ent} (hx : isStab (es.take a) x) (hkx : k < x) (hk : es[k]? = some e) (hg : Good e) (h1 : e.kind = 1) (h2 : e.txn = true) : ((es.take a).drop k).any (fun q => decide (q.pid = e.pid) && !decide (q.kind = 1)) = true := by
  cases hany : ((es.take a).drop k).any (fun q => decide (q.pid = e.pid) && !decide (q.kind = 1)) with
  | true => rfl
  | false =>
    exfalso
    have hxl := hx.1
    rw [List.length_take] at hxl
    have h0 : e.pid ≠ 0 := fun h => by
      obtain ⟨_, _, _, _, hf⟩ := entCheck_ok hg
      exact hf (.inr ⟨h, .inl h2⟩)
    have := hx.2.1 k e.pid ⟨e, by rw [List.getElem?_take_of_lt (by omega)]; exact hk, h1, h2, rfl, h0, fun j f hj hf hp => by
      have hm : f ∈ (es.take a).drop k := List.mem_of_getElem? (i := j - k) (by rw [List.getElem?_drop, show k + (j - k) = j by omega]; exact hf)
      have hn := List.any_eq_false.1 hany f hm
      simpa [hp] using hn⟩
    omega
set_option maxHeartbeats 4000000 in
set_option maxRecDepth 10000 in
theorem stable_c1_ok (q p : Ent) (b : Nat) (w : World) (hx : w.heap[b]? = some (.cells (Ent.c p).toArray T_Entry (0, 0))) :
    Ret Try.prog i_tailracekeep_StableAhead_c1 [q.v, .pointer (some ⟨b, 0, none⟩)] w fun v w2 => v = .bool (decide (q.pid = p.pid) && !decide (q.kind = 1)) ∧ Below w.heap.size w w2 := by
  refine ret_of fn_tailracekeep_StableAhead_c1 rfl rfl ?_
  have H := Hp.start w
  have hb := lt_of_heap hx
  refine cw_seq ?_
  refine cw_region ?_ -- region 0 low.go:225
  refine bxA H rfl rfl ?_; intro w1 b2 H
  refine l1 (asB_r rfl) rfl rfl rfl ?_
  refine lw_nil ?_
  refine cw_seq ?_
  refine cw_region ?_ -- region 1 low.go:225
  refine l1 (fad_r fd_Entry_1 rfl) rfl rfl rfl ?_
  refine l1 (ld_r one_int rfl (cellE (H.ent (i := 0) rfl) rfl)) rfl rfl rfl ?_
  refine l1 (fad_r fd_Entry_1 rfl) rfl rfl rfl ?_
  refine l1 (ld_r one_int rfl ((H.below.cell (p := ⟨b, _, none⟩) hb).trans (cellE (j := 1) hx rfl))) rfl rfl rfl ?_
  refine lwD (eql_r rfl rfl) rfl rfl rfl (fun h8 => ?_) (fun h8 => ?_)
  · -- slot 8 True
    refine l1 (mvB_r rfl) rfl rfl rfl ?_
    refine lwG rfl ?_
    refine l1 (fad_r fd_Entry_4 rfl) rfl rfl rfl ?_
    refine lwG rfl ?_
    refine l1 (ld_r one_int rfl (cellE (H.ent (i := 0) rfl) rfl)) rfl rfl rfl ?_
    refine lwG rfl ?_
    refine lwND (neq_r rfl rfl) rfl rfl rfl (fun h12 => ?_) (fun h12 => ?_)
    · -- slot 12 True
      refine l1 (pkTB_r rfl rfl) rfl rfl rfl ?_
      refine l1 (asB_r rfl) rfl rfl rfl ?_
      refine lw_nil ?_
      refine cw_ret ?_
      have hv : (decide (q.pid = p.pid) && !decide (q.kind = 1)) = true := by simp [h8, h12]
      exact fin1 (v := .bool true) rfl rfl ⟨by rw [hv], H.below⟩
    · -- slot 12 False
      refine l1 (pkTB_r rfl rfl) rfl rfl rfl ?_
      refine l1 (asB_r rfl) rfl rfl rfl ?_
      refine lw_nil ?_
      refine cw_ret ?_
      have hv : (decide (q.pid = p.pid) && !decide (q.kind = 1)) = false := by simp [h8, h12]
      exact fin1 (v := .bool false) rfl rfl ⟨by rw [hv], H.below⟩
  · -- slot 8 False
    refine l1 (mvB_r rfl) rfl rfl rfl ?_
    refine lwN rfl rfl rfl ?_
    refine lwN rfl rfl rfl ?_
    refine lwN rfl rfl rfl ?_
    refine l1 (pkFB_r rfl rfl) rfl rfl rfl ?_
    refine l1 (asB_r rfl) rfl rfl rfl ?_
    refine lw_nil ?_
    refine cw_ret ?_
    have hv : (decide (q.pid = p.pid) && !decide (q.kind = 1)) = false := by simp [h8]
    exact fin1 (v := .bool false) rfl rfl ⟨by rw [hv], H.below⟩
set_option maxHeartbeats 4000000 in
set_option maxRecDepth 10000 in
theorem stableAhead_ok (l : List Raw) (A : Option Addr) (c : Nat) (a_ b_ : Int) (w : World) (hr : Rd rawL 0 w.heap.size A l w) (hok : ∀ r ∈ l, r.ok) (hl : l.length ≤ 9223372036854775807) (ha : i64 a_) (hb : i64 b_) :
    Ret Try.prog i_tailracekeep_StableAhead [.slice A l.length c, .int .i64 a_, .int .i64 b_] w fun v w2 => v = .bool true ∧ Below w.heap.size w w2 := by
  refine ret_of fn_tailracekeep_StableAhead rfl rfl ?_
  have H := Hp.startRd hr
  obtain ⟨ha1, ha2⟩ := ha
  obtain ⟨hb1, hb2⟩ := hb
  refine cw_seq ?_
  refine cw_region ?_ -- region 0 low.go:214
  refine l1 (asB_r rfl) rfl rfl rfl ?_
  refine lw_nil ?_
  refine cw_seq ?_
  refine cw_region ?_ -- region 1 low.go:215
  refine l1 (mvS_r rfl) rfl rfl rfl ?_
  refine cal cb_tailracekeep_many (many_ok l 50 _ _ _ (H.rd0 0 rfl) hok hl (by decide)) rfl rfl ?_
  rintro _ w2 ⟨Aes, ces, rfl, hr1, hces, hb1⟩; replace H := H.learnRd hb1 hr1; clear hr1 hb1
  generalize hes : manyE l 50 = es at H hces ⊢
  have hgood : ∀ e ∈ es, Good e := by rw [← hes]; exact manyE_good
  have hel : es.length ≤ 50 := by rw [← hes]; exact manyE_len l 50
  refine cal cb_tailracekeep_sent (sent_ok es _ _ _ (H.rd0 0 rfl) (by omega) (seqB_good hgood)) rfl rfl ?_
  rintro _ w4 ⟨Ass, css, rfl, hr3, hcss, hb3⟩; replace H := H.learnRd hb3 hr3; clear hr3 hb3
  have hsubss := sentE_sub es
  have hsentss := sentE_sent es
  generalize hdefss : sentE es = ss at H hcss hsubss hsentss ⊢
  have hlss : ss.length ≤ 60 := by have := hsubss.2; omega
  have hgss : ∀ e ∈ ss, Good e := fun e he => hgood e (hsubss.1 e he)
  refine l1 (asS_r rfl) rfl rfl rfl ?_
  refine lw_nil ?_
  refine cw_seq ?_
  refine cw_region ?_ -- region 2 low.go:216
  refine l1 (mvI_r rfl) rfl rfl rfl ?_
  refine l1 (mvS_r rfl) rfl rfl rfl ?_
  refine l1 (lenS_r len_LEntry rfl) rfl rfl rfl ?_
  refine l1 (add_r rfl rfl (by omega) (by omega)) rfl rfl rfl ?_
  rw [show (ss.length : Int) + 1 = ((ss.length + 1 : Nat) : Int) by omega]
  refine cal cb_tailracekeep_picked (picked_ok a_ (ss.length + 1) _ (by omega) (by omega) (by omega) (by omega)) rfl rfl ?_
  rintro _ w5 ⟨rfl, hb⟩; replace H := H.later hb; clear hb
  have hil := pk_lt a_ (show 0 < ss.length + 1 by omega)
  generalize pk a_ (ss.length + 1) = i at hil ⊢
  refine l1 (asI_r rfl) rfl rfl rfl ?_
  refine lw_nil ?_
  refine cw_seq ?_
  refine cw_region ?_ -- region 3 low.go:217
  refine l1 (mvI_r rfl) rfl rfl rfl ?_
  refine l1 (mvS_r rfl) rfl rfl rfl ?_
  refine l1 (lenS_r len_LEntry rfl) rfl rfl rfl ?_
  refine l1 (add_r rfl rfl (by omega) (by omega)) rfl rfl rfl ?_
  rw [show (ss.length : Int) + 1 = ((ss.length + 1 : Nat) : Int) by omega]
  refine cal cb_tailracekeep_picked (picked_ok b_ (ss.length + 1) _ (by omega) (by omega) (by omega) (by omega)) rfl rfl ?_
  rintro _ w6 ⟨rfl, hb⟩; replace H := H.later hb; clear hb
  have hjl := pk_lt b_ (show 0 < ss.length + 1 by omega)
  generalize pk b_ (ss.length + 1) = j at hjl ⊢
  obtain ⟨m, hmin⟩ : ∃ m : Nat, min (i : Int) j = m := ⟨min i j, by omega⟩
  obtain ⟨M, hmax⟩ : ∃ M : Nat, max (i : Int) j = M := ⟨max i j, by omega⟩
  refine l1 (asI_r rfl) rfl rfl rfl ?_
  refine lw_nil ?_
  refine cw_seq ?_
  refine cw_region ?_ -- region 4 low.go:218
  refine l1 (mvS_r rfl) rfl rfl rfl ?_
  refine l1 (mvI_r rfl) rfl rfl rfl ?_
  refine l1 (mvI_r rfl) rfl rfl rfl ?_
  refine l1 (minI_r rfl rfl) rfl rfl rfl ?_
  rw [hmin]
  refine cal cb_view_Stable (stable_ok ss _ _ m _ (H.rd0 0 rfl) hcss (by omega) (by omega)) rfl rfl ?_
  rintro _ w7 ⟨sx, hsx, rfl, hb⟩; replace H := H.later hb; clear hb
  refine l1 (mvU_r rfl) rfl rfl rfl ?_
  refine l1 (exI_r rfl rfl) rfl rfl rfl ?_
  refine l1 (exI_r rfl rfl) rfl rfl rfl ?_
  refine l1 (asI_r rfl) rfl rfl rfl ?_
  refine l1 (asI_r rfl) rfl rfl rfl ?_
  refine lw_nil ?_
  refine cw_seq ?_
  refine cw_region ?_ -- region 5 low.go:219
  refine l1 (mvS_r rfl) rfl rfl rfl ?_
  refine l1 (mvI_r rfl) rfl rfl rfl ?_
  refine l1 (mvI_r rfl) rfl rfl rfl ?_
  refine l1 (maxI_r rfl rfl) rfl rfl rfl ?_
  rw [hmax]
  refine cal cb_view_Stable (stable_ok ss _ _ M _ (H.rd0 0 rfl) hcss (by omega) (by omega)) rfl rfl ?_
  rintro _ w8 ⟨sy, hsy, rfl, hb⟩; replace H := H.later hb; clear hb
  refine l1 (mvU_r rfl) rfl rfl rfl ?_
  refine l1 (exI_r rfl rfl) rfl rfl rfl ?_
  refine l1 (exI_r rfl rfl) rfl rfl rfl ?_
  refine l1 (asI_r rfl) rfl rfl rfl ?_
  refine l1 (asI_r rfl) rfl rfl rfl ?_
  refine lw_nil ?_
  refine cw_seq ?_
  refine cw_region ?_ -- region 6 low.go:220
  refine l1 (mvS_r rfl) rfl rfl rfl ?_
  refine l1 (mvS_r rfl) rfl rfl rfl ?_
  refine l1 (lenS_r len_LEntry rfl) rfl rfl rfl ?_
  refine l1 (add_r rfl rfl (by omega) (by omega)) rfl rfl rfl ?_
  refine cal cb_view_Stable (stable_bad ss _ _ ((ss.length : Nat) + 1) _ (by omega)) rfl rfl ?_
  rintro _ w9 ⟨rfl, hb⟩; replace H := H.later hb; clear hb
  refine l1 (mvU_r rfl) rfl rfl rfl ?_
  refine l1 (exI_r rfl rfl) rfl rfl rfl ?_
  refine l1 (exI_r rfl rfl) rfl rfl rfl ?_
  refine l1 (asI_r rfl) rfl rfl rfl ?_
  refine l1 (asI_r rfl) rfl rfl rfl ?_
  refine lw_nil ?_
  refine cw_seq ?_
  refine cw_seq ?_
  refine cw_region ?_ -- region 7 low.go:221
  refine l1 (mvI_r rfl) rfl rfl rfl ?_
  refine l1 (neqF_r rfl rfl rfl) rfl rfl rfl ?_
  refine l1 (mvB_r rfl) rfl rfl rfl ?_
  refine lwG rfl ?_
  refine l1 (mvI_r rfl) rfl rfl rfl ?_
  refine lwG rfl ?_
  refine l1 (neqF_r rfl rfl rfl) rfl rfl rfl ?_
  refine l1 (pkFB_r rfl rfl) rfl rfl rfl ?_
  refine l1 (mvB_r rfl) rfl rfl rfl ?_
  refine lwG rfl ?_
  refine l1 (mvI_r rfl) rfl rfl rfl ?_
  refine lwG rfl ?_
  refine l1 (neqF_r rfl rfl rfl) rfl rfl rfl ?_
  refine l1 (pkFB_r rfl rfl) rfl rfl rfl ?_
  refine l1 (mvB_r rfl) rfl rfl rfl ?_
  refine lwG rfl ?_
  have hx1 : sx ≤ m := by have := hsx.1; simp at this; omega
  have hx2 : sx ≤ sy := stab_mono (by omega) (by omega) hsx hsy
  refine l1 (mvI_r rfl) rfl rfl rfl ?_
  refine lwG rfl ?_
  refine l1 (mvI_r rfl) rfl rfl rfl ?_
  refine lwG rfl ?_
  refine l1 (mvI_r rfl) rfl rfl rfl ?_
  refine lwG rfl ?_
  refine l1 (minI_r rfl rfl) rfl rfl rfl ?_
  rw [hmin]
  refine lwG rfl ?_
  refine l1 (gtrF_r rfl rfl (by omega)) rfl rfl rfl ?_
  refine l1 (pkFB_r rfl rfl) rfl rfl rfl ?_
  refine l1 (mvB_r rfl) rfl rfl rfl ?_
  refine lwG rfl ?_
  refine l1 (mvI_r rfl) rfl rfl rfl ?_
  refine lwG rfl ?_
  refine l1 (mvI_r rfl) rfl rfl rfl ?_
  refine lwG rfl ?_
  refine l1 (gtrF_r rfl rfl (by omega)) rfl rfl rfl ?_
  refine l1 (pkFB_r rfl rfl) rfl rfl rfl ?_
  refine lw_nil ?_
  refine cw_false rfl ?_
  refine cw_skip ?_
  refine cw_seq ?_
  refine cw_seq ?_
  refine cw_region ?_ -- region 9 low.go:224
  refine l1 (mvS_r rfl) rfl rfl rfl ?_
  refine l1 (mvI_r rfl) rfl rfl rfl ?_
  refine sliHiF (k := sx) H 0 rfl sl_LEntry rfl rfl hcss (by omega) rfl ?_; intro A79 H
  refine l1 (lenS_r len_LEntry rfl) rfl rfl rfl ?_
  refine l1 (mvI_r rfl) rfl rfl rfl ?_
  refine lw_nil ?_
  refine cw_block ?_ -- block 0
  refine cw_loop (τ := Nat) [6, 16, 17, 81, 82, 83, 84, 85, 86, 87, 88, 89, 90, 91, 92, 93, 94, 95, 96, 97, 98, 99, 100, 101, 102, 103, 104] (fun k => [(81, .int .i64 (k : Nat))]) (fun k w' => k ≤ sx ∧ Hp w w' [] [FRd entL w2.heap.size w4.heap.size A79 (ss.take sx), FRd entL w2.heap.size w4.heap.size Ass ss, FRd entL w.heap.size w2.heap.size Aes es, FRd rawL 0 w.heap.size A l]) (fun k => sx - k) 0 ⟨by omega, H⟩ (sl1 rfl) ?_ -- LOOP 0
  rintro k ρ1 w10 ⟨hk, H⟩
  show CW _ _ _ _ (updL (ovr _ _ ρ1) [(81, .int .i64 (k : Nat))]) w10
  refine cw_seq ?_
  refine cw_region ?_ -- region 10 low.go:224
  refine lwD (lss_r rfl rfl) rfl rfl rfl (fun h82 => ?_) (fun h82 => ?_)
  · -- slot 82 True
    refine lw_nil ?_
    refine cw_seq ?_
    refine cw_true rfl ?_
    refine cw_skip ?_
    refine cw_seq ?_
    refine cw_block ?_ -- block 1
    refine cw_seq ?_
    refine cw_region ?_ -- region 11 low.go:224
    refine l1 (mvI_r rfl) rfl rfl rfl ?_
    have htl : (ss.take sx).length = sx := by simp; omega
    refine ixF H 0 rfl sl_LEntry rfl rfl (by omega) (by omega) rfl ?_; intro b11 o11 x11 e11
    have hxk : ss[k]? = some x11 := by have := e11.at_; rwa [List.getElem?_take_of_lt (by omega)] at this
    refine l1 (ldA_r (xs := Ent.c x11) agg_Entry rfl rfl e11.cl) rfl rfl rfl ?_
    refine alo H z_Entry rfl ?_; intro w12 b17 H
    refine l1 (asI_r rfl) rfl rfl rfl ?_
    refine stW H 0 siz_Entry rfl rfl rfl rfl rfl rfl ?_; intro w13 H
    refine lw_nil ?_
    refine cw_seq ?_
    refine cw_region ?_ -- region 12 low.go:225
    refine l1 (fad_r fd_Entry_4 rfl) rfl rfl rfl ?_
    refine l1 (ld_r one_int rfl (cellE (H.ent (i := 0) rfl) rfl)) rfl rfl rfl ?_
    refine lwD (eql_r rfl rfl) rfl rfl rfl (fun h88 => ?_) (fun h88 => ?_)
    · -- slot 88 True
      refine l1 (mvB_r rfl) rfl rfl rfl ?_
      refine lwG rfl ?_
      refine l1 (fad_r fd_Entry_5 rfl) rfl rfl rfl ?_
      refine lwG rfl ?_
      refine lwB (ld_r one_bool rfl (cellE (H.ent (i := 0) rfl) rfl)) rfl rfl rfl (fun h91 => ?_) (fun h91 => ?_)
      · -- slot 91 True
        refine l1 (pkTB_r rfl rfl) rfl rfl rfl ?_
        refine l1 (mvB_r rfl) rfl rfl rfl ?_
        refine lwG rfl ?_
        refine l1 (mvS_r rfl) rfl rfl rfl ?_
        refine lwG rfl ?_
        refine l1 (mvI_r rfl) rfl rfl rfl ?_
        refine lwG rfl ?_
        refine l1 (mvI_r rfl) rfl rfl rfl ?_
        refine lwG rfl ?_
        refine l1 (mvI_r rfl) rfl rfl rfl ?_
        refine lwG rfl ?_
        refine l1 (minI_r rfl rfl) rfl rfl rfl ?_
        rw [hmin]
        refine lwG rfl ?_
        refine sliLHF (k := k) (m := m) H 1 rfl sl_LEntry rfl rfl rfl hcss (by omega) (by omega) rfl ?_; intro A99 H
        obtain ⟨ds, hds⟩ : ∃ ds, (ss.take m).drop k = ds := ⟨_, rfl⟩
        rw [hds] at H
        have hdl : m - k = ds.length := by rw [← hds]; simp; omega
        rw [hdl]
        refine lwG rfl ?_
        refine l1 (mkf_r rfl) rfl rfl rfl ?_
        refine lwG rfl ?_
        refine cal cb_slices_ContainsFunc_LEntry_Entry (containsFunc_Entry_ok ds _ _ _ (H.rd0 0 rfl) (by omega) i_tailracekeep_StableAhead_c1 [.pointer (some ⟨b17, 0, none⟩)] cb_tailracekeep_StableAhead_c1 (fun q => decide (q.pid = x11.pid) && !decide (q.kind = 1)) (fun e w' _ hw' => stable_c1_ok e x11 b17 w' ((hw'.block _ (lt_of_heap (H.ent (i := 0) rfl))).trans (H.ent (i := 0) rfl)))) rfl rfl ?_
        rintro _ w14 ⟨rfl, hb⟩; replace H := H.later hb; clear hb
        have hcl : ds.any (fun q => decide (q.pid = x11.pid) && !decide (q.kind = 1)) = true := by rw [← hds]; exact stab_closed hsx (by omega) hxk (hgss _ (List.mem_of_getElem? hxk)) h88 h91
        rw [hcl]
        refine lwG rfl ?_
        refine l1 (not_r rfl) rfl rfl rfl ?_
        refine l1 (pkTB_r rfl rfl) rfl rfl rfl ?_
        refine lw_nil ?_
        refine cw_false rfl ?_
        refine cw_skip ?_
        refine cw_region ?_ -- region 14 low.go:224
        refine l1 (add_r rfl rfl (by omega) (by omega)) rfl rfl rfl ?_
        refine l1 (mvI_r rfl) rfl rfl rfl ?_
        refine lw_nil ?_
        refine ⟨k + 1, ⟨by omega, H.forget (by simp) (by simp)⟩, sl1 rfl, by repeat (first | exact Agr.refl _ _ | exact agr_ovr | refine agr_upd rfl ?_ | refine agr_updL _ rfl ?_ | refine agr_ovr2 rfl ?_), by show sx - (k + 1) < sx - k; omega⟩
      · -- slot 91 False
        refine l1 (pkTB_r rfl rfl) rfl rfl rfl ?_
        refine l1 (mvB_r rfl) rfl rfl rfl ?_
        refine lwN rfl rfl rfl ?_
        refine lwN rfl rfl rfl ?_
        refine lwN rfl rfl rfl ?_
        refine lwN rfl rfl rfl ?_
        refine lwN rfl rfl rfl ?_
        refine lwN rfl rfl rfl ?_
        refine lwN rfl rfl rfl ?_
        refine lwN rfl rfl rfl ?_
        refine lwN rfl rfl rfl ?_
        refine l1 (pkFB_r rfl rfl) rfl rfl rfl ?_
        refine lw_nil ?_
        refine cw_false rfl ?_
        refine cw_skip ?_
        refine cw_region ?_ -- region 14 low.go:224
        refine l1 (add_r rfl rfl (by omega) (by omega)) rfl rfl rfl ?_
        refine l1 (mvI_r rfl) rfl rfl rfl ?_
        refine lw_nil ?_
        refine ⟨k + 1, ⟨by omega, H.forget (by simp) (by simp)⟩, sl1 rfl, by repeat (first | exact Agr.refl _ _ | exact agr_ovr | refine agr_upd rfl ?_ | refine agr_updL _ rfl ?_ | refine agr_ovr2 rfl ?_), by show sx - (k + 1) < sx - k; omega⟩
    · -- slot 88 False
      refine l1 (mvB_r rfl) rfl rfl rfl ?_
      refine lwN rfl rfl rfl ?_
      refine lwN rfl rfl rfl ?_
      refine l1 (pkFB_r rfl rfl) rfl rfl rfl ?_
      refine l1 (mvB_r rfl) rfl rfl rfl ?_
      refine lwN rfl rfl rfl ?_
      refine lwN rfl rfl rfl ?_
      refine lwN rfl rfl rfl ?_
      refine lwN rfl rfl rfl ?_
      refine lwN rfl rfl rfl ?_
      refine lwN rfl rfl rfl ?_
      refine lwN rfl rfl rfl ?_
      refine lwN rfl rfl rfl ?_
      refine lwN rfl rfl rfl ?_
      refine l1 (pkFB_r rfl rfl) rfl rfl rfl ?_
      refine lw_nil ?_
      refine cw_false rfl ?_
      refine cw_skip ?_
      refine cw_region ?_ -- region 14 low.go:224
      refine l1 (add_r rfl rfl (by omega) (by omega)) rfl rfl rfl ?_
      refine l1 (mvI_r rfl) rfl rfl rfl ?_
      refine lw_nil ?_
      refine ⟨k + 1, ⟨by omega, H.forget (by simp) (by simp)⟩, sl1 rfl, by repeat (first | exact Agr.refl _ _ | exact agr_ovr | refine agr_upd rfl ?_ | refine agr_updL _ rfl ?_ | refine agr_ovr2 rfl ?_), by show sx - (k + 1) < sx - k; omega⟩
  · -- slot 82 False
    refine lw_nil ?_
    refine cw_seq ?_
    refine cw_false rfl ?_
    refine cw_exit ?_ -- 0
    refine cw_seq ?_
    refine cw_region ?_ -- region 15 low.go:229
    refine l1 (asB_r rfl) rfl rfl rfl ?_
    refine lw_nil ?_
    refine cw_ret ?_
    exact fin1 (v := .bool true) rfl rfl ⟨rfl, H.below⟩
end Go.Proofs.Ytemnchkebhclpaa
end

section
namespace Go.Proofs.Ytemnchkebhclpaa
open Go Go.Eng Go.RowKit
set_option linter.unusedSimpArgs false
set_option maxHeartbeats 4000000 in
set_option maxRecDepth 10000 in
theorem eq_string_ok (es fs : List ByteArray) (A B : Option Addr) (c d : Nat) (w : World) (hr : Rd strL 0 w.heap.size A es w) (hs : Rd strL 0 w.heap.size B fs w) (hb : es.length ≤ 1000000000000) :
    Ret Try.prog i_slices_Equal_Lstring_string [.slice A es.length c, .slice B fs.length d] w fun v w2 => v = .bool (decide (es = fs)) ∧ Below w.heap.size w w2 := by
  refine ret_of fn_slices_Equal_Lstring_string rfl rfl ?_
  have H := (Hp.startRd hr).learnOld (FRd strL 0 w.heap.size B fs) hs (Nat.le_refl _)
  refine cw_seq ?_
  refine cw_region ?_ -- region 0 slices.go:20
  refine l1 (asB_r rfl) rfl rfl rfl ?_
  refine lw_nil ?_
  refine cw_seq ?_
  refine cw_seq ?_
  refine cw_region ?_ -- region 1 slices.go:21
  refine l1 (mvS_r rfl) rfl rfl rfl ?_
  refine l1 (lenS_r len_Lstring rfl) rfl rfl rfl ?_
  refine l1 (mvS_r rfl) rfl rfl rfl ?_
  refine l1 (lenS_r len_Lstring rfl) rfl rfl rfl ?_
  refine lwND (neq_r rfl rfl) rfl rfl rfl (fun h10 => ?_) (fun h10 => ?_)
  · -- slot 10 True
    have hne : es ≠ fs := fun h => h10 (by rw [h])
    refine lw_nil ?_
    refine cw_true rfl ?_
    refine cw_seq ?_
    refine cw_region ?_ -- region 2 slices.go:22
    refine l1 (asB_r rfl) rfl rfl rfl ?_
    refine lw_nil ?_
    refine cw_ret ?_
    exact fin1 (v := .bool false) rfl rfl ⟨by rw [decide_eq_false hne], H.below⟩
  · -- slot 10 False
    have hlen : es.length = fs.length := by omega
    refine lw_nil ?_
    refine cw_false rfl ?_
    refine cw_skip ?_
    refine cw_seq ?_
    refine cw_seq ?_
    refine cw_region ?_ -- region 3 slices.go:24
    refine l1 (mvS_r rfl) rfl rfl rfl ?_
    refine l1 (lenS_r len_Lstring rfl) rfl rfl rfl ?_
    refine l1 (mvI_r rfl) rfl rfl rfl ?_
    refine lw_nil ?_
    refine cw_block ?_ -- block 0
    refine cw_loop (τ := Nat) [4, 5, 13, 14, 15, 16, 17, 18, 19, 20, 21, 22, 23, 24, 25] (fun k => [(13, .int .i64 (k : Nat))]) (fun k w' => k ≤ es.length ∧ es.take k = fs.take k ∧ Hp w w' [] [FRd strL 0 w.heap.size B fs, FRd strL 0 w.heap.size A es]) (fun k => es.length - k) 0 ⟨by omega, rfl, H⟩ (sl1 rfl) ?_ -- LOOP 0
    rintro k ρ1 w1 ⟨hk, heq, H⟩
    show CW _ _ _ _ (updL (ovr _ _ ρ1) [(13, .int .i64 (k : Nat))]) w1
    refine cw_seq ?_
    refine cw_region ?_ -- region 4 slices.go:24
    refine lwD (lss_r rfl rfl) rfl rfl rfl (fun h14 => ?_) (fun h14 => ?_)
    · -- slot 14 True
      refine lw_nil ?_
      refine cw_seq ?_
      refine cw_true rfl ?_
      refine cw_skip ?_
      refine cw_seq ?_
      refine cw_block ?_ -- block 1
      refine cw_seq ?_
      refine cw_region ?_ -- region 5 slices.go:24
      refine l1 (mvI_r rfl) rfl rfl rfl ?_
      refine l1 (asI_r rfl) rfl rfl rfl ?_
      refine lw_nil ?_
      refine cw_seq ?_
      -- region 6 draws
      refine cw_draw mixed [0, 1, 2, 3, 4, 5, 6, 7, 8] [] [] [0, 1, 2, 4, 5, 6, 8] (sp []) (by kernel_rfl) (by kernel_rfl) (by kernel_rfl) (by kernel_rfl) (fun _ _ _ h => h) (sp_st _) ?_
      refine aw rfl rfl rfl rfl rfl (fun w' hw' => mvS_r rfl) ?_
      refine aw rfl rfl rfl rfl rfl (fun w' hw' => mvI_r rfl) ?_
      refine awIxF H 1 rfl rfl rfl rfl rfl sl_Lstring rfl rfl (by omega) (by omega) ?_; intro b2 o2 x2 e2
      refine aw rfl rfl rfl rfl rfl (fun w' hw' => ld_r one_string rfl (e2.later hw' 0 _ rfl)) ?_
      refine aw rfl rfl rfl rfl rfl (fun w' hw' => mvS_r rfl) ?_
      refine aw rfl rfl rfl rfl rfl (fun w' hw' => mvI_r rfl) ?_
      refine awIxF H 0 rfl rfl rfl rfl rfl sl_Lstring rfl rfl (by omega) (by omega) ?_; intro b3 o3 x3 e3
      refine aw rfl rfl rfl rfl rfl (fun w' hw' => ld_r one_string rfl (e3.later hw' 0 _ rfl)) ?_
      refine awND rfl rfl rfl rfl rfl (fun w' hw' => sneq_r rfl rfl) (fun h24 => ?_) (fun h24 => ?_)
      · -- slot 24 True
        refine aw_nil ?_
        intro w4 hw' hF
        replace H := H.later hw'; clear hw' hF
        refine lw_nil ?_
        refine cw_true rfl ?_
        refine cw_seq ?_
        refine cw_region ?_ -- region 7 slices.go:26
        refine l1 (asB_r rfl) rfl rfl rfl ?_
        refine lw_nil ?_
        refine cw_ret ?_
        have hne : es ≠ fs := fun h => by subst h; have h1 := e2.at_; rw [e3.at_] at h1; injection h1 with h1; exact h24 h1.symm
        exact fin1 (v := .bool false) rfl rfl ⟨by rw [decide_eq_false hne], H.below⟩
      · -- slot 24 False
        refine aw_nil ?_
        intro w5 hw' hF
        replace H := H.later hw'; clear hw' hF
        refine lw_nil ?_
        refine cw_false rfl ?_
        refine cw_skip ?_
        refine cw_region ?_ -- region 8 slices.go:24
        refine l1 (add_r rfl rfl (by omega) (by omega)) rfl rfl rfl ?_
        refine l1 (mvI_r rfl) rfl rfl rfl ?_
        refine lw_nil ?_
        refine ⟨k + 1, ⟨by omega, by rw [take_snoc e2.at_, take_snoc e3.at_, heq, h24], H⟩, sl1 rfl, by repeat (first | exact Agr.refl _ _ | exact agr_ovr | refine agr_upd rfl ?_ | refine agr_updL _ rfl ?_ | refine agr_ovr2 rfl ?_), by show es.length - (k + 1) < es.length - k; omega⟩
    · -- slot 14 False
      refine lw_nil ?_
      refine cw_seq ?_
      refine cw_false rfl ?_
      refine cw_exit ?_ -- 0
      refine cw_seq ?_
      refine cw_region ?_ -- region 9 slices.go:29
      refine l1 (asB_r rfl) rfl rfl rfl ?_
      refine lw_nil ?_
      refine cw_ret ?_
      have hke : k = es.length := by omega
      subst hke
      rw [List.take_length, hlen, List.take_length] at heq
      exact fin1 (v := .bool true) rfl rfl ⟨by rw [decide_eq_true heq], H.below⟩
set_option maxHeartbeats 4000000 in
set_option maxRecDepth 10000 in
theorem eq_int_ok (es fs : List Int) (A B : Option Addr) (c d : Nat) (w : World) (hr : Rd intL 0 w.heap.size A es w) (hs : Rd intL 0 w.heap.size B fs w) (hb : es.length ≤ 1000000000000) :
    Ret Try.prog i_slices_Equal_Lint_int [.slice A es.length c, .slice B fs.length d] w fun v w2 => v = .bool (decide (es = fs)) ∧ Below w.heap.size w w2 := by
  refine ret_of fn_slices_Equal_Lint_int rfl rfl ?_
  have H := (Hp.startRd hr).learnOld (FRd intL 0 w.heap.size B fs) hs (Nat.le_refl _)
  refine cw_seq ?_
  refine cw_region ?_ -- region 0 slices.go:20
  refine l1 (asB_r rfl) rfl rfl rfl ?_
  refine lw_nil ?_
  refine cw_seq ?_
  refine cw_seq ?_
  refine cw_region ?_ -- region 1 slices.go:21
  refine l1 (mvS_r rfl) rfl rfl rfl ?_
  refine l1 (lenS_r len_Lint rfl) rfl rfl rfl ?_
  refine l1 (mvS_r rfl) rfl rfl rfl ?_
  refine l1 (lenS_r len_Lint rfl) rfl rfl rfl ?_
  refine lwND (neq_r rfl rfl) rfl rfl rfl (fun h10 => ?_) (fun h10 => ?_)
  · -- slot 10 True
    have hne : es ≠ fs := fun h => h10 (by rw [h])
    refine lw_nil ?_
    refine cw_true rfl ?_
    refine cw_seq ?_
    refine cw_region ?_ -- region 2 slices.go:22
    refine l1 (asB_r rfl) rfl rfl rfl ?_
    refine lw_nil ?_
    refine cw_ret ?_
    exact fin1 (v := .bool false) rfl rfl ⟨by rw [decide_eq_false hne], H.below⟩
  · -- slot 10 False
    have hlen : es.length = fs.length := by omega
    refine lw_nil ?_
    refine cw_false rfl ?_
    refine cw_skip ?_
    refine cw_seq ?_
    refine cw_seq ?_
    refine cw_region ?_ -- region 3 slices.go:24
    refine l1 (mvS_r rfl) rfl rfl rfl ?_
    refine l1 (lenS_r len_Lint rfl) rfl rfl rfl ?_
    refine l1 (mvI_r rfl) rfl rfl rfl ?_
    refine lw_nil ?_
    refine cw_block ?_ -- block 0
    refine cw_loop (τ := Nat) [4, 5, 13, 14, 15, 16, 17, 18, 19, 20, 21, 22, 23, 24, 25] (fun k => [(13, .int .i64 (k : Nat))]) (fun k w' => k ≤ es.length ∧ es.take k = fs.take k ∧ Hp w w' [] [FRd intL 0 w.heap.size B fs, FRd intL 0 w.heap.size A es]) (fun k => es.length - k) 0 ⟨by omega, rfl, H⟩ (sl1 rfl) ?_ -- LOOP 0
    rintro k ρ1 w1 ⟨hk, heq, H⟩
    show CW _ _ _ _ (updL (ovr _ _ ρ1) [(13, .int .i64 (k : Nat))]) w1
    refine cw_seq ?_
    refine cw_region ?_ -- region 4 slices.go:24
    refine lwD (lss_r rfl rfl) rfl rfl rfl (fun h14 => ?_) (fun h14 => ?_)
    · -- slot 14 True
      refine lw_nil ?_
      refine cw_seq ?_
      refine cw_true rfl ?_
      refine cw_skip ?_
      refine cw_seq ?_
      refine cw_block ?_ -- block 1
      refine cw_seq ?_
      refine cw_region ?_ -- region 5 slices.go:24
      refine l1 (mvI_r rfl) rfl rfl rfl ?_
      refine l1 (asI_r rfl) rfl rfl rfl ?_
      refine lw_nil ?_
      refine cw_seq ?_
      -- region 6 draws
      refine cw_draw mixed [0, 1, 2, 3, 4, 5, 6, 7, 8] [] [] [0, 1, 2, 4, 5, 6, 8] (sp []) (by kernel_rfl) (by kernel_rfl) (by kernel_rfl) (by kernel_rfl) (fun _ _ _ h => h) (sp_st _) ?_
      refine aw rfl rfl rfl rfl rfl (fun w' hw' => mvS_r rfl) ?_
      refine aw rfl rfl rfl rfl rfl (fun w' hw' => mvI_r rfl) ?_
      refine awIxF H 1 rfl rfl rfl rfl rfl sl_Lint rfl rfl (by omega) (by omega) ?_; intro b2 o2 x2 e2
      refine aw rfl rfl rfl rfl rfl (fun w' hw' => ld_r one_int rfl (e2.later hw' 0 _ rfl)) ?_
      refine aw rfl rfl rfl rfl rfl (fun w' hw' => mvS_r rfl) ?_
      refine aw rfl rfl rfl rfl rfl (fun w' hw' => mvI_r rfl) ?_
      refine awIxF H 0 rfl rfl rfl rfl rfl sl_Lint rfl rfl (by omega) (by omega) ?_; intro b3 o3 x3 e3
      refine aw rfl rfl rfl rfl rfl (fun w' hw' => ld_r one_int rfl (e3.later hw' 0 _ rfl)) ?_
      refine awND rfl rfl rfl rfl rfl (fun w' hw' => neq_r rfl rfl) (fun h24 => ?_) (fun h24 => ?_)
      · -- slot 24 True
        refine aw_nil ?_
        intro w4 hw' hF
        replace H := H.later hw'; clear hw' hF
        refine lw_nil ?_
        refine cw_true rfl ?_
        refine cw_seq ?_
        refine cw_region ?_ -- region 7 slices.go:26
        refine l1 (asB_r rfl) rfl rfl rfl ?_
        refine lw_nil ?_
        refine cw_ret ?_
        have hne : es ≠ fs := fun h => by subst h; have h1 := e2.at_; rw [e3.at_] at h1; injection h1 with h1; exact h24 h1.symm
        exact fin1 (v := .bool false) rfl rfl ⟨by rw [decide_eq_false hne], H.below⟩
      · -- slot 24 False
        refine aw_nil ?_
        intro w5 hw' hF
        replace H := H.later hw'; clear hw' hF
        refine lw_nil ?_
        refine cw_false rfl ?_
        refine cw_skip ?_
        refine cw_region ?_ -- region 8 slices.go:24
        refine l1 (add_r rfl rfl (by omega) (by omega)) rfl rfl rfl ?_
        refine l1 (mvI_r rfl) rfl rfl rfl ?_
        refine lw_nil ?_
        refine ⟨k + 1, ⟨by omega, by rw [take_snoc e2.at_, take_snoc e3.at_, heq, h24], H⟩, sl1 rfl, by repeat (first | exact Agr.refl _ _ | exact agr_ovr | refine agr_upd rfl ?_ | refine agr_updL _ rfl ?_ | refine agr_ovr2 rfl ?_), by show es.length - (k + 1) < es.length - k; omega⟩
    · -- slot 14 False
      refine lw_nil ?_
      refine cw_seq ?_
      refine cw_false rfl ?_
      refine cw_exit ?_ -- 0
      refine cw_seq ?_
      refine cw_region ?_ -- region 9 slices.go:29
      refine l1 (asB_r rfl) rfl rfl rfl ?_
      refine lw_nil ?_
      refine cw_ret ?_
      have hke : k = es.length := by omega
      subst hke
      rw [List.take_length, hlen, List.take_length] at heq
      exact fin1 (v := .bool true) rfl rfl ⟨by rw [decide_eq_true heq], H.below⟩
end Go.Proofs.Ytemnchkebhclpaa
end

section
namespace Go.Proofs.Ytemnchkebhclpaa
open Go Go.Eng Go.RowKit
set_option linter.unusedSimpArgs false
theorem texts_len (es : List Ent) (n a b : Nat) : (texts es n a b).length ≤ b - a := by
  unfold texts
  have key : ∀ l : List Nat, (l.flatMap (visL es n)).length ≤ l.length := by
    intro l
    induction l with
    | nil => simp
    | cons i l ih =>
      have h1 : (visL es n i).length ≤ 1 := by
        unfold visL
        split
        · split <;> simp
        · simp
      simp only [List.flatMap_cons, List.length_append, List.length_cons]
      omega
  have := key (List.range' a (b - a))
  rwa [List.length_range'] at this
theorem read_all {es : List Ent} {st b : Nat} {out : List ByteArray} (hl : es.length ≤ 18) (hst : st ≤ es.length) (h : ReadS es es.length st 0 20 out b) : b = st ∧ out = texts es es.length 0 st := by
  obtain ⟨_, h2, h3, _, h5⟩ := h
  have hlen := texts_len es es.length 0 b
  rw [← h3] at hlen
  have hb : b = st := by omega
  exact ⟨hb, by rw [← hb]; exact h3⟩
theorem read_step {es : List Ent} {st a m b : Nat} {out : List ByteArray} (hm : 1 ≤ m) (ha : a ≤ st) (h : ReadS es es.length st a m out b) : b ≤ st ∧ a ≤ b ∧ out = texts es es.length a b ∧ out.length ≤ m ∧ (a < b ∨ b = st) := by
  obtain ⟨h1, h2, h3, h4, h5⟩ := h
  refine ⟨by omega, h1, h3, h4, ?_⟩
  by_cases hab : a = b
  · subst hab
    rw [texts_self] at h3
    subst h3
    simp at h5
    omega
  · omega
set_option maxHeartbeats 4000000 in
set_option maxRecDepth 10000 in
theorem readPages_ok (l : List Raw) (A : Option Addr) (c : Nat) (m_ : Int) (w : World) (hr : Rd rawL 0 w.heap.size A l w) (hok : ∀ r ∈ l, r.ok) (hl : l.length ≤ 9223372036854775807) (hm : i64 m_) :
    Ret Try.prog i_tailracekeep_ReadPages [.slice A l.length c, .int .i64 m_] w fun v w2 => v = .bool true ∧ Below w.heap.size w w2 := by
  refine ret_of fn_tailracekeep_ReadPages rfl rfl ?_
  have H := Hp.startRd hr
  obtain ⟨hm1, hm2⟩ := hm
  refine cw_seq ?_
  refine cw_region ?_ -- region 0 low.go:233
  refine l1 (asB_r rfl) rfl rfl rfl ?_
  refine lw_nil ?_
  refine cw_seq ?_
  refine cw_seq ?_
  refine cw_region ?_ -- region 1 low.go:234
  refine cal cb_tailracekeep_viewTells (viewTells_ok _) rfl rfl ?_
  rintro _ w1 ⟨rfl, hb⟩; replace H := H.later hb; clear hb
  refine l1 (not_r rfl) rfl rfl rfl ?_
  refine lw_nil ?_
  refine cw_false rfl ?_
  refine cw_skip ?_
  refine cw_seq ?_
  refine cw_region ?_ -- region 3 low.go:237
  refine l1 (mvS_r rfl) rfl rfl rfl ?_
  refine cal cb_tailracekeep_many (many_ok l 18 _ _ _ (H.rd0 0 rfl) hok hl (by decide)) rfl rfl ?_
  rintro _ w3 ⟨Aes, ces, rfl, hr2, hces, hb2⟩; replace H := H.learnRd hb2 hr2; clear hr2 hb2
  generalize hes : manyE l 18 = es at H hces ⊢
  have hgood : ∀ e ∈ es, Good e := by rw [← hes]; exact manyE_good
  have hel : es.length ≤ 18 := by rw [← hes]; exact manyE_len l 18
  refine cal cb_tailracekeep_sent (sent_ok es _ _ _ (H.rd0 0 rfl) (by omega) (seqB_good hgood)) rfl rfl ?_
  rintro _ w5 ⟨Ass, css, rfl, hr4, hcss, hb4⟩; replace H := H.learnRd hb4 hr4; clear hr4 hb4
  have hsubss := sentE_sub es
  have hsentss := sentE_sent es
  generalize hdefss : sentE es = ss at H hcss hsubss hsentss ⊢
  have hlss : ss.length ≤ 60 := by have := hsubss.2; omega
  have hgss : ∀ e ∈ ss, Good e := fun e he => hgood e (hsubss.1 e he)
  refine l1 (asS_r rfl) rfl rfl rfl ?_
  refine lw_nil ?_
  refine cw_seq ?_
  refine cw_region ?_ -- region 4 low.go:238
  have hl18 : ss.length ≤ 18 := by have := hsubss.2; omega
  refine l1 (mvS_r rfl) rfl rfl rfl ?_
  refine l1 (mvS_r rfl) rfl rfl rfl ?_
  refine l1 (lenS_r len_LEntry rfl) rfl rfl rfl ?_
  refine cal cb_view_Read (read_ok ss _ _ ss.length 0 20 _ (H.rd0 0 rfl) hcss (by omega) (by omega) (by omega) (by decide) (by decide)) rfl rfl ?_
  rintro _ w6 ⟨st, all, e_, A1, c1, hst, hrs, rfl, hr1, hc1, hb1⟩; replace H := H.learnRd hb1 hr1; clear hr1 hb1
  have hstl : st ≤ ss.length := by have := hst.1; simpa using this
  obtain ⟨he_, hall⟩ := read_all hl18 hstl hrs
  refine l1 (mvU_r rfl) rfl rfl rfl ?_
  refine l1 (exS_r rfl rfl) rfl rfl rfl ?_
  refine l1 (exI_r rfl rfl) rfl rfl rfl ?_
  refine l1 (exI_r rfl rfl) rfl rfl rfl ?_
  refine l1 (asS_r rfl) rfl rfl rfl ?_
  refine l1 (asI_r rfl) rfl rfl rfl ?_
  refine l1 (asI_r rfl) rfl rfl rfl ?_
  refine lw_nil ?_
  refine cw_seq ?_
  refine cw_region ?_ -- region 5 low.go:239
  refine l1 (mvI_r rfl) rfl rfl rfl ?_
  refine cal cb_tailracekeep_picked (picked_ok m_ 4 _ (by omega) (by omega) (by decide) (by decide)) rfl rfl ?_
  rintro _ w7 ⟨rfl, hb⟩; replace H := H.later hb; clear hb
  have hq := pk_lt m_ (show 0 < 4 by decide)
  generalize pk m_ 4 = q at hq ⊢
  refine l1 (add_r rfl rfl (by omega) (by omega)) rfl rfl rfl ?_
  rw [show (1 : Int) + (q : Nat) = ((1 + q : Nat) : Int) by omega]
  refine l1 (asI_r rfl) rfl rfl rfl ?_
  refine lw_nil ?_
  refine cw_seq ?_
  refine cw_region ?_ -- region 6 low.go:240
  refine l1 (asI_r rfl) rfl rfl rfl ?_
  refine lw_nil ?_
  refine cw_seq ?_
  refine cw_region ?_ -- region 7 low.go:241
  refine l1 (asS_r rfl) rfl rfl rfl ?_
  refine lw_nil ?_
  refine cw_seq ?_
  refine cw_seq ?_
  refine cw_region ?_ -- region 8 low.go:242
  refine l1 (mvI_r rfl) rfl rfl rfl ?_
  refine lw_nil ?_
  refine cw_block ?_ -- block 0
  refine cw_loop (τ := Nat × Nat × List ByteArray × Option Addr × Nat) [4, 10, 11, 12, 13, 14, 33, 34, 35, 36, 37, 38, 39, 40, 41, 42, 43, 44, 45, 46, 47, 48, 49, 50, 51, 52, 53, 54, 55, 56, 57, 58, 59, 60, 61, 62] (fun (r, at_, got, Ag, cg) => [(10, .int .i64 (at_ : Nat)), (11, .slice Ag got.length cg), (33, .int .i64 (r : Nat))]) (fun (r, at_, got, Ag, cg) w' => r ≤ 30 ∧ at_ ≤ st ∧ got = texts ss ss.length 0 at_ ∧ got.length ≤ 18 ∧ (r ≤ at_ ∨ at_ = st) ∧ ∃ L', Own strL (.slice Ag got.length cg) T_string got L' ∧ Hp w w' ([] ++ L' ++ []) [FRd strL w5.heap.size w6.heap.size A1 all, FRd entL w3.heap.size w5.heap.size Ass ss, FRd entL w1.heap.size w3.heap.size Aes es, FRd rawL 0 w.heap.size A l]) (fun (r, _, _, _, _) => 30 - r) (0, 0, [], none, 0) ⟨by omega, by omega, (texts_self _ _ _).symm, by simp, .inl (Nat.le_refl _), [], Own.nil, H⟩ (sl3 rfl rfl rfl) ?_ -- LOOP 0
  rintro ⟨r, at_, got, Ag, cg⟩ ρ1 w8 ⟨hr30, hat, hgot, hgl, hprog, L1, ho, H⟩
  show CW _ _ _ _ (updL (ovr _ _ ρ1) [(10, .int .i64 (at_ : Nat)), (11, .slice Ag got.length cg), (33, .int .i64 (r : Nat))]) w8
  refine cw_seq ?_
  refine cw_region ?_ -- region 9 low.go:242
  refine lwD (lss_r rfl rfl) rfl rfl rfl (fun h34 => ?_) (fun h34 => ?_)
  · -- slot 34 True
    refine lw_nil ?_
    refine cw_seq ?_
    refine cw_true rfl ?_
    refine cw_skip ?_
    refine cw_seq ?_
    refine cw_block ?_ -- block 1
    refine cw_seq ?_
    refine cw_region ?_ -- region 10 low.go:243
    refine l1 (mvS_r rfl) rfl rfl rfl ?_
    refine l1 (mvS_r rfl) rfl rfl rfl ?_
    refine l1 (lenS_r len_LEntry rfl) rfl rfl rfl ?_
    refine l1 (mvI_r rfl) rfl rfl rfl ?_
    refine l1 (mvI_r rfl) rfl rfl rfl ?_
    refine cal cb_view_Read (read_ok ss _ _ ss.length at_ (1 + q) _ (H.rd0 1 rfl) hcss (by omega) (by omega) (by omega) (by omega) (by omega)) rfl rfl ?_
    rintro _ w9 ⟨st2, out2, b2, A2, c2, hst2, hrs2, rfl, hr2, hc2, hb2⟩; replace H := H.learnRd hb2 hr2; clear hr2 hb2
    obtain rfl := isStab_fun hst2 hst
    obtain ⟨s1, s2, s3, s4, s5⟩ := read_step (by omega) hat hrs2
    refine l1 (mvU_r rfl) rfl rfl rfl ?_
    refine l1 (exS_r rfl rfl) rfl rfl rfl ?_
    refine l1 (exI_r rfl rfl) rfl rfl rfl ?_
    refine l1 (exI_r rfl rfl) rfl rfl rfl ?_
    refine l1 (asS_r rfl) rfl rfl rfl ?_
    refine l1 (asI_r rfl) rfl rfl rfl ?_
    refine l1 (asI_r rfl) rfl rfl rfl ?_
    refine lw_nil ?_
    refine cw_seq ?_
    refine cw_seq ?_
    refine cw_region ?_ -- region 11 low.go:244
    refine l1 (mvI_r rfl) rfl rfl rfl ?_
    refine l1 (neqF_r rfl rfl rfl) rfl rfl rfl ?_
    refine l1 (mvB_r rfl) rfl rfl rfl ?_
    refine lwG rfl ?_
    refine l1 (mvS_r rfl) rfl rfl rfl ?_
    refine lwG rfl ?_
    refine l1 (lenS_r len_Lstring rfl) rfl rfl rfl ?_
    refine lwG rfl ?_
    refine l1 (mvI_r rfl) rfl rfl rfl ?_
    refine lwG rfl ?_
    refine l1 (gtrF_r rfl rfl (by omega)) rfl rfl rfl ?_
    refine l1 (pkFB_r rfl rfl) rfl rfl rfl ?_
    refine l1 (mvB_r rfl) rfl rfl rfl ?_
    refine lwG rfl ?_
    refine l1 (mvI_r rfl) rfl rfl rfl ?_
    refine lwG rfl ?_
    refine l1 (mvI_r rfl) rfl rfl rfl ?_
    refine lwG rfl ?_
    refine l1 (lssF_r rfl rfl (by omega)) rfl rfl rfl ?_
    refine l1 (pkFB_r rfl rfl) rfl rfl rfl ?_
    refine lw_nil ?_
    refine cw_false rfl ?_
    refine cw_skip ?_
    refine cw_seq ?_
    refine cw_region ?_ -- region 13 low.go:247
    refine l1 (mvS_r rfl) rfl rfl rfl ?_
    refine l1 (mvS_r rfl) rfl rfl rfl ?_
    refine apO (Y := strL) ap_Lstring (K := []) (L := L1) (M := []) H ho (news := out2) rfl rfl rfl (Rd.src (H.fact (i := 0) rfl)) (by omega) rfl ?_
    intro A3 c3 w10 L3 h3a _ ho3 H
    refine l1 (asS_r rfl) rfl rfl rfl ?_
    refine lw_nil ?_
    refine cw_region ?_ -- region 14 low.go:248
    refine l1 (mvI_r rfl) rfl rfl rfl ?_
    refine l1 (asI_r rfl) rfl rfl rfl ?_
    refine lw_nil ?_
    refine cw_region ?_ -- region 15 low.go:242
    refine l1 (add_r rfl rfl (by omega) (by omega)) rfl rfl rfl ?_
    refine l1 (mvI_r rfl) rfl rfl rfl ?_
    refine lw_nil ?_
    have hnx : got ++ out2 = texts ss ss.length 0 b2 := by rw [hgot, s3, ← texts_app (by omega) s2]
    refine ⟨(r + 1, b2, got ++ out2, A3, c3), ⟨by omega, by omega, hnx, by rw [hnx]; have := texts_len ss ss.length 0 b2; omega, by omega, L3, ho3, H.forget (by simp) (by simp)⟩, sl3 rfl rfl rfl, by repeat (first | exact Agr.refl _ _ | exact agr_ovr | refine agr_upd rfl ?_ | refine agr_updL _ rfl ?_ | refine agr_ovr2 rfl ?_), by show 30 - (r + 1) < 30 - r; omega⟩
  · -- slot 34 False
    refine lw_nil ?_
    refine cw_seq ?_
    refine cw_false rfl ?_
    refine cw_exit ?_ -- 0
    refine cw_seq ?_
    refine cw_region ?_ -- region 16 low.go:250
    refine l1 (mvS_r rfl) rfl rfl rfl ?_
    refine l1 (mvS_r rfl) rfl rfl rfl ?_
    refine l1 (lenS_r len_LEntry rfl) rfl rfl rfl ?_
    refine cal cb_view_Stable (stable_ok ss _ _ ss.length _ (H.rd0 1 rfl) hcss (by omega) (by omega)) rfl rfl ?_
    rintro _ w11 ⟨st3, hst3, rfl, hb⟩; replace H := H.later hb; clear hb
    obtain rfl := isStab_fun hst3 hst
    have hatst : at_ = st3 := by omega
    have hag : all = got := by rw [hall, hgot, hatst]
    refine l1 (mvU_r rfl) rfl rfl rfl ?_
    refine l1 (exI_r rfl rfl) rfl rfl rfl ?_
    refine l1 (exI_r rfl rfl) rfl rfl rfl ?_
    refine l1 (asI_r rfl) rfl rfl rfl ?_
    refine l1 (asI_r rfl) rfl rfl rfl ?_
    refine lw_nil ?_
    refine cw_seq ?_
    refine cw_region ?_ -- region 17 low.go:251
    refine l1 (mvI_r rfl) rfl rfl rfl ?_
    refine l1 (eqlT_r rfl rfl rfl) rfl rfl rfl ?_
    refine l1 (mvB_r rfl) rfl rfl rfl ?_
    refine lwG rfl ?_
    refine l1 (mvI_r rfl) rfl rfl rfl ?_
    refine lwG rfl ?_
    refine l1 (eqlT_r rfl rfl rfl) rfl rfl rfl ?_
    refine l1 (pkTB_r rfl rfl) rfl rfl rfl ?_
    refine l1 (mvB_r rfl) rfl rfl rfl ?_
    refine lwG rfl ?_
    refine l1 (mvS_r rfl) rfl rfl rfl ?_
    refine lwG rfl ?_
    refine l1 (mvS_r rfl) rfl rfl rfl ?_
    refine lwG rfl ?_
    refine cal cb_slices_Equal_Lstring_string (eq_string_ok all got _ _ _ _ _ (H.rd0 0 rfl) ((ho.rd H).mono (Nat.zero_le _) (Nat.le_refl _)) (by rw [hall]; have := texts_len ss ss.length 0 st3; omega)) rfl rfl ?_
    rintro _ w12 ⟨rfl, hb⟩; replace H := H.later hb; clear hb
    rw [decide_eq_true hag]
    refine l1 (pkTB_r rfl rfl) rfl rfl rfl ?_
    refine l1 (mvB_r rfl) rfl rfl rfl ?_
    refine lwG rfl ?_
    refine l1 (mvI_r rfl) rfl rfl rfl ?_
    refine lwG rfl ?_
    refine l1 (mvI_r rfl) rfl rfl rfl ?_
    refine lwG rfl ?_
    refine l1 (leqT_r rfl rfl (by omega)) rfl rfl rfl ?_
    refine l1 (pkTB_r rfl rfl) rfl rfl rfl ?_
    refine l1 (mvB_r rfl) rfl rfl rfl ?_
    refine lwG rfl ?_
    refine l1 (mvI_r rfl) rfl rfl rfl ?_
    refine lwG rfl ?_
    refine l1 (mvI_r rfl) rfl rfl rfl ?_
    refine lwG rfl ?_
    refine l1 (eqlT_r rfl rfl (by rw [hatst])) rfl rfl rfl ?_
    refine l1 (pkTB_r rfl rfl) rfl rfl rfl ?_
    refine l1 (asB_r rfl) rfl rfl rfl ?_
    refine lw_nil ?_
    refine cw_ret ?_
    exact fin1 (v := .bool true) rfl rfl ⟨rfl, H.below⟩
end Go.Proofs.Ytemnchkebhclpaa
end

section
namespace Go.Proofs.Ytemnchkebhclpaa
open Go Go.Eng Go.RowKit
set_option linter.unusedSimpArgs false
def endP (x y : Ent) : Bool := decide (y.pid = x.pid) && !decide (y.kind = 1)
theorem idx_kept {es : List Ent} {i : Nat} {x : Ent} (hi : es[i]? = some x) (hk : x.kind = 1) {z : Int} (hz : idxI ((es.drop i).findIdx? (endP x)) = z) :
    (z = -1 ∧ keptAt (es.drop (i + 1)) x.pid = false) ∨ ∃ (kk : Nat) (y : Ent), z = kk ∧ es[i + kk]? = some y ∧ keptAt (es.drop (i + 1)) x.pid = decide (y.kind = 2) := by
  have hd := take_drop_step hi
  have h1 : keptAt (es.drop (i + 1)) x.pid = keptAt (es.drop i) x.pid := by rw [hd, keptAt_cons, if_neg (fun h => h.1 hk)]
  have hpred : ∀ y, (!decide (y.kind = 1) && decide (y.pid = x.pid)) = endP x y := fun y => by unfold endP; rw [Bool.and_comm]
  rw [h1]
  unfold keptAt
  simp only [hpred]
  cases hf : (es.drop i).findIdx? (endP x) with
  | none =>
    rw [hf] at hz
    left
    rw [List.findIdx?_eq_none_iff] at hf
    rw [List.find?_eq_none.2 (fun y hy => by rw [hf y hy]; simp)]
    exact ⟨hz.symm, rfl⟩
  | some kk =>
    rw [hf] at hz
    right
    obtain ⟨hl, p1, p2⟩ := List.findIdx?_eq_some_iff_getElem.1 hf
    have hfind : (es.drop i).find? (endP x) = some (es.drop i)[kk] := List.find?_eq_some_iff_getElem.2 ⟨p1, kk, hl, rfl, fun j hj => by simpa using p2 j hj⟩
    rw [hfind]
    refine ⟨kk, (es.drop i)[kk], hz.symm, ?_, rfl⟩
    rw [← List.getElem?_drop, List.getElem?_eq_getElem hl]
set_option maxHeartbeats 4000000 in
set_option maxRecDepth 10000 in
theorem readDone_c1_ok (y x : Ent) (b : Nat) (w : World) (hx : w.heap[b]? = some (.cells (Ent.c x).toArray T_Entry (0, 0))) :
    Ret Try.prog i_tailracekeep_ReadDone_c1 [y.v, .pointer (some ⟨b, 0, none⟩)] w fun v w2 => v = .bool (endP x y) ∧ Below w.heap.size w w2 := by
  refine ret_of fn_tailracekeep_ReadDone_c1 rfl rfl ?_
  have H := Hp.start w
  have hb := lt_of_heap hx
  refine cw_seq ?_
  refine cw_region ?_ -- region 0 low.go:267
  refine bxA H rfl rfl ?_; intro w1 b2 H
  refine l1 (asB_r rfl) rfl rfl rfl ?_
  refine lw_nil ?_
  refine cw_seq ?_
  refine cw_region ?_ -- region 1 low.go:267
  refine l1 (fad_r fd_Entry_1 rfl) rfl rfl rfl ?_
  refine l1 (ld_r one_int rfl (cellE (H.ent (i := 0) rfl) rfl)) rfl rfl rfl ?_
  refine l1 (fad_r fd_Entry_1 rfl) rfl rfl rfl ?_
  refine l1 (ld_r one_int rfl ((H.below.cell (p := ⟨b, _, none⟩) hb).trans (cellE (j := 1) hx rfl))) rfl rfl rfl ?_
  refine lwD (eql_r rfl rfl) rfl rfl rfl (fun h8 => ?_) (fun h8 => ?_)
  · -- slot 8 True
    refine l1 (mvB_r rfl) rfl rfl rfl ?_
    refine lwG rfl ?_
    refine l1 (fad_r fd_Entry_4 rfl) rfl rfl rfl ?_
    refine lwG rfl ?_
    refine l1 (ld_r one_int rfl (cellE (H.ent (i := 0) rfl) rfl)) rfl rfl rfl ?_
    refine lwG rfl ?_
    refine lwND (neq_r rfl rfl) rfl rfl rfl (fun h12 => ?_) (fun h12 => ?_)
    · -- slot 12 True
      refine l1 (pkTB_r rfl rfl) rfl rfl rfl ?_
      refine l1 (asB_r rfl) rfl rfl rfl ?_
      refine lw_nil ?_
      refine cw_ret ?_
      have hv : endP x y = true := by simp [endP, h8, h12]
      exact fin1 (v := .bool true) rfl rfl ⟨by rw [hv], H.below⟩
    · -- slot 12 False
      refine l1 (pkTB_r rfl rfl) rfl rfl rfl ?_
      refine l1 (asB_r rfl) rfl rfl rfl ?_
      refine lw_nil ?_
      refine cw_ret ?_
      have hv : endP x y = false := by simp [endP, h8, h12]
      exact fin1 (v := .bool false) rfl rfl ⟨by rw [hv], H.below⟩
  · -- slot 8 False
    refine l1 (mvB_r rfl) rfl rfl rfl ?_
    refine lwN rfl rfl rfl ?_
    refine lwN rfl rfl rfl ?_
    refine lwN rfl rfl rfl ?_
    refine l1 (pkFB_r rfl rfl) rfl rfl rfl ?_
    refine l1 (asB_r rfl) rfl rfl rfl ?_
    refine lw_nil ?_
    refine cw_ret ?_
    have hv : endP x y = false := by simp [endP, h8]
    exact fin1 (v := .bool false) rfl rfl ⟨by rw [hv], H.below⟩
set_option maxHeartbeats 4000000 in
set_option maxRecDepth 10000 in
theorem readDone_ok (l : List Raw) (A : Option Addr) (c : Nat) (w : World) (hr : Rd rawL 0 w.heap.size A l w) (hok : ∀ r ∈ l, r.ok) (hl : l.length ≤ 9223372036854775807) :
    Ret Try.prog i_tailracekeep_ReadDone [.slice A l.length c] w fun v w2 => v = .bool true ∧ Below w.heap.size w w2 := by
  refine ret_of fn_tailracekeep_ReadDone rfl rfl ?_
  have H := Hp.startRd hr
  refine cw_seq ?_
  refine cw_region ?_ -- region 0 low.go:255
  refine l1 (asB_r rfl) rfl rfl rfl ?_
  refine lw_nil ?_
  refine cw_seq ?_
  refine cw_seq ?_
  refine cw_region ?_ -- region 1 low.go:256
  refine cal cb_tailracekeep_viewTells (viewTells_ok _) rfl rfl ?_
  rintro _ w1 ⟨rfl, hb⟩; replace H := H.later hb; clear hb
  refine l1 (not_r rfl) rfl rfl rfl ?_
  refine lw_nil ?_
  refine cw_false rfl ?_
  refine cw_skip ?_
  refine cw_seq ?_
  refine cw_region ?_ -- region 3 low.go:259
  refine l1 (mvS_r rfl) rfl rfl rfl ?_
  refine cal cb_tailracekeep_many (many_ok l 18 _ _ _ (H.rd0 0 rfl) hok hl (by decide)) rfl rfl ?_
  rintro _ w3 ⟨Aes, ces, rfl, hr2, hces, hb2⟩; replace H := H.learnRd hb2 hr2; clear hr2 hb2
  generalize hes : manyE l 18 = es at H hces ⊢
  have hgood : ∀ e ∈ es, Good e := by rw [← hes]; exact manyE_good
  have hel : es.length ≤ 18 := by rw [← hes]; exact manyE_len l 18
  refine cal cb_tailracekeep_sent (sent_ok es _ _ _ (H.rd0 0 rfl) (by omega) (seqB_good hgood)) rfl rfl ?_
  rintro _ w5 ⟨Ass, css, rfl, hr4, hcss, hb4⟩; replace H := H.learnRd hb4 hr4; clear hr4 hb4
  have hsubss := sentE_sub es
  have hsentss := sentE_sent es
  generalize hdefss : sentE es = ss at H hcss hsubss hsentss ⊢
  have hlss : ss.length ≤ 60 := by have := hsubss.2; omega
  have hgss : ∀ e ∈ ss, Good e := fun e he => hgood e (hsubss.1 e he)
  refine l1 (asS_r rfl) rfl rfl rfl ?_
  refine lw_nil ?_
  refine cw_seq ?_
  refine cw_region ?_ -- region 4 low.go:260
  have hl18 : ss.length ≤ 18 := by have := hsubss.2; omega
  refine l1 (mvS_r rfl) rfl rfl rfl ?_
  refine l1 (mvS_r rfl) rfl rfl rfl ?_
  refine l1 (lenS_r len_LEntry rfl) rfl rfl rfl ?_
  refine cal cb_view_Read (read_ok ss _ _ ss.length 0 20 _ (H.rd0 0 rfl) hcss (by omega) (by omega) (by omega) (by decide) (by decide)) rfl rfl ?_
  rintro _ w6 ⟨st, all, e_, A1, c1, hst, hrs, rfl, hr1, hc1, hb1⟩; replace H := H.learnRd hb1 hr1; clear hr1 hb1
  have hstl : st ≤ ss.length := by have := hst.1; simpa using this
  obtain ⟨he_, hall⟩ := read_all hl18 hstl hrs
  refine l1 (mvU_r rfl) rfl rfl rfl ?_
  refine l1 (exS_r rfl rfl) rfl rfl rfl ?_
  refine l1 (exI_r rfl rfl) rfl rfl rfl ?_
  refine l1 (exI_r rfl rfl) rfl rfl rfl ?_
  refine l1 (asS_r rfl) rfl rfl rfl ?_
  refine l1 (asI_r rfl) rfl rfl rfl ?_
  refine l1 (asI_r rfl) rfl rfl rfl ?_
  refine lw_nil ?_
  refine cw_seq ?_
  refine cw_region ?_ -- region 5 low.go:261
  refine l1 (mvS_r rfl) rfl rfl rfl ?_
  refine l1 (mvS_r rfl) rfl rfl rfl ?_
  refine l1 (lenS_r len_LEntry rfl) rfl rfl rfl ?_
  refine cal cb_view_Stable (stable_ok ss _ _ ss.length _ (H.rd0 1 rfl) hcss (by omega) (by omega)) rfl rfl ?_
  rintro _ w7 ⟨st3, hst3, rfl, hb⟩; replace H := H.later hb; clear hb
  obtain rfl := isStab_fun hst3 hst
  refine l1 (mvU_r rfl) rfl rfl rfl ?_
  refine l1 (exI_r rfl rfl) rfl rfl rfl ?_
  refine l1 (exI_r rfl rfl) rfl rfl rfl ?_
  refine l1 (asI_r rfl) rfl rfl rfl ?_
  refine l1 (asI_r rfl) rfl rfl rfl ?_
  refine lw_nil ?_
  refine cw_seq ?_
  refine cw_region ?_ -- region 6 low.go:262
  refine l1 (asS_r rfl) rfl rfl rfl ?_
  refine lw_nil ?_
  refine cw_seq ?_
  refine cw_seq ?_
  refine cw_region ?_ -- region 7 low.go:263
  refine l1 (mvS_r rfl) rfl rfl rfl ?_
  refine l1 (mvI_r rfl) rfl rfl rfl ?_
  refine sliHiF (k := st3) H 1 rfl sl_LEntry rfl rfl hcss (by omega) rfl ?_; intro A35 H
  refine l1 (lenS_r len_LEntry rfl) rfl rfl rfl ?_
  refine l1 (mvI_r rfl) rfl rfl rfl ?_
  refine lw_nil ?_
  refine cw_block ?_ -- block 0
  refine cw_loop (τ := Nat × List ByteArray × Option Addr × Nat) [9, 10, 11, 12, 37, 38, 39, 40, 41, 42, 43, 44, 45, 46, 47, 48, 49, 50, 51, 52, 53, 54, 55, 56, 57, 58, 59, 60, 61, 62, 63, 64, 65, 66, 67, 68, 69, 70, 71, 72] (fun (k, want, Ag, cg) => [(9, .slice Ag want.length cg), (37, .int .i64 (k : Nat))]) (fun (k, want, Ag, cg) w' => k ≤ st3 ∧ want = texts ss ss.length 0 k ∧ want.length ≤ k ∧ ∃ L', Own strL (.slice Ag want.length cg) T_string want L' ∧ Hp w w' ([] ++ L' ++ []) [FRd entL w3.heap.size w5.heap.size A35 (ss.take st3), FRd strL w5.heap.size w6.heap.size A1 all, FRd entL w3.heap.size w5.heap.size Ass ss, FRd entL w1.heap.size w3.heap.size Aes es, FRd rawL 0 w.heap.size A l]) (fun (k, _, _, _) => st3 - k) (0, [], none, 0) ⟨by omega, (texts_self _ _ _).symm, by simp, [], Own.nil, H⟩ (sl2 rfl rfl) ?_ -- LOOP 0
  rintro ⟨k, want, Ag, cg⟩ ρ1 w8 ⟨hk, hwant, hwl, L1, ho, H⟩
  show CW _ _ _ _ (updL (ovr _ _ ρ1) [(9, .slice Ag want.length cg), (37, .int .i64 (k : Nat))]) w8
  refine cw_seq ?_
  refine cw_region ?_ -- region 8 low.go:263
  refine lwD (lss_r rfl rfl) rfl rfl rfl (fun h38 => ?_) (fun h38 => ?_)
  · -- slot 38 True
    refine lw_nil ?_
    refine cw_seq ?_
    refine cw_true rfl ?_
    refine cw_skip ?_
    refine cw_seq ?_
    refine cw_block ?_ -- block 1
    refine cw_seq ?_
    refine cw_region ?_ -- region 9 low.go:263
    refine l1 (mvI_r rfl) rfl rfl rfl ?_
    have htl : (ss.take st3).length = st3 := by simp; omega
    refine ixF H 0 rfl sl_LEntry rfl rfl (by omega) (by omega) rfl ?_; intro b9 o9 x9 e9
    have hxk : ss[k]? = some x9 := by have := e9.at_; rwa [List.getElem?_take_of_lt (by omega)] at this
    refine l1 (ldA_r (xs := Ent.c x9) agg_Entry rfl rfl e9.cl) rfl rfl rfl ?_
    refine alo H z_Entry rfl ?_; intro w10 b11 H
    refine l1 (asI_r rfl) rfl rfl rfl ?_
    refine stW H 0 siz_Entry rfl rfl rfl rfl rfl rfl ?_; intro w11 H
    refine lw_nil ?_
    refine cw_seq ?_
    refine cw_seq ?_
    refine cw_region ?_ -- region 10 low.go:264
    refine l1 (fad_r fd_Entry_4 rfl) rfl rfl rfl ?_
    refine l1 (ld_r one_int rfl (cellE (H.ent (i := 0) rfl) rfl)) rfl rfl rfl ?_
    refine lwND (neq_r rfl rfl) rfl rfl rfl (fun h44 => ?_) (fun h44 => ?_)
    · -- slot 44 True
      refine lw_nil ?_
      refine cw_true rfl ?_
      refine cw_exit ?_ -- 1
      refine cw_region ?_ -- region 14 low.go:263
      refine l1 (add_r rfl rfl (by omega) (by omega)) rfl rfl rfl ?_
      refine l1 (mvI_r rfl) rfl rfl rfl ?_
      refine lw_nil ?_
      have hvis : visL ss ss.length k = [] := by unfold visL; rw [hxk]; simp only; rw [if_neg (by rintro ⟨p, q⟩; exact h44 p)]
      refine ⟨(k + 1, want, Ag, cg), ⟨by omega, by rw [texts_succ (by omega), hvis, hwant, List.append_nil], by omega, L1, ho, H.forget (by simp) (by simp)⟩, sl2 rfl rfl, by repeat (first | exact Agr.refl _ _ | exact agr_ovr | refine agr_upd rfl ?_ | refine agr_updL _ rfl ?_ | refine agr_ovr2 rfl ?_), by show st3 - (k + 1) < st3 - k; omega⟩
    · -- slot 44 False
      refine lw_nil ?_
      refine cw_false rfl ?_
      refine cw_skip ?_
      refine cw_seq ?_
      refine cw_region ?_ -- region 11 low.go:267
      refine l1 (mvS_r rfl) rfl rfl rfl ?_
      refine l1 (mvI_r rfl) rfl rfl rfl ?_
      refine sliLoF (k := k) H 2 rfl sl_LEntry rfl rfl rfl hcss (by omega) rfl ?_; intro A47 H
      obtain ⟨ds, hds⟩ : ∃ ds, ss.drop k = ds := ⟨_, rfl⟩
      rw [hds] at H
      have hdl : ss.length - k = ds.length := by rw [← hds]; simp
      rw [hdl]
      refine l1 (mkf_r rfl) rfl rfl rfl ?_
      refine cal cb_slices_IndexFunc_LEntry_Entry (indexFunc_Entry_ok ds _ _ _ (H.rd0 0 rfl) (by omega) i_tailracekeep_ReadDone_c1 [.pointer (some ⟨b11, 0, none⟩)] cb_tailracekeep_ReadDone_c1 (endP x9) (fun e w' _ hw' => readDone_c1_ok e x9 b11 w' ((hw'.block _ (lt_of_heap (H.ent (i := 0) rfl))).trans (H.ent (i := 0) rfl)))) rfl rfl ?_
      rintro _ w12 ⟨rfl, hb⟩; replace H := H.later hb; clear hb
      obtain ⟨z, hz⟩ : ∃ z : Int, idxI (ds.findIdx? (endP x9)) = z := ⟨_, rfl⟩
      rw [hz]
      rw [← hds] at hz
      have hsp := idx_kept hxk h44 hz
      refine l1 (asI_r rfl) rfl rfl rfl ?_
      refine lw_nil ?_
      refine cw_seq ?_
      refine cw_region ?_ -- region 12 low.go:268
      refine l1 (fad_r fd_Entry_5 rfl) rfl rfl rfl ?_
      refine lwB (ld_r one_bool rfl (cellE (H.ent (i := 0) rfl) rfl)) rfl rfl rfl (fun h51 => ?_) (fun h51 => ?_)
      · -- slot 51 True
        refine l1 (not_r rfl) rfl rfl rfl ?_
        refine l1 (mvB_r rfl) rfl rfl rfl ?_
        refine lwG rfl ?_
        refine l1 (mvI_r rfl) rfl rfl rfl ?_
        refine lwG rfl ?_
        refine lwD (geq_r rfl rfl) rfl rfl rfl (fun h55 => ?_) (fun h55 => ?_)
        · -- slot 55 True
          rcases hsp with ⟨hz1, _⟩ | ⟨kk, y, hzk, hyk, hkp⟩
          · exfalso; omega
          subst hzk
          have hkkl := (getE hyk).1
          refine lwG rfl ?_
          refine l1 (mvB_r rfl) rfl rfl rfl ?_
          refine lwG rfl ?_
          refine l1 (mvS_r rfl) rfl rfl rfl ?_
          refine lwG rfl ?_
          refine l1 (mvI_r rfl) rfl rfl rfl ?_
          refine lwG rfl ?_
          refine l1 (mvI_r rfl) rfl rfl rfl ?_
          refine lwG rfl ?_
          refine l1 (add_r rfl rfl (by omega) (by omega)) rfl rfl rfl ?_
          rw [show (k : Int) + (kk : Nat) = ((k + kk : Nat) : Int) by omega]
          refine lwG rfl ?_
          refine ixF H 3 rfl sl_LEntry rfl rfl (by omega) (by omega) rfl ?_; intro b13 o13 x13 e13
          obtain rfl : y = x13 := by have := e13.at_; rw [hyk] at this; injection this
          refine lwG rfl ?_
          refine l1 (fad_r fd_Entry_4 rfl) rfl rfl rfl ?_
          refine lwG rfl ?_
          refine l1 (ld_r one_int rfl (e13.cl 4 _ rfl)) rfl rfl rfl ?_
          refine lwG rfl ?_
          refine lwD (eql_r rfl rfl) rfl rfl rfl (fun h64 => ?_) (fun h64 => ?_)
          · -- slot 64 True
            refine lwG rfl ?_
            refine l1 (pkTB_r rfl rfl) rfl rfl rfl ?_
            refine l1 (pkFB_r rfl rfl) rfl rfl rfl ?_
            refine lw_nil ?_
            refine cw_true rfl ?_
            refine cw_region ?_ -- region 13 low.go:269
            refine l1 (mvS_r rfl) rfl rfl rfl ?_
            refine l1 (fad_r fd_Entry_6 rfl) rfl rfl rfl ?_
            refine l1 (ld_r one_string rfl (cellE (H.ent (i := 0) rfl) rfl)) rfl rfl rfl ?_
            refine bsv (vs := [.string x9.text]) H sl_Lstring z_string rfl rfl rfl rfl rfl rfl ?_; intro w14 b70 H
            refine apO (Y := strL) ap_Lstring (K := [(b70, _), (b11, _)]) (L := L1) (M := []) H ho (news := [x9.text]) rfl rfl rfl (Src.row (m := 1) (sz := 1) (H.ent (i := 0) rfl) rfl) (by simp only [List.length_singleton]; omega) rfl ?_
            intro A3 c3 w15 L3 h3a _ ho3 H
            refine l1 (asS_r rfl) rfl rfl rfl ?_
            refine lw_nil ?_
            refine cw_region ?_ -- region 14 low.go:263
            refine l1 (add_r rfl rfl (by omega) (by omega)) rfl rfl rfl ?_
            refine l1 (mvI_r rfl) rfl rfl rfl ?_
            refine lw_nil ?_
            have hvis : visL ss ss.length k = [x9.text] := by unfold visL; rw [hxk]; simp only; rw [if_pos ⟨h44, by unfold keptE; rw [List.take_length]; rw [h51, hkp, decide_eq_true h64]; rfl⟩]
            refine ⟨(k + 1, want ++ [x9.text], A3, c3), ⟨by omega, by rw [texts_succ (by omega), hvis, hwant], by simp; omega, L3, ho3, H.forget (by simp) (by simp)⟩, sl2 rfl rfl, by repeat (first | exact Agr.refl _ _ | exact agr_ovr | refine agr_upd rfl ?_ | refine agr_updL _ rfl ?_ | refine agr_ovr2 rfl ?_), by show st3 - (k + 1) < st3 - k; omega⟩
          · -- slot 64 False
            refine lwG rfl ?_
            refine l1 (pkTB_r rfl rfl) rfl rfl rfl ?_
            refine l1 (pkFB_r rfl rfl) rfl rfl rfl ?_
            refine lw_nil ?_
            refine cw_false rfl ?_
            refine cw_skip ?_
            refine cw_region ?_ -- region 14 low.go:263
            refine l1 (add_r rfl rfl (by omega) (by omega)) rfl rfl rfl ?_
            refine l1 (mvI_r rfl) rfl rfl rfl ?_
            refine lw_nil ?_
            have hvis : visL ss ss.length k = [] := by unfold visL; rw [hxk]; simp only; rw [if_neg (by rintro ⟨p, q⟩; unfold keptE at q; rw [List.take_length, h51, hkp] at q; rw [decide_eq_false h64] at q; cases q)]
            refine ⟨(k + 1, want, Ag, cg), ⟨by omega, by rw [texts_succ (by omega), hvis, hwant, List.append_nil], by omega, L1, ho, H.forget (by simp) (by simp)⟩, sl2 rfl rfl, by repeat (first | exact Agr.refl _ _ | exact agr_ovr | refine agr_upd rfl ?_ | refine agr_updL _ rfl ?_ | refine agr_ovr2 rfl ?_), by show st3 - (k + 1) < st3 - k; omega⟩
        · -- slot 55 False
          have hkp : keptAt (ss.drop (k + 1)) x9.pid = false := by rcases hsp with h | ⟨kk, y, hzk, _⟩; exact h.2; omega
          refine lwG rfl ?_
          refine l1 (mvB_r rfl) rfl rfl rfl ?_
          refine lwN rfl rfl rfl ?_
          refine lwN rfl rfl rfl ?_
          refine lwN rfl rfl rfl ?_
          refine lwN rfl rfl rfl ?_
          refine lwN rfl rfl rfl ?_
          refine lwN rfl rfl rfl ?_
          refine lwN rfl rfl rfl ?_
          refine lwN rfl rfl rfl ?_
          refine lwG rfl ?_
          refine l1 (pkFB_r rfl rfl) rfl rfl rfl ?_
          refine l1 (pkFB_r rfl rfl) rfl rfl rfl ?_
          refine lw_nil ?_
          refine cw_false rfl ?_
          refine cw_skip ?_
          refine cw_region ?_ -- region 14 low.go:263
          refine l1 (add_r rfl rfl (by omega) (by omega)) rfl rfl rfl ?_
          refine l1 (mvI_r rfl) rfl rfl rfl ?_
          refine lw_nil ?_
          have hvis : visL ss ss.length k = [] := by unfold visL; rw [hxk]; simp only; rw [if_neg (by rintro ⟨p, q⟩; unfold keptE at q; rw [List.take_length, h51, hkp] at q; cases q)]
          refine ⟨(k + 1, want, Ag, cg), ⟨by omega, by rw [texts_succ (by omega), hvis, hwant, List.append_nil], by omega, L1, ho, H.forget (by simp) (by simp)⟩, sl2 rfl rfl, by repeat (first | exact Agr.refl _ _ | exact agr_ovr | refine agr_upd rfl ?_ | refine agr_updL _ rfl ?_ | refine agr_ovr2 rfl ?_), by show st3 - (k + 1) < st3 - k; omega⟩
      · -- slot 51 False
        refine l1 (not_r rfl) rfl rfl rfl ?_
        refine l1 (mvB_r rfl) rfl rfl rfl ?_
        refine lwN rfl rfl rfl ?_
        refine lwN rfl rfl rfl ?_
        refine lwN rfl rfl rfl ?_
        refine lwN rfl rfl rfl ?_
        refine lwN rfl rfl rfl ?_
        refine lwN rfl rfl rfl ?_
        refine lwN rfl rfl rfl ?_
        refine lwN rfl rfl rfl ?_
        refine lwN rfl rfl rfl ?_
        refine lwN rfl rfl rfl ?_
        refine lwN rfl rfl rfl ?_
        refine lwN rfl rfl rfl ?_
        refine l1 (pkTB_r rfl rfl) rfl rfl rfl ?_
        refine lw_nil ?_
        refine cw_true rfl ?_
        refine cw_region ?_ -- region 13 low.go:269
        refine l1 (mvS_r rfl) rfl rfl rfl ?_
        refine l1 (fad_r fd_Entry_6 rfl) rfl rfl rfl ?_
        refine l1 (ld_r one_string rfl (cellE (H.ent (i := 0) rfl) rfl)) rfl rfl rfl ?_
        refine bsv (vs := [.string x9.text]) H sl_Lstring z_string rfl rfl rfl rfl rfl rfl ?_; intro w16 b70 H
        refine apO (Y := strL) ap_Lstring (K := [(b70, _), (b11, _)]) (L := L1) (M := []) H ho (news := [x9.text]) rfl rfl rfl (Src.row (m := 1) (sz := 1) (H.ent (i := 0) rfl) rfl) (by simp only [List.length_singleton]; omega) rfl ?_
        intro A3 c3 w17 L3 h3a _ ho3 H
        refine l1 (asS_r rfl) rfl rfl rfl ?_
        refine lw_nil ?_
        refine cw_region ?_ -- region 14 low.go:263
        refine l1 (add_r rfl rfl (by omega) (by omega)) rfl rfl rfl ?_
        refine l1 (mvI_r rfl) rfl rfl rfl ?_
        refine lw_nil ?_
        have hvis : visL ss ss.length k = [x9.text] := by unfold visL; rw [hxk]; simp only; rw [if_pos ⟨h44, by unfold keptE; rw [List.take_length]; rw [h51]; rfl⟩]
        refine ⟨(k + 1, want ++ [x9.text], A3, c3), ⟨by omega, by rw [texts_succ (by omega), hvis, hwant], by simp; omega, L3, ho3, H.forget (by simp) (by simp)⟩, sl2 rfl rfl, by repeat (first | exact Agr.refl _ _ | exact agr_ovr | refine agr_upd rfl ?_ | refine agr_updL _ rfl ?_ | refine agr_ovr2 rfl ?_), by show st3 - (k + 1) < st3 - k; omega⟩
  · -- slot 38 False
    refine lw_nil ?_
    refine cw_seq ?_
    refine cw_false rfl ?_
    refine cw_exit ?_ -- 0
    refine cw_seq ?_
    refine cw_region ?_ -- region 15 low.go:272
    refine l1 (mvI_r rfl) rfl rfl rfl ?_
    refine l1 (eqlT_r rfl rfl rfl) rfl rfl rfl ?_
    refine l1 (mvB_r rfl) rfl rfl rfl ?_
    refine lwG rfl ?_
    refine l1 (mvI_r rfl) rfl rfl rfl ?_
    refine lwG rfl ?_
    refine l1 (eqlT_r rfl rfl rfl) rfl rfl rfl ?_
    refine l1 (pkTB_r rfl rfl) rfl rfl rfl ?_
    refine l1 (mvB_r rfl) rfl rfl rfl ?_
    refine lwG rfl ?_
    refine l1 (mvS_r rfl) rfl rfl rfl ?_
    refine lwG rfl ?_
    refine l1 (mvS_r rfl) rfl rfl rfl ?_
    refine lwG rfl ?_
    refine cal cb_slices_Equal_Lstring_string (eq_string_ok all want _ _ _ _ _ (H.rd0 1 rfl) ((ho.rd H).mono (Nat.zero_le _) (Nat.le_refl _)) (by rw [hall]; have := texts_len ss ss.length 0 st3; omega)) rfl rfl ?_
    have hkst : k = st3 := by omega
    have hag : all = want := by rw [hall, hwant, hkst]
    rintro _ w18 ⟨rfl, hb⟩; replace H := H.later hb; clear hb
    rw [decide_eq_true hag]
    refine l1 (pkTB_r rfl rfl) rfl rfl rfl ?_
    refine l1 (asB_r rfl) rfl rfl rfl ?_
    refine lw_nil ?_
    refine cw_ret ?_
    exact fin1 (v := .bool true) rfl rfl ⟨rfl, H.below⟩
end Go.Proofs.Ytemnchkebhclpaa
end
