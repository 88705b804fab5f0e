/- GU: a part of the proofs over this seat: what stands in its theorems holds for every input that they name. -/
import Derived.Test.YtemnchkebhclpaaV5
import Derived.Test.YtemnchkebhclpaaGB
import Derived.Test.YtemnchkebhclpaaEngZ
open Go.Eng renaming lw_nil → Zn, cw_seq → Zs, cw_region → Zr, cw_skip → Zk, cw_ret → Zt, cw_block → Zb, cw_exit → Zx, mvI_r → Yi, mvB_r → Yb, mvS_r → Ys, mvP_r → Yp, mvT_r → Yt, mvU_r → Yu, mvA_r → Ya, asI_r → Wi, asB_r → Wb, asS_r → Ws, asP_r → Wp, asT_r → Wt, fad_r → Zf, exI_r → Xi, exA_r → Xa, exB_r → Xb, exS_r → Xs, pkTB_r → Kt, pkFB_r → Kf, cw_true → ZT, cw_false → ZF
section
namespace Go.Proofs.Ytemnchkebhclpaa
open Go Go.Eng Go.RowKit
set_option linter.unusedSimpArgs false
def visL (es : List Ent) (n i : Nat) : List ByteArray := match es[i]? with
 | some e => if e.kind = 1 ∧ keptE (es.take n) i e = true then [e.text] else []
 | none => []
/-- the texts from place a to below place b that a reader sees, where n entries are kept -/
def texts (es : List Ent) (n a b : Nat) : List ByteArray := (List.range' a (b - a)).flatMap (visL es n)
theorem texts_self (es : List Ent) (n a : Nat) : texts es n a a = [] := by simp [texts]
theorem texts_succ {es : List Ent} {n a b : Nat} (h : a ≤ b) : texts es n a (b + 1) = texts es n a b ++ visL es n b := by
 unfold texts
 have e : b + 1 - a = (b - a) + 1 := by omega
 rw [e, List.range'_1_concat, List.flatMap_append]
 have e2 : a + (b - a) = b := by omega
 simp [e2]
theorem texts_app {es : List Ent} {n a b c : Nat} (h1 : a ≤ b) (h2 : b ≤ c) : texts es n a c = texts es n a b ++ texts es n b c := by
 induction c with
 | zero =>
  have : b = 0 := by omega
  subst this
  rw [texts_self, List.append_nil]
 | succ c ih =>
  by_cases hb : b = c + 1
  ·
   subst hb; rw [texts_self, List.append_nil]
  ·
   rw [texts_succ (by omega), texts_succ (by omega), ih (by omega), List.append_assoc]
/-- P3.3: what a reader gets from a place on -/
def ReadS (es : List Ent) (n st a most : Nat) (out : List ByteArray) (b : Nat) : Prop := a ≤ b ∧ (b = a ∨ b ≤ st) ∧ out = texts es n a b ∧ out.length ≤ most ∧ (st ≤ b ∨ out.length = most)
set_option maxHeartbeats 4000000 in
set_option maxRecDepth 10000 in
theorem read_ok (es : List Ent) (A : Option Addr) (c n a most : Nat) (w : World) (hr : Rd entL 0 w.heap.size A es w) (hc : es.length ≤ c) (hb : es.length ≤ 1000000) (hn : n ≤ es.length) (ha : a ≤ es.length) (hm1 : 1 ≤ most) (hm2 : most ≤ 20) :
  Ret Try.prog i_view_Read [.slice A es.length c, .int .i64 (n : Nat), .int .i64 (a : Nat), .int .i64 (most : Nat)] w fun v w2 => ∃ (st : Nat) (out : List ByteArray) (b : Nat) (A' : Option Addr) (c' : Nat), isStab (es.take n) st ∧ ReadS es n st a most out b ∧ v = .tuple #[.slice A' out.length c', .int .i64 (b : Nat), .int .i64 0] ∧ Rd strL w.heap.size w2.heap.size A' out w2 ∧ out.length ≤ c' ∧ Below w.heap.size w w2 := by
 refine ret_of fn_view_Read rfl rfl ?_
 have H := Hp.startRd hr
 refine Zs<|Zr<|Zl (Ws rfl)<|Zl (Wi rfl)<|Zl (Wi rfl)<|Zn<|Zs<|Zr<|Zl (Ys rfl)<|Zl (Yi rfl)<|cal cb_view_Stable (stable_ok es _ _ n _ (H.rd0 0 rfl) hc hb hn) rfl rfl ?_
 rintro _ w1 ⟨st, hst, rfl, hb2⟩; replace H := H.later hb2; clear hb2
 have hstl : st ≤ n := by have := hst.1; simp at this; omega
 refine Zl (Yu rfl)<|Zl (Xi rfl rfl)<|Zl (Xi rfl rfl)<|Zl (Wi rfl)<|Zl (Wi rfl)<|Zn<|Zs<|Zs<|Zr<|Zl (Yi rfl)<|Zl (neqF_r rfl rfl rfl)<|Zn<|ZF rfl<|Zk ?_
 refine Zs<|Zs<|Zr<|Zl (Yi rfl)<|Zl (lssF_r rfl rfl (by omega))<|Zl (Yb rfl)<|ZG<|Zl (Yi rfl)<|ZG<|Zl (Ys rfl)<|ZG<|Zl (lenS_r len_LEntry rfl)<|ZG<|Zl (gtrF_r rfl rfl (by omega)) ?_
 refine Zl (Kf rfl rfl)<|Zl (Yb rfl)<|ZG<|Zl (Yi rfl)<|ZG<|Zl (lssF_r rfl rfl (by omega))<|Zl (Kf rfl rfl)<|Zl (Yb rfl)<|ZG<|Zl (Yi rfl)<|ZG<|Zl (gtrF_r rfl rfl (by omega))<|Zl (Kf rfl rfl)<|Zn ?_
 refine ZF rfl<|Zk<|Zs<|Zr<|Zl (Ws rfl)<|Zn<|Zs<|Zr<|Zl (Yi rfl)<|Zl (Wi rfl)<|Zn<|Zs<|Zb ?_
 refine cw_loop (τ := Nat × List ByteArray × Option Addr × Nat) [13, 14, 41, 42, 43, 44, 45, 46, 47, 48, 49, 50, 51, 52, 53, 54, 55, 56, 57, 58, 59, 60, 61, 62, 63, 64, 65, 66, 67, 68, 69, 70, 71, 72] (fun (at_, out, A1, c1) => [(13, .slice A1 out.length c1), (14, .int .i64 (at_ : Nat))]) (fun (at_, out, A1, c1) w' => a ≤ at_ ∧ (at_ = a ∨ at_ ≤ st) ∧ out = texts es n a at_ ∧ out.length ≤ most ∧ ∃ L', Own strL (.slice A1 out.length c1) T_string out L' ∧ Hp w w' ([] ++ L' ++ []) [FRd entL 0 w.heap.size A es]) (fun (at_, _, _, _) => st - at_) (a, [], none, 0) ⟨by omega, .inl rfl, (texts_self _ _ _).symm, by simp, [], Own.nil, H⟩ (sl2 rfl rfl) ?_
 rintro ⟨at_, out, A1, c1⟩ ρ1 w2 ⟨hat1, hat2, hout, hol, L1, ho, H⟩
 show CW _ _ _ _ (updL (ovr _ _ ρ1) [(13, .slice A1 out.length c1), (14, .int .i64 (at_ : Nat))]) w2
 refine Zs<|Zs<|Zr<|Zl (Yi rfl)<|Zl (Yi rfl) ?_
 refine lwD (lss_r rfl rfl) rfl rfl rfl (fun h43 => ?_) (fun h43 => ?_)
 ·
  refine Zl (Yb rfl)<|ZG<|Zl (Ys rfl)<|ZG<|Zl (lenS_r len_Lstring rfl)<|ZG<|Zl (Yi rfl)<|ZG ?_
  refine lwD (lss_r rfl rfl) rfl rfl rfl (fun h48 => ?_) (fun h48 => ?_)
  ·
   refine Zl (Kt rfl rfl)<|Zn<|ZT rfl<|Zk<|Zs<|Zb<|Zs<|Zr<|Zl (Ys rfl)<|Zl (Yi rfl)<|ixF H 0 rfl sl_LEntry rfl rfl (by omega) (by omega) rfl fun b3 o3 x3 e3 => ?_
   have hxt : (es.take n)[at_]? = some x3 := by rw [List.getElem?_take_of_lt (by omega)]; exact e3.at_
   refine Zl (Zf fd_Entry_4 rfl)<|Zl (ld_r one_int rfl (e3.cl 4 _ rfl)) ?_
   refine lwD (eql_r rfl rfl) rfl rfl rfl (fun h57 => ?_) (fun h57 => ?_)
   ·
    refine Zl (Yb rfl)<|ZG<|Zl (Ys rfl)<|ZG<|Zl (Yi rfl)<|ZG<|sliHiF (k := n) H 0 rfl sl_LEntry rfl rfl hc (by omega) rfl fun A61 H =>ZG ?_
    have hK := kept_ok (es.take n) A61 c at_ x3 _ (H.rd0 0 rfl) hxt (by simp; omega) (by simp; omega)
    rw [show (es.take n).length = n by simp; omega] at hK
    refine Zl (Yi rfl)<|ZG<|cal cb_view_kept (hK) rfl rfl ?_
    rintro _ w4 ⟨rfl, hb2⟩; replace H := H.later hb2; clear hb2
    refine Zl (Kt rfl rfl)<|Zn ?_
    refine cw_if rfl (fun hc64 => ?_) (fun hc64 => ?_)
    ·
     refine Zr<|Zl (Ys rfl)<|Zl (Ys rfl)<|Zl (Yi rfl)<|ixF H 1 rfl sl_LEntry rfl rfl (by omega) (by omega) rfl fun b5 o5 x5 e5 =>Zl (Zf fd_Entry_6 rfl)<|Zl (ld_r one_string rfl (e5.cl 6 _ rfl))<|bsv (vs := [.string x5.text]) H sl_Lstring z_string rfl rfl rfl rfl rfl rfl fun w6 b71 H => ?_
     have hxx : x5 = x3 := by have h1 := e3.at_; rw [e5.at_] at h1; injection h1
     refine apO (Y := strL) ap_Lstring (K := [(b71, _)]) (L := L1) (M := []) H ho (news := [x5.text]) rfl rfl rfl (Src.row (m := 1) (sz := 1) (H.ent (i := 0) rfl) rfl) (by simp only [List.length_singleton]; omega) rfl ?_
     intro A3 c3 w7 L3 h3a _ ho3 H
     refine Zl (Ws rfl)<|Zn<|Zr<|Zl (Yi rfl)<|Zl (add_r rfl rfl (by omega) (by omega))<|Zl (Wi rfl)<|Zn ?_
     have hvis : visL es n at_ = [x5.text] := by unfold visL; rw [e3.at_]; simp only; rw [if_pos ⟨h57, hc64⟩, hxx]
     refine ⟨(at_ + 1, out ++ [x5.text], A3, c3), ⟨by omega, .inr (by omega), by rw [texts_succ hat1, hvis, hout], by simp; omega, L3, ho3, H.forget (by simp) (by simp)⟩, sl2 rfl rfl, by repeat (first | exact Agr.refl _ _ | exact agr_ovr | refine agr_upd rfl ?_ | refine agr_updL _ rfl ?_ | refine agr_ovr2 rfl ?_), by show st - (at_ + 1) < st - at_; omega⟩
    ·
     refine Zk<|Zr<|Zl (Yi rfl)<|Zl (add_r rfl rfl (by omega) (by omega))<|Zl (Wi rfl)<|Zn ?_
     have hvis : visL es n at_ = [] := by unfold visL; rw [e3.at_]; simp only; rw [if_neg (by rintro ⟨p, q⟩; first | exact h57 p | (rw [hc64] at q; cases q))]
     refine ⟨(at_ + 1, out, A1, c1), ⟨by omega, .inr (by omega), by rw [texts_succ hat1, hvis, hout, List.append_nil], hol, L1, ho, H.forget (by simp) (by simp)⟩, sl2 rfl rfl, by repeat (first | exact Agr.refl _ _ | exact agr_ovr | refine agr_upd rfl ?_ | refine agr_updL _ rfl ?_ | refine agr_ovr2 rfl ?_), by show st - (at_ + 1) < st - at_; omega⟩
   ·
    refine Zl (Yb rfl)<|ZN<|ZN<|ZN<|ZN<|ZN<|Zl (Kf rfl rfl)<|Zn<|ZF rfl<|Zk<|Zr<|Zl (Yi rfl)<|Zl (add_r rfl rfl (by omega) (by omega))<|Zl (Wi rfl) ?_
    refine Zn ?_
    have hvis : visL es n at_ = [] := by unfold visL; rw [e3.at_]; simp only; rw [if_neg (by rintro ⟨p, q⟩; first | exact h57 p | (rw [hc64] at q; cases q))]
    refine ⟨(at_ + 1, out, A1, c1), ⟨by omega, .inr (by omega), by rw [texts_succ hat1, hvis, hout, List.append_nil], hol, L1, ho, H.forget (by simp) (by simp)⟩, sl2 rfl rfl, by repeat (first | exact Agr.refl _ _ | exact agr_ovr | refine agr_upd rfl ?_ | refine agr_updL _ rfl ?_ | refine agr_ovr2 rfl ?_), by show st - (at_ + 1) < st - at_; omega⟩
  ·
   refine Zl (Kt rfl rfl)<|Zn<|ZF rfl<|Zx<|Zs<|Zr<|Zl (Ys rfl)<|Zl (Yi rfl)<|Zl (Ws rfl)<|Zl (Wi rfl)<|Zl (Wi rfl)<|Zn<|Zt ?_
   obtain ⟨A2, c2, he, hlc, -⟩ := ho.form
   injection he with h1 h2 h3
   subst h3
   exact fin3 rfl rfl rfl rfl ⟨st, out, at_, A1, c1, hst, ⟨hat1, hat2, hout, hol, by omega⟩, rfl, ho.rd H, hlc, H.below⟩
 ·
  refine Zl (Yb rfl)<|ZN<|ZN<|ZN<|ZN<|Zl (Kf rfl rfl)<|Zn<|ZF rfl<|Zx<|Zs<|Zr<|Zl (Ys rfl)<|Zl (Yi rfl)<|Zl (Ws rfl) ?_
  refine Zl (Wi rfl)<|Zl (Wi rfl)<|Zn<|Zt ?_
  obtain ⟨A2, c2, he, hlc, -⟩ := ho.form
  injection he with h1 h2 h3
  subst h3
  exact fin3 rfl rfl rfl rfl ⟨st, out, at_, A1, c1, hst, ⟨hat1, hat2, hout, hol, by omega⟩, rfl, ho.rd H, hlc, H.below⟩
end Go.Proofs.Ytemnchkebhclpaa
end

section
namespace Go.Proofs.Ytemnchkebhclpaa
open Go Go.Eng Go.RowKit
set_option linter.unusedSimpArgs false
/-- what IndexFunc answers -/
def idxI : Option Nat → Int
 | some i => i
 | none => -1
set_option maxHeartbeats 4000000 in
set_option maxRecDepth 10000 in
theorem indexFunc_Entry_ok (es : List Ent) (A : Option Addr) (c : Nat) (w : World) (hr : Rd entL 0 w.heap.size A es w) (hb : es.length ≤ 1000000) (f : FuncId) (cap : List Value) (hf : callB Try.prog f = true) (pred : Ent → Bool)
  (hp : ∀ e w', e ∈ es → Below w.heap.size w w' → Ret Try.prog f (.agg (entL.f e).toArray :: cap) w' fun v w2 => v = .bool (pred e) ∧ Below w'.heap.size w' w2) :
  Ret Try.prog i_slices_IndexFunc_LEntry_Entry [.slice A es.length c, .func (.func f) #[] cap.toArray] w fun v w2 => v = .int .i64 (idxI (es.findIdx? pred)) ∧ Below w.heap.size w w2 := by
 refine ret_of fn_slices_IndexFunc_LEntry_Entry rfl rfl ?_
 have H := Hp.startRd hr
 refine Zs<|Zr<|Zl (Wi rfl)<|Zn<|Zs<|Zs<|Zr<|Zl (Ys rfl)<|Zl (lenS_r len_LEntry rfl)<|Zl (Yi rfl)<|Zn<|Zb ?_
 refine cw_loop (τ := Nat) [4, 5, 8, 9, 10, 11, 12, 13, 14, 15, 16, 17, 18] (fun k => [(8, .int .i64 (k : Nat))]) (fun k w' => k ≤ es.length ∧ (∀ j e, j < k → es[j]? = some e → pred e = false) ∧ Hp w w' [] [FRd entL 0 w.heap.size A es]) (fun k => es.length - k) 0 ⟨by omega, by intro j e hj; omega, H⟩ (sl1 rfl) ?_
 rintro k ρ1 w1 ⟨hk, hno, H⟩
 show CW _ _ _ _ (updL (ovr _ _ ρ1) [(8, .int .i64 (k : Nat))]) w1
 refine Zs<|Zr ?_
 refine lwD (lss_r rfl rfl) rfl rfl rfl (fun h9 => ?_) (fun h9 => ?_)
 ·
  refine Zn<|Zs<|ZT rfl<|Zk<|Zs<|Zb<|Zs<|Zr<|Zl (Yi rfl)<|Zl (Wi rfl)<|Zn<|Zs<|Zr<|Zl (mvF_r rfl) ?_
  refine Zl (Ys rfl)<|Zl (Yi rfl)<|ixF H 0 rfl sl_LEntry rfl rfl (by omega) (by omega) rfl fun b2 o2 x2 e2 =>Zl (ldA_r (xs := entL.f x2) agg_Entry rfl rfl e2.cl) ?_
  refine calF hf rfl (hp x2 _ (List.mem_of_getElem? e2.at_) H.below) rfl rfl ?_; rintro _ w3 ⟨rfl, hb2⟩; replace H := H.later hb2; clear hb2
  refine lwCase 16 rfl (fun h16 => ?_) (fun h16 => ?_)
  ·
   refine Zn<|ZT rfl<|Zs<|Zr<|Zl (Yi rfl)<|Zl (Wi rfl)<|Zn<|Zt ?_
   have hi : es.findIdx? pred = some k := by
    rw [List.findIdx?_eq_some_iff_getElem]
    obtain ⟨hl, hx⟩ := getE e2.at_
    exact ⟨hl, by rw [hx]; exact h16, fun j hj => by rw [hno j _ hj (List.getElem?_eq_getElem (by omega))]; simp⟩
   exact fin1 (v := .int .i64 (k : Nat)) rfl rfl ⟨by rw [hi]; rfl, H.below⟩
  ·
   refine Zn<|ZF rfl<|Zk<|Zr<|Zl (add_r rfl rfl (by omega) (by omega))<|Zl (Yi rfl)<|Zn ?_
   refine ⟨k + 1, ⟨by omega, fun j e hj he => ?_, H⟩, sl1 rfl, by repeat (first | exact Agr.refl _ _ | exact agr_ovr | refine agr_upd rfl ?_ | refine agr_updL _ rfl ?_ | refine agr_ovr2 rfl ?_), by show es.length - (k + 1) < es.length - k; omega⟩
   by_cases hji : j < k
   ·
    exact hno j e hji he
   ·
    have : j = k := by omega
    subst this; have he2 := e2.at_; rw [he] at he2; injection he2 with he2; subst he2; exact h16
 ·
  refine Zn<|Zs<|ZF rfl<|Zx<|Zs<|Zr<|Zl (Wi rfl)<|Zn<|Zt ?_
  have hi : es.findIdx? pred = none := by
   rw [List.findIdx?_eq_none_iff]
   intro e he
   obtain ⟨j, hj⟩ := List.mem_iff_getElem?.1 he
   exact hno j e (by have := (getE hj).1; omega) hj
  exact fin1 (v := .int .i64 (-1)) rfl rfl ⟨by rw [hi]; rfl, H.below⟩
set_option maxHeartbeats 4000000 in
set_option maxRecDepth 10000 in
theorem containsFunc_Entry_ok (es : List Ent) (A : Option Addr) (c : Nat) (w : World) (hr : Rd entL 0 w.heap.size A es w) (hb : es.length ≤ 1000000) (f : FuncId) (cap : List Value) (hf : callB Try.prog f = true) (pred : Ent → Bool)
  (hp : ∀ e w', e ∈ es → Below w.heap.size w w' → Ret Try.prog f (.agg (entL.f e).toArray :: cap) w' fun v w2 => v = .bool (pred e) ∧ Below w'.heap.size w' w2) :
  Ret Try.prog i_slices_ContainsFunc_LEntry_Entry [.slice A es.length c, .func (.func f) #[] cap.toArray] w fun v w2 => v = .bool (es.any pred) ∧ Below w.heap.size w w2 := by
 refine ret_of fn_slices_ContainsFunc_LEntry_Entry rfl rfl ?_
 have H := Hp.start w
 refine Zs<|Zr<|Zl (Wb rfl)<|Zn<|Zs<|Zr<|Zl (Ys rfl)<|Zl (mvF_r rfl)<|cal cb_slices_IndexFunc_LEntry_Entry (indexFunc_Entry_ok es _ _ _ hr hb f cap hf pred hp) rfl rfl ?_
 rintro _ w1 ⟨rfl, hb⟩; replace H := H.later hb; clear hb
 refine Zl (geq_r rfl rfl)<|Zl (Wb rfl)<|Zn<|Zt ?_
 have hv : decide (0 ≤ idxI (es.findIdx? pred)) = es.any pred := by
  cases hi : es.findIdx? pred with
  | none => rw [List.findIdx?_eq_none_iff] at hi; simp [idxI]; exact fun a h => hi a h
  | some i =>
   obtain ⟨hl, h1, -⟩ := List.findIdx?_eq_some_iff_getElem.1 hi
   have : es.any pred = true := List.any_eq_true.2 ⟨_, List.getElem_mem hl, h1⟩
   rw [this]; simp [idxI]
 exact fin1 (v := .bool (decide (0 ≤ idxI (es.findIdx? pred)))) rfl rfl ⟨by rw [hv], H.below⟩
/-- what comes of entries that are checked one by one -/
def sentE (l : List Ent) : List Ent := l.foldl (fun out x => if (vchk out x).2 = 0 ∧ (vchk out x).1 < 0 then out ++ [x] else out) []
theorem sentE_snoc (l : List Ent) (x : Ent) : sentE (l ++ [x]) = if (vchk (sentE l) x).2 = 0 ∧ (vchk (sentE l) x).1 < 0 then sentE l ++ [x] else sentE l := by
 unfold sentE; rw [List.foldl_append]; rfl
theorem sentE_sub (l : List Ent) : (∀ e ∈ sentE l, e ∈ l) ∧ (sentE l).length ≤ l.length := by
 induction l using snoc_ind with
 | h0 => exact ⟨fun e h => by simp [sentE] at h, by simp [sentE]⟩
 | h1 l x ih =>
  rw [sentE_snoc]
  split
  ·
   refine ⟨fun e he => ?_, by simp; exact ih.2⟩
   rcases List.mem_append.1 he with h | h
   ·
    exact List.mem_append_left _ (ih.1 e h)
   ·
    exact List.mem_append_right _ h
  ·
   exact ⟨fun e he => List.mem_append_left _ (ih.1 e he), by simp; have := ih.2; omega⟩
set_option maxHeartbeats 4000000 in
set_option maxRecDepth 10000 in
theorem sent_ok (es : List Ent) (A : Option Addr) (c : Nat) (w : World) (hr : Rd entL 0 w.heap.size A es w) (hb : es.length ≤ 1000) (hq : seqB es) :
  Ret Try.prog i_tailracekeep_sent [.slice A es.length c] w fun v w2 => ∃ A' c', v = .slice A' (sentE es).length c' ∧ Rd entL w.heap.size w2.heap.size A' (sentE es) w2 ∧ (sentE es).length ≤ c' ∧ Below w.heap.size w w2 := by
 refine ret_of fn_tailracekeep_sent rfl rfl ?_
 have H := Hp.startRd hr
 refine Zs<|Zr<|Zl (Ws rfl)<|Zn<|Zs<|Zr<|Zl (Ws rfl)<|Zn<|Zs<|Zs<|Zr<|Zl (Ys rfl)<|Zl (lenS_r len_LEntry rfl)<|Zl (Yi rfl) ?_
 refine Zn<|Zb ?_
 refine cw_loop (τ := Nat × List Ent × Option Addr × Nat) [3, 5, 6, 7, 10, 11, 12, 13, 14, 15, 16, 17, 18, 19, 20, 21, 22, 23, 24, 25, 26, 27, 28, 29, 30] (fun (k, out, A1, c1) => [(3, .slice A1 out.length c1), (10, .int .i64 (k : Nat))]) (fun (k, out, A1, c1) w' => k ≤ es.length ∧ out = sentE (es.take k) ∧ ∃ L', Own entL (.slice A1 out.length c1) T_Entry out L' ∧ Hp w w' ([] ++ L' ++ []) [FRd entL 0 w.heap.size A es]) (fun (k, _, _, _) => es.length - k) (0, [], none, 0) ⟨by omega, rfl, [], Own.nil, H⟩ (sl2 rfl rfl) ?_
 rintro ⟨k, out, A1, c1⟩ ρ1 w1 ⟨hk, hout, L1, ho, H⟩
 show CW _ _ _ _ (updL (ovr _ _ ρ1) [(3, .slice A1 out.length c1), (10, .int .i64 (k : Nat))]) w1
 refine Zs<|Zr ?_
 refine lwD (lss_r rfl rfl) rfl rfl rfl (fun h11 => ?_) (fun h11 => ?_)
 ·
  refine Zn<|Zs<|ZT rfl<|Zk<|Zs<|Zb<|Zs<|Zr<|ixF H 0 rfl sl_LEntry rfl rfl (by omega) (by omega) rfl fun b2 o2 x2 e2 => ?_
  have hol : out.length ≤ es.length := by rw [hout]; have := (sentE_sub (es.take k)).2; simp at this; omega
  have hqo : seqB out := fun e he => by rw [hout] at he; exact hq e (List.take_subset _ _ ((sentE_sub _).1 e he))
  refine Zl (ldA_r (xs := Ent.c x2) agg_Entry rfl rfl e2.cl)<|alo H z_Entry rfl fun w3 b5 H =>stW H 0 siz_Entry rfl rfl rfl rfl rfl rfl fun w4 H =>Zn<|Zs<|Zr<|Zl (Ys rfl)<|Zl (Zw agg_Entry H 0 rfl rfl rfl)<|cal cb_view_Check (vcheck_ok out _ _ x2 _ ((Own.rd (K := [(b5, _)]) (M := []) ho H).mono (Nat.zero_le _) (Nat.le_refl _)) (by omega) hqo) rfl rfl ?_
  rintro _ w5 ⟨rfl, hb⟩; replace H := H.later hb; clear hb
  refine Zl (Yu rfl)<|Zl (Xi rfl rfl)<|Zl (Xi rfl rfl)<|Zl (Wi rfl)<|Zl (Wi rfl)<|Zn<|Zs<|Zr<|Zl (Yi rfl) ?_
  refine lwD (eql_r rfl rfl) rfl rfl rfl (fun h21 => ?_) (fun h21 => ?_)
  ·
   refine Zl (Yb rfl)<|ZG<|Zl (Yi rfl)<|ZG ?_
   refine lwD (lss_r rfl rfl) rfl rfl rfl (fun h24 => ?_) (fun h24 => ?_)
   ·
    refine Zl (Kt rfl rfl)<|Zn<|ZT rfl<|Zr<|Zl (Ys rfl)<|Zl (Zw agg_Entry H 0 rfl rfl rfl)<|bsv (vs := [Ent.v x2]) H sl_LEntry z_Entry rfl rfl rfl rfl rfl rfl fun w6 b28 H =>apO (Y := entL) ap_LEntry (K := [(b28, _), (b5, _)]) (L := L1) (M := []) H ho (news := [x2]) rfl rfl rfl (Src.row (m := 1) (sz := 7) (H.ent (i := 0) rfl) rfl) (by simp only [List.length_singleton]; omega) rfl ?_
    intro A3 c3 w7 L3 h3a _ ho3 H
    refine Zl (Ws rfl)<|Zn<|Zr<|Zl (add_r rfl rfl (by omega) (by omega))<|Zl (Yi rfl)<|Zn ?_
    have htk := take_snoc e2.at_
    have hnx : sentE (es.take (k + 1)) = out ++ [x2] := by rw [htk, sentE_snoc, ← hout, if_pos ⟨h21, h24⟩]
    refine ⟨(k + 1, out ++ [x2], A3, c3), ⟨by omega, hnx.symm, L3, ho3, H.forget (by simp) (by simp)⟩, sl2 rfl rfl, by repeat (first | exact Agr.refl _ _ | exact agr_ovr | refine agr_upd rfl ?_ | refine agr_updL _ rfl ?_ | refine agr_ovr2 rfl ?_), by show es.length - (k + 1) < es.length - k; omega⟩
   ·
    refine Zl (Kt rfl rfl)<|Zn<|ZF rfl<|Zk<|Zr<|Zl (add_r rfl rfl (by omega) (by omega))<|Zl (Yi rfl)<|Zn ?_
    have htk := take_snoc e2.at_
    have hnx : sentE (es.take (k + 1)) = out := by rw [htk, sentE_snoc, ← hout, if_neg (fun h => by first | exact h21 h.1 | exact h24 h.2)]
    refine ⟨(k + 1, out, A1, c1), ⟨by omega, hnx.symm, L1, ho, H.forget (by simp) (by simp)⟩, sl2 rfl rfl, by repeat (first | exact Agr.refl _ _ | exact agr_ovr | refine agr_upd rfl ?_ | refine agr_updL _ rfl ?_ | refine agr_ovr2 rfl ?_), by show es.length - (k + 1) < es.length - k; omega⟩
  ·
   refine Zl (Yb rfl)<|ZN<|ZN<|Zl (Kf rfl rfl)<|Zn<|ZF rfl<|Zk<|Zr<|Zl (add_r rfl rfl (by omega) (by omega))<|Zl (Yi rfl)<|Zn ?_
   have htk := take_snoc e2.at_
   have hnx : sentE (es.take (k + 1)) = out := by rw [htk, sentE_snoc, ← hout, if_neg (fun h => by first | exact h21 h.1 | exact h24 h.2)]
   refine ⟨(k + 1, out, A1, c1), ⟨by omega, hnx.symm, L1, ho, H.forget (by simp) (by simp)⟩, sl2 rfl rfl, by repeat (first | exact Agr.refl _ _ | exact agr_ovr | refine agr_upd rfl ?_ | refine agr_updL _ rfl ?_ | refine agr_ovr2 rfl ?_), by show es.length - (k + 1) < es.length - k; omega⟩
 ·
  refine Zn<|Zs<|ZF rfl<|Zx<|Zs<|Zr<|Zl (Ys rfl)<|Zl (Ws rfl)<|Zn<|Zt ?_
  have hke : k = es.length := by omega
  rw [hke, List.take_length] at hout
  subst hout
  obtain ⟨A2, c2, he, hlc, -⟩ := ho.form
  injection he with h1 h2 h3
  subst h3
  exact fin1 rfl rfl ⟨A1, c1, rfl, ho.rd H, hlc, H.below⟩
end Go.Proofs.Ytemnchkebhclpaa
end

section
namespace Go.Proofs.Ytemnchkebhclpaa
open Go Go.Eng Go.RowKit
set_option linter.unusedSimpArgs false
theorem Rd.blk {α : Type} {Y : Lay α} {w : World} {b : Nat} {cs : Array Value} {T : TypeId} {fr : Nat × Nat} {es : List α} (h : w.heap[b]? = some (.cells cs T fr)) (hc : cs.toList = Y.all es) : Rd Y 0 w.heap.size (some ⟨b, 0, none⟩) es w :=
 fun _ => ⟨b, 0, rfl, Nat.zero_le _, lt_of_heap h, fun j u hj => by rw [Nat.zero_add]; exact cellE h (by rw [← hc] at hj; simpa using hj)⟩
def ex1 : Ent := ⟨0, 0, 0, 0, 1, false, ⟨#[97]⟩⟩
theorem stab_ex1 {st : Nat} (h : isStab ([ex1].take 1) st) : st = 1 := by
 rcases h.2.2 with h | ⟨pid, e, h1, _, h3, _⟩
 ·
  exact h
 ·
  have hm := List.mem_of_getElem? h1
  simp at hm
  subst hm
  cases h3
theorem read_ex1 {st b : Nat} {out : List ByteArray} (h : isStab ([ex1].take 1) st) (hr : ReadS [ex1] 1 st 0 20 out b) : out.length = 1 := by
 have := stab_ex1 h
 subst this
 obtain ⟨_, h2, h3, h4, h5⟩ := hr
 have hb : b = 0 ∨ b = 1 := by omega
 rcases hb with rfl | rfl
 ·
  rw [texts_self] at h3; subst h3; simp at h5
 ·
  rw [h3]; rfl
set_option maxHeartbeats 4000000 in
set_option maxRecDepth 10000 in
theorem viewTells_ok (w : World) : Ret Try.prog i_tailracekeep_viewTells [] w fun v w2 => v = .bool true ∧ Below w.heap.size w w2 := by
 refine ret_of fn_tailracekeep_viewTells rfl rfl ?_
 have H := Hp.start w
 refine Zs<|Zr<|Zl (Wb rfl)<|Zn<|Zs<|Zr<|Zl (bld_r (cs := (Ent.c ex1).toArray) st_Entry z_Entry (by kernel_rfl))<|alo H z_Entry rfl fun w1 b1 H =>stN H 0 ((Ent.c ex1).toArray) siz_Entry rfl rfl rfl rfl rfl (by kernel_rfl) (by kernel_rfl) fun w2 H =>Zn<|Zs<|Zr<|Zl (Zw agg_Entry H 0 rfl rfl rfl)<|cal cb_view_Check (vcheck_ok [] none 0 ex1 _ Rd.nil (by simp) (by intro e he; cases he)) rfl rfl ?_
 rintro _ w3 ⟨rfl, hb⟩; replace H := H.later hb; clear hb
 refine Zl (Yu rfl)<|Zl (Xi rfl rfl)<|Zl (Xi rfl rfl)<|Zl (Wi rfl)<|Zl (Wi rfl)<|Zn<|Zs<|Zr<|Zl (Zw agg_Entry H 0 rfl rfl rfl)<|bsv (vs := [Ent.v ex1]) H sl_LEntry z_Entry rfl rfl rfl rfl rfl rfl fun w4 b15 H =>cal cb_view_Read (read_ok [ex1] (some ⟨b15, 0, none⟩) 1 1 0 20 _ (Rd.blk (H.ent (i := 0) rfl) rfl) (by decide) (by decide) (by decide) (by decide) (by decide) (by decide)) rfl rfl ?_
 rintro _ w5 ⟨st, out, b, A2, c2, hst, hrs, rfl, -, -, hb2⟩; replace H := H.later hb2; clear hb2
 refine Zl (Yu rfl)<|Zl (Xs rfl rfl)<|Zl (Xi rfl rfl)<|Zl (Xi rfl rfl)<|Zl (Ws rfl)<|Zl (Wi rfl)<|Zl (Wi rfl)<|Zn<|Zs<|Zr<|Zl (Yi rfl)<|Zl (eqlT_r rfl rfl rfl)<|Zl (Yb rfl)<|ZG ?_
 refine Zl (Yi rfl)<|ZG<|Zl (lssT_r rfl rfl (by decide))<|Zl (Kt rfl rfl)<|Zl (Yb rfl)<|ZG<|Zl (Yi rfl)<|ZG<|Zl (eqlT_r rfl rfl rfl)<|Zl (Kt rfl rfl)<|Zl (Yb rfl)<|ZG<|Zl (Ys rfl)<|ZG ?_
 refine Zl (lenS_r len_Lstring rfl)<|ZG<|Zl (eqlT_r rfl rfl (by rw [read_ex1 hst hrs]; rfl))<|Zl (Kt rfl rfl)<|Zl (Wb rfl)<|Zn<|Zt ?_
 exact fin1 (v := .bool true) rfl rfl ⟨rfl, H.below⟩
set_option maxHeartbeats 4000000 in
set_option maxRecDepth 10000 in
theorem twice_c1_ok (y x : Ent) (b : Nat) (w : World) (hx : w.heap[b]? = some (.cells (Ent.c x).toArray T_Entry (0, 0))) :
  Ret Try.prog i_tailracekeep_TwiceSame_c1 [y.v, .pointer (some ⟨b, 0, none⟩)] w fun v w2 => v = .bool (decide (y.pid = x.pid) && decide (x.ver < y.ver)) ∧ Below w.heap.size w w2 := by
 refine ret_of fn_tailracekeep_TwiceSame_c1 rfl rfl ?_
 have H := Hp.start w
 have hb := lt_of_heap hx
 refine Zs<|Zr<|bxA H rfl rfl fun w1 b2 H =>Zl (Wb rfl)<|Zn<|Zs<|Zr<|Zl (Zf fd_Entry_1 rfl)<|Zl (Zd one_int H 0 rfl rfl rfl)<|Zl (Zf fd_Entry_1 rfl)<|Zl (ld_r one_int rfl ((H.below.cell (p := ⟨b, _, none⟩) hb).trans (cellE (j := 1) hx rfl))) ?_
 refine lwD (eql_r rfl rfl) rfl rfl rfl (fun h8 => ?_) (fun h8 => ?_)
 ·
  refine Zl (Yb rfl)<|ZG<|Zl (Zf fd_Entry_2 rfl)<|ZG<|Zl (Zd one_int H 0 rfl rfl rfl)<|ZG<|Zl (Zf fd_Entry_2 rfl)<|ZG<|Zl (ld_r one_int rfl ((H.below.cell (p := ⟨b, _, none⟩) hb).trans (cellE (j := 2) hx rfl)))<|ZG ?_
  refine lwD (gtr_r rfl rfl) rfl rfl rfl (fun h14 => ?_) (fun h14 => ?_)
  ·
   refine Zl (Kt rfl rfl)<|Zl (Wb rfl)<|Zn<|Zt ?_
   have hv : (decide (y.pid = x.pid) && decide (x.ver < y.ver)) = true := by simp [h8, h14]
   exact fin1 (v := .bool true) rfl rfl ⟨by rw [hv], H.below⟩
  ·
   refine Zl (Kt rfl rfl)<|Zl (Wb rfl)<|Zn<|Zt ?_
   have hv : (decide (y.pid = x.pid) && decide (x.ver < y.ver)) = false := by simp [h8, h14]
   exact fin1 (v := .bool false) rfl rfl ⟨by rw [hv], H.below⟩
 ·
  refine Zl (Yb rfl)<|ZN<|ZN<|ZN<|ZN<|ZN<|Zl (Kf rfl rfl)<|Zl (Wb rfl)<|Zn<|Zt ?_
  have hv : (decide (y.pid = x.pid) && decide (x.ver < y.ver)) = false := by simp [h8]
  exact fin1 (v := .bool false) rfl rfl ⟨by rw [hv], H.below⟩
/-- entries that came one by one -/
inductive Sent : List Ent → Prop
 | nil : Sent []
 | snoc {es : List Ent} {x : Ent} : Sent es → (vchk es x).2 = 0 → (vchk es x).1 < 0 → Sent (es ++ [x])
theorem sentE_sent (l : List Ent) : Sent (sentE l) := by
 induction l using snoc_ind with
 | h0 => exact .nil
 | h1 l x ih =>
  rw [sentE_snoc]
  split
  ·
   rename_i h; exact .snoc ih h.1 h.2
  ·
   exact ih
theorem sent_inv {l : List Ent} {f : Ent} (h : Sent (l ++ [f])) : Sent l ∧ (vchk l f).2 = 0 ∧ (vchk l f).1 < 0 := by
 generalize hl : l ++ [f] = m at h
 cases h with
 | nil => simp at hl
 | snoc hs a b =>
  obtain ⟨rfl, hx⟩ := List.append_inj' hl rfl
  simp at hx
  subst hx
  exact ⟨hs, a, b⟩
theorem Sent.take {es : List Ent} (h : Sent es) : ∀ k, Sent (es.take k) := by
 induction h with
 | nil => intro k; simp; exact .nil
 | @snoc es x h h1 h2 ih =>
  intro k
  by_cases hk : k ≤ es.length
  ·
   rw [List.take_append_of_le_length hk]; exact ih k
  ·
   rw [List.take_of_length_le (by simp; omega)]; exact .snoc h h1 h2
def cnt (es : List Ent) (pid ver : Int) : Nat := (es.filter fun e => decide (e.kind = 1) && decide (e.pid = pid) && decide (e.ver = ver)).length
theorem cnt_snoc (es : List Ent) (x : Ent) (pid ver : Int) : cnt (es ++ [x]) pid ver = cnt es pid ver + if x.kind = 1 ∧ x.pid = pid ∧ x.ver = ver then 1 else 0 := by
 unfold cnt
 rw [List.filter_append, List.length_append]
 congr 1
 by_cases h1 : x.kind = 1 <;> by_cases h2 : x.pid = pid <;> by_cases h3 : x.ver = ver <;> simp [h1, h2, h3]
theorem cnt_mono {es : List Ent} {a b : Nat} (h : a ≤ b) (pid ver : Int) : cnt (es.take a) pid ver ≤ cnt (es.take b) pid ver := by
 unfold cnt
 refine List.Sublist.length_le (List.Sublist.filter _ ?_)
 have : es.take a = (es.take b).take a := by rw [List.take_take, Nat.min_eq_left h]
 rw [this]
 exact List.take_sublist _ _
theorem cnt_zero {es : List Ent} {pid ver : Int} (h : ∀ e ∈ es, e.pid = pid → e.ver ≠ ver) : cnt es pid ver = 0 := by
 unfold cnt
 rw [List.length_eq_zero_iff, List.filter_eq_nil_iff]
 intro e he hc
 simp at hc
 exact h e he hc.1.2 hc.2
/-- what an entry is that may come -/
theorem vchk_new {es : List Ent} {x : Ent} (h0 : x.pid ≠ 0) (h1 : (vchk es x).2 = 0) (h2 : (vchk es x).1 < 0) {p : Prod} (hp : p = (prodF es x.pid).getD ⟨x.ver, -1, -1, -1⟩) : p.ver ≤ x.ver ∧ (x.kind = 1 → x.seq = (if p.ver < x.ver then -1 else p.seq) + 1) := by
 unfold vchk at h1 h2
 rw [if_neg h0, ← hp] at h1 h2
 unfold vchkP at h1 h2
 split at h1
 ·
  simp at h1
 ·
  rename_i hv
  rw [if_neg hv] at h2
  refine ⟨by omega, fun hk => ?_⟩
  rw [if_neg (fun h => h hk)] at h1 h2
  generalize (if p.ver < x.ver then (-1 : Int) else p.seq) = s at h1 h2 ⊢
  split at h1
  ·
   simp at h1
  ·
   rename_i hg
   rw [if_neg hg] at h2
   split at h1
   ·
    assumption
   ·
    rename_i hs
    rw [if_neg hs] at h2
    exfalso
    split at h1
    ·
     rename_i i hi
     rw [hi] at h2
     simp at h2
     omega
    ·
     simp at h1
theorem sent_link {es : List Ent} (h : Sent es) : ∀ pid, pid ≠ 0 → (∀ p, prodF es pid = some p → (∀ e ∈ es, e.pid = pid → e.ver ≤ p.ver) ∧ p.seq = (cnt es pid p.ver : Int) - 1) := by
 induction h with
 | nil => intro pid _ p hp; cases hp
 | @snoc es x h h1 h2 ih =>
  intro pid h0 p hp
  rw [prodF_snoc] at hp
  by_cases hx : x.pid = pid
  ·
   subst hx
   rw [if_pos ⟨h0, rfl⟩] at hp
   injection hp with hp
   obtain ⟨v1, v2⟩ := vchk_new h0 h1 h2 rfl
   have hver : p.ver = x.ver := by
    rw [← hp]; unfold stepP pv
    split <;> (split <;> (try split) <;> simp_all)
   have hle : ∀ e ∈ es, e.pid = x.pid → e.ver ≤ x.ver := fun e he hpe => by
    cases hq : prodF es x.pid with
    | none => exact absurd hpe.symm (fun h => h0 ((prodF_inv es x.pid).2 hq e he hpe))
    | some q =>
     rw [hq] at v1
     have := (ih x.pid h0 q hq).1 e he hpe
     simp at v1
     omega
   refine ⟨fun e he hpe => ?_, ?_⟩
   ·
    rw [hver]
    rcases List.mem_append.1 he with he | he
    ·
     exact hle e he hpe
    ·
     rw [List.mem_singleton.1 he]; exact Int.le_refl _
   ·
    rw [hver, cnt_snoc]
    -- the number that was last in this version
    have hold : (pv x ((prodF es x.pid).getD p0)).seq = (cnt es x.pid x.ver : Int) - 1 := by
     cases hq : prodF es x.pid with
     | none =>
      have hz : cnt es x.pid x.ver = 0 := cnt_zero fun e he hpe => absurd ((prodF_inv es x.pid).2 hq e he hpe) h0
      rw [hz]; unfold pv; simp only [Option.getD_none]; split <;> simp [p0]
     | some q =>
      obtain ⟨i1, i2⟩ := ih x.pid h0 q hq
      unfold pv
      simp only [Option.getD_some]
      split
      ·
       rename_i hne
       rw [hq] at v1
       simp at v1
       have hz : cnt es x.pid x.ver = 0 := cnt_zero fun e he hpe hev => by have := i1 e he hpe; omega
       rw [hz]; rfl
      ·
       rename_i heq
       have : x.ver = q.ver := Classical.not_not.1 heq
       rw [i2, this]
    by_cases hk : x.kind = 1
    ·
     rw [if_pos ⟨hk, rfl, rfl⟩]
     have hs := v2 hk
     have hseq : p.seq = x.seq := by
      rw [← hp]; unfold stepP
      rw [if_neg (fun h => h hk)]
      split <;> rfl
     have hcnt : x.seq = (cnt es x.pid x.ver : Int) := by
      cases hq : prodF es x.pid with
      | none =>
       have hz : cnt es x.pid x.ver = 0 := cnt_zero fun e he hpe => absurd ((prodF_inv es x.pid).2 hq e he hpe) h0
       rw [hq] at hs; simp at hs; omega
      | some q =>
       obtain ⟨i1, i2⟩ := ih x.pid h0 q hq
       rw [hq] at hs v1
       simp at hs v1
       by_cases hlt : q.ver < x.ver
       ·
        rw [if_pos hlt] at hs
        have hz : cnt es x.pid x.ver = 0 := cnt_zero fun e he hpe hev => by have := i1 e he hpe; omega
        omega
       ·
        rw [if_neg hlt] at hs
        have : q.ver = x.ver := by omega
        rw [this] at i2
        omega
     omega
    ·
     rw [if_neg (fun h => hk h.1)]
     have hseq : p.seq = (pv x ((prodF es x.pid).getD p0)).seq := by
      rw [← hp]; unfold stepP
      rw [if_pos hk]
     rw [hseq, hold]; simp
  ·
   rw [if_neg (fun h => hx h.2)] at hp
   obtain ⟨i1, i2⟩ := ih pid h0 p hp
   refine ⟨fun e he hpe => ?_, ?_⟩
   ·
    rcases List.mem_append.1 he with he | he
    ·
     exact i1 e he hpe
    ·
     rw [List.mem_singleton.1 he] at hpe; exact absurd hpe hx
   ·
    rw [cnt_snoc, if_neg (fun h => hx h.2.1), i2]; simp
theorem sent_ver {es : List Ent} (h : Sent es) {j : Nat} {f : Ent} (hj : es[j]? = some f) (h0 : f.pid ≠ 0) : ∀ e ∈ es.take j, e.pid = f.pid → e.ver ≤ f.ver := by
 have h1 := h.take (j + 1)
 rw [take_snoc hj] at h1
 generalize es.take j = l at h1 ⊢
 obtain ⟨hs, a, b⟩ := sent_inv h1
 intro e he hpe
 obtain ⟨v1, -⟩ := vchk_new h0 a b rfl
 cases hq : prodF l f.pid with
 | none => exact absurd ((prodF_inv l f.pid).2 hq e he hpe) h0
 | some q =>
  rw [hq] at v1
  simp at v1
  have := (sent_link hs f.pid h0 q hq).1 e he hpe
  omega
theorem sent_seq {es : List Ent} (h : Sent es) {j : Nat} {f : Ent} (hj : es[j]? = some f) (h0 : f.pid ≠ 0) (hk : f.kind = 1) : f.seq = (cnt (es.take j) f.pid f.ver : Int) := by
 have h1 := h.take (j + 1)
 rw [take_snoc hj] at h1
 have h2 := sent_link h1 f.pid h0 _ (by rw [prodF_snoc, if_pos ⟨h0, rfl⟩])
 have hver : (stepP (es.take j).length f ((prodF (es.take j) f.pid).getD p0)).ver = f.ver := by
  unfold stepP pv
  split <;> (split <;> (try split) <;> simp_all)
 have hseq : (stepP (es.take j).length f ((prodF (es.take j) f.pid).getD p0)).seq = f.seq := by
  unfold stepP
  rw [if_neg (fun h => h hk)]
  split <;> rfl
 rw [hver, hseq, cnt_snoc, if_pos ⟨hk, rfl, rfl⟩] at h2
 omega
end Go.Proofs.Ytemnchkebhclpaa
end

section
namespace Go.Proofs.Ytemnchkebhclpaa
open Go Go.Eng Go.RowKit
set_option linter.unusedSimpArgs false
theorem seqB_good {es : List Ent} (h : ∀ e ∈ es, Good e) : seqB es := fun e he => by
 obtain ⟨_, _, h3, _⟩ := entCheck_ok (h e he)
 have := h3 e.seq (by simp [Ent.nums])
 omega
def later (es : List Ent) (k : Nat) (x : Ent) : Bool := (es.drop k).any fun y => decide (y.pid = x.pid) && decide (x.ver < y.ver)
theorem twice_pid0 {es : List Ent} {x : Ent} (h : x.pid = 0) : vchk es x = (-1, 0) := by unfold vchk; rw [if_pos h]
theorem twice_some {es : List Ent} {x : Ent} {k : Nat} (hk : es[k]? = some x) (h0 : x.pid ≠ 0) : ∃ p, prodF es x.pid = some p := by
 cases hq : prodF es x.pid with
 | none => exact absurd ((prodF_inv es x.pid).2 hq x (List.mem_of_getElem? hk) rfl) h0
 | some p => exact ⟨p, rfl⟩
theorem twice_later {es : List Ent} (h : Sent es) {k : Nat} {x : Ent} (hk : es[k]? = some x) (h0 : x.pid ≠ 0) (hl : later es k x = true) : (vchk es x).2 = 10 := by
 obtain ⟨p, hp⟩ := twice_some hk h0
 unfold later at hl
 obtain ⟨y, hy, hy2⟩ := List.any_eq_true.1 hl
 simp at hy2
 have := (sent_link h x.pid h0 p hp).1 y (List.mem_of_mem_drop hy) hy2.1
 unfold vchk
 rw [if_neg h0, hp]
 unfold vchkP
 simp only [Option.getD_some]
 rw [if_pos (by omega)]
theorem twice_same {es : List Ent} (h : Sent es) {k : Nat} {x : Ent} (hk : es[k]? = some x) (h0 : x.pid ≠ 0) (hl : later es k x = false) (hd : x.kind = 1) : vchk es x = ((k : Int), 0) := by
 obtain ⟨p, hp⟩ := twice_some hk h0
 obtain ⟨l1, l2⟩ := sent_link h x.pid h0 p hp
 have hkl := (getE hk).1
 have hxle := l1 x (List.mem_of_getElem? hk) rfl
 have hver : p.ver = x.ver := by
  obtain ⟨e, he, hpe, hve⟩ := ((prodF_inv es x.pid).1 p hp).ver
  obtain ⟨j, hj⟩ := List.mem_iff_getElem?.1 he
  by_cases hjk : j < k
  ·
   have := sent_ver h hk h0 e (List.mem_of_getElem? (by rw [List.getElem?_take_of_lt hjk]; exact hj)) hpe
   omega
  ·
   have hmem : e ∈ es.drop k := List.mem_of_getElem? (i := j - k) (by rw [List.getElem?_drop, show k + (j - k) = j by omega]; exact hj)
   have hnl := List.any_eq_false.1 hl e hmem
   simp [hpe] at hnl
   omega
 have hseq := sent_seq h hk h0 hd
 have hc1 : cnt (es.take (k + 1)) x.pid x.ver = cnt (es.take k) x.pid x.ver + 1 := by
  rw [take_snoc hk, cnt_snoc, if_pos ⟨hd, rfl, rfl⟩]
 have hc2 : cnt (es.take (k + 1)) x.pid x.ver ≤ cnt es x.pid x.ver := by
  have := cnt_mono (es := es) (a := k + 1) (b := es.length) (by omega) x.pid x.ver
  rwa [List.take_length] at this
 rw [hver] at l2
 have hdup : es.findIdx? (isDup x) = some k := dup_some hk (by simp [isDup, hd]) fun j e hj he => by
  by_cases hi : isDup x e = true
  ·
   exfalso
   simp [isDup] at hi
   obtain ⟨⟨⟨a1, a2⟩, a3⟩, a4⟩ := hi
   have s1 := sent_seq h he (by rw [a2]; exact h0) a1
   rw [a2, a3] at s1
   have s2 : cnt (es.take (j + 1)) x.pid x.ver = cnt (es.take j) x.pid x.ver + 1 := by
    rw [take_snoc he, cnt_snoc, if_pos ⟨a1, a2, a3⟩]
   have s3 := cnt_mono (es := es) (a := j + 1) (b := k) (by omega) x.pid x.ver
   omega
  ·
   simpa using hi
 unfold vchk
 rw [if_neg h0, hp]
 unfold vchkP
 simp only [Option.getD_some, hver]
 rw [if_neg (by omega), if_neg (fun h => h hd), if_neg (by omega : ¬ x.ver < x.ver), if_neg (by omega), if_neg (by omega), hdup]
def ex2 : Ent := ⟨0, 1, 0, 1, 1, false, ⟨#[]⟩⟩
set_option maxHeartbeats 4000000 in
set_option maxRecDepth 10000 in
theorem twiceSame_ok (l : List Raw) (A : Option Addr) (c : Nat) (i_ : Int) (w : World) (hr : Rd rawL 0 w.heap.size A l w) (hok : ∀ r ∈ l, r.ok) (hl : l.length ≤ 9223372036854775807) (hi : i64 i_) :
  Ret Try.prog i_tailracekeep_TwiceSame [.slice A l.length c, .int .i64 i_] w fun v w2 => v = .bool true ∧ Below w.heap.size w w2 := by
 refine ret_of fn_tailracekeep_TwiceSame rfl rfl ?_
 have H := Hp.startRd hr
 obtain ⟨hi1, hi2⟩ := hi
 refine Zs<|Zr<|Zl (Wb rfl)<|Zn<|Zs<|Zr<|Zl (Ys rfl)<|cal cb_tailracekeep_many (many_ok l 60 _ _ _ (H.rd0 0 rfl) hok hl (by decide)) rfl rfl ?_
 rintro _ w2 ⟨Aes, ces, rfl, hr1, hces, hb1⟩; replace H := H.learnRd hb1 hr1; clear hr1 hb1
 generalize hes : manyE l 60 = es at H hces ⊢
 have hgood : ∀ e ∈ es, Good e := by rw [← hes]; exact manyE_good
 have hel : es.length ≤ 60 := by rw [← hes]; exact manyE_len l 60
 refine cal cb_tailracekeep_sent (sent_ok es _ _ _ (H.rd0 0 rfl) (by omega) (seqB_good hgood)) rfl rfl ?_
 rintro _ w4 ⟨Ass, css, rfl, hr3, hcss, hb3⟩; replace H := H.learnRd hb3 hr3; clear hr3 hb3
 have hsubss := sentE_sub es
 have hsentss := sentE_sent es
 generalize hdefss : sentE es = ss at H hcss hsubss hsentss ⊢
 have hlss : ss.length ≤ 60 := by have := hsubss.2; omega
 have hgss : ∀ e ∈ ss, Good e := fun e he => hgood e (hsubss.1 e he)
 refine Zl (Ws rfl)<|Zn<|Zs<|Zs<|Zr<|Zl (Ys rfl)<|Zl (lenS_r len_LEntry rfl) ?_
 refine lwD (eql_r rfl rfl) rfl rfl rfl (fun h18 => ?_) (fun h18 => ?_)
 ·
  refine Zn<|ZT rfl<|Zs<|Zr<|Zl (bld_r (cs := (Ent.c ex2).toArray) st_Entry z_Entry (by kernel_rfl))<|cal cb_view_Check (vcheck_ok [] none 0 ex2 _ Rd.nil (by simp) (by intro e he; cases he)) rfl rfl ?_
  rintro _ w5 ⟨rfl, hb⟩; replace H := H.later hb; clear hb
  refine Zl (Yu rfl)<|Zl (Xi rfl rfl)<|Zl (Xi rfl rfl)<|Zl (Wi rfl)<|Zl (Wi rfl)<|Zn<|Zs<|Zr<|Zl (Yi rfl)<|Zl (eql_r rfl rfl)<|Zl (Wb rfl)<|Zn<|Zt ?_
  exact fin1 (v := .bool (decide ((vchk [] ex2).2 = 11))) rfl rfl ⟨rfl, H.below⟩
 ·
  refine Zn<|ZF rfl<|Zk<|Zs<|Zr<|Zl (Yi rfl)<|Zl (Ys rfl)<|Zl (lenS_r len_LEntry rfl)<|cal cb_tailracekeep_picked (picked_ok i_ ss.length _ (by omega) (by omega) (by omega) (by omega)) rfl rfl ?_
  rintro _ w6 ⟨rfl, hb⟩; replace H := H.later hb; clear hb
  have hkl := pk_lt i_ (show 0 < ss.length by omega)
  generalize pk i_ ss.length = k at hkl ⊢
  refine Zl (Wi rfl)<|Zn<|Zs<|Zr<|Zl (Ys rfl)<|Zl (Yi rfl)<|ixF H 0 rfl sl_LEntry rfl rfl (by omega) (by omega) rfl fun b7 o7 x7 e7 =>Zl (ldA_r (xs := Ent.c x7) agg_Entry rfl rfl e7.cl)<|alo H z_Entry rfl fun w8 b9 H =>stW H 0 siz_Entry rfl rfl rfl rfl rfl rfl fun w9 H =>Zn<|Zs<|Zr<|Zl (Ys rfl) ?_
  refine Zl (Zw agg_Entry H 0 rfl rfl rfl)<|cal cb_view_Check (vcheck_ok ss _ _ x7 _ (H.rd0 0 rfl) (by omega) (seqB_good hgss)) rfl rfl ?_
  rintro _ w10 ⟨rfl, hb⟩; replace H := H.later hb; clear hb
  refine Zl (Yu rfl)<|Zl (Xi rfl rfl)<|Zl (Xi rfl rfl)<|Zl (Wi rfl)<|Zl (Wi rfl)<|Zn<|Zs<|Zs<|Zr<|Zl (Zf fd_Entry_1 rfl)<|Zl (Zd one_int H 0 rfl rfl rfl) ?_
  refine lwD (eql_r rfl rfl) rfl rfl rfl (fun h42 => ?_) (fun h42 => ?_)
  ·
   refine Zn<|ZT rfl<|Zs<|Zr<|Zl (Yi rfl)<|Zl (eqlT_r rfl rfl (by rw [twice_pid0 h42]))<|Zl (Yb rfl)<|ZG<|Zl (Yi rfl)<|ZG<|Zl (eqlT_r rfl rfl (by rw [twice_pid0 h42]))<|Zl (Kt rfl rfl)<|Zl (Wb rfl)<|Zn ?_
   refine Zt ?_
   exact fin1 (v := .bool true) rfl rfl ⟨rfl, H.below⟩
  ·
   refine Zn<|ZF rfl<|Zk<|Zs<|Zr<|Zl (Ys rfl)<|Zl (Yi rfl)<|sliLoF (k := k) H 0 rfl sl_LEntry rfl rfl rfl hcss (by omega) rfl fun A51 H => ?_
   obtain ⟨ds, hdsds⟩ : ∃ ds, ss.drop k = ds := ⟨_, rfl⟩
   rw [hdsds] at H
   have hdlds : ss.length - k = ds.length := by rw [← hdsds]; simp
   rw [hdlds]
   refine Zl (mkf_r rfl)<|cal cb_slices_ContainsFunc_LEntry_Entry (containsFunc_Entry_ok ds _ _ _ (H.rd0 0 rfl) (by omega) i_tailracekeep_TwiceSame_c1 [.pointer (some ⟨b9, 0, none⟩)] cb_tailracekeep_TwiceSame_c1 (fun y => decide (y.pid = x7.pid) && decide (x7.ver < y.ver)) (fun e w' _ hw' => twice_c1_ok e x7 b9 w' ((hw'.block _ (lt_of_heap (H.ent (i := 0) rfl))).trans (H.ent (i := 0) rfl)))) rfl rfl ?_
   rintro _ w11 ⟨rfl, hb⟩; replace H := H.later hb; clear hb
   refine Zl (Wb rfl)<|Zn<|Zs<|Zs<|Zr ?_
   have hlt : ds.any (fun y => decide (y.pid = x7.pid) && decide (x7.ver < y.ver)) = later ss k x7 := by unfold later; rw [hdsds]
   rw [hlt]
   refine Zl (Yb rfl)<|Zn ?_
   refine cw_if rfl (fun hc54 => ?_) (fun hc54 => ?_)
   ·
    refine Zs<|Zr<|Zl (Yi rfl)<|Zl (eql_r rfl rfl)<|Zl (Wb rfl)<|Zn<|Zt ?_
    have hv : (vchk ss x7).2 = 10 := twice_later hsentss e7.at_ h42 hc54
    exact fin1 (v := .bool (decide ((vchk ss x7).2 = 10))) rfl rfl ⟨by rw [hv]; rfl, H.below⟩
   ·
    refine Zk<|Zs<|Zr<|Zl (Zf fd_Entry_4 rfl)<|Zl (Zd one_int H 0 rfl rfl rfl) ?_
    refine lwND (neq_r rfl rfl) rfl rfl rfl (fun h59 => ?_) (fun h59 => ?_)
    ·
     refine Zl (Yb rfl)<|ZN<|ZN<|ZN<|ZN<|ZN<|ZN<|ZN<|Zl (Kt rfl rfl)<|Zl (Wb rfl)<|Zn<|Zt ?_
     exact fin1 (v := .bool true) rfl rfl ⟨rfl, H.below⟩
    ·
     refine Zl (Yb rfl)<|ZG<|Zl (Yi rfl)<|ZG<|Zl (eqlT_r rfl rfl (by rw [twice_same hsentss e7.at_ h42 hc54 h59]))<|ZG<|Zl (Yb rfl)<|ZG<|Zl (Yi rfl)<|ZG<|Zl (Yi rfl)<|ZG<|Zl (eqlT_r rfl rfl (by rw [twice_same hsentss e7.at_ h42 hc54 h59]))<|ZG ?_
     refine Zl (Kt rfl rfl)<|Zl (Kf rfl rfl)<|Zl (Wb rfl)<|Zn<|Zt ?_
     exact fin1 (v := .bool true) rfl rfl ⟨rfl, H.below⟩
end Go.Proofs.Ytemnchkebhclpaa
end
