/- G0A: a part of the proofs over this seat: what stands in its theorems holds for every input that they name. -/
import Derived.Test.YtemnchkebhclpaaGZ
import Derived.Test.YtemnchkebhclpaaEngZ
open Go.Eng renaming lw_nil → Zn, cw_seq → Zs, cw_region → Zr, cw_skip → Zk, cw_ret → Zt, cw_block → Zb, cw_exit → Zx, mvI_r → Yi, mvB_r → Yb, mvS_r → Ys, mvP_r → Yp, mvT_r → Yt, mvU_r → Yu, mvA_r → Ya, asI_r → Wi, asB_r → Wb, asS_r → Ws, asP_r → Wp, asT_r → Wt, fad_r → Zf, exI_r → Xi, exA_r → Xa, exB_r → Xb, exS_r → Xs, pkTB_r → Kt, pkFB_r → Kf, cw_true → ZT, cw_false → ZF
section
namespace Go.Proofs.Ytemnchkebhclpaa
open Go Go.Eng Go.RowKit
set_option linter.unusedSimpArgs false
theorem rd_of_mem {α : Type} {Y : Lay α} {w0 w : World} {L : List (Nat × Obj)} {F : List Fact} {lo hi : Nat} {A : Option Addr} {es : List α} (H : Hp w0 w L F) (hf : FRd Y lo hi A es ∈ F) : Rd Y 0 w.heap.size A es w := by
 obtain ⟨h1, h2, -⟩ := H.facts _ hf
 exact Rd.mono h1 (Nat.zero_le _) h2
/-- P6.5 -/
def beatG (g : Gr) (i : Nat) (t : Mem) : Gr := { g with ms := g.ms.set i { t with heard := g.clock } }
/-- P6.6: where a group goes on in a part -/
def whereA (os : List Off) (part : Int) : Int := match os.find? fun o => decide (o.part = part) with | some o => o.at_ | none => 0
def offAt (os : List Off) (part : Int) : Nat := (os.takeWhile fun o => decide (o.part < part)).length
/-- P6.6: what is stored -/
def putOff (os : List Off) (part at_ : Int) : List Off :=
 if (os[offAt os part]?).map Off.part = some part then os.set (offAt os part) ⟨part, at_⟩ else os.take (offAt os part) ++ [⟨part, at_⟩] ++ os.drop (offAt os part)
theorem while_at {α : Type} {f : α → Bool} : ∀ {l : List α} {k : Nat}, (∀ x ∈ l.take k, f x = true) → (∀ x, l[k]? = some x → f x = false) → k ≤ l.length → (l.takeWhile f).length = k
 | [], k, _, _, h => by simp at h; simp [h]
 | x :: l, 0, _, h2, _ => by rw [List.takeWhile_cons_of_neg (by rw [h2 x rfl]; decide)]; rfl
 | x :: l, k + 1, h1, h2, h3 => by
  rw [List.takeWhile_cons_of_pos (h1 x (by simp)), List.length_cons, while_at (k := k) (fun y hy => h1 y (by simp [hy])) h2 (by simpa using h3)]
set_option maxHeartbeats 4000000 in
set_option maxRecDepth 10000 in
theorem index_int_ok (es : List Int) (v : Int) (A : Option Addr) (c : Nat) (w : World) (hr : Rd intL 0 w.heap.size A es w) (hb : es.length ≤ 1000000) : Ret Try.prog i_slices_Index_Lint_int [.slice A es.length c, .int .i64 v] w fun r w2 => (∃ k : Int, r = .int .i64 k ∧ (v ∈ es ↔ 0 ≤ k) ∧ -1 ≤ k ∧ k ≤ 1000000) ∧ Below w.heap.size w w2 := by
 refine ret_of fn_slices_Index_Lint_int rfl rfl ?_
 have H := Hp.startRd hr
 refine Zs<|Zr<|Zl (Wi rfl)<|Zn<|Zs<|Zs<|Zr<|Zl (Ys rfl)<|Zl (lenS_r len_Lint rfl)<|Zl (Yi rfl)<|Zn<|Zb ?_
 refine cw_loop (τ := Nat) [4, 5, 8, 9, 10, 11, 12, 13, 14, 15, 16, 17, 18] (fun k => [(8, .int .i64 (k : Nat))]) (fun k w' => k ≤ es.length ∧ v ∉ es.take k ∧ Hp w w' [] [FRd intL 0 w.heap.size A es]) (fun k => es.length - k) 0 ⟨by omega, by simp, H⟩ (sl1 rfl) ?_
 rintro k ρ1 w1 ⟨hk, hno, H⟩
 show CW _ _ _ _ (updL (ovr _ _ ρ1) [(8, .int .i64 (k : Nat))]) w1
 refine Zs<|Zr ?_
 refine lwD (lss_r rfl rfl) rfl rfl rfl (fun h9 => ?_) (fun h9 => ?_)
 ·
  obtain ⟨x, hx⟩ : ∃ x, es[k]? = some x := ⟨_, List.getElem?_eq_getElem (by omega)⟩
  refine Zn<|Zs<|ZT rfl<|Zk<|Zs<|Zb<|Zs<|Zr<|Zl (Yi rfl)<|Zl (Wi rfl)<|Zn<|Zs<|Zr<|Zl (Yi rfl) ?_
  refine Zl (Ys rfl)<|Zl (Yi rfl)<|ixF H 0 rfl sl_Lint rfl rfl (by omega) (by omega) rfl fun bq2 o2 x2 e2 => ?_
  obtain rfl : x = x2 := by have := e2.at_; rw [hx] at this; exact Option.some.inj this
  refine Zl (ld_r one_int rfl (e2.cl 0 _ rfl)) ?_
  refine lwD (eql_r rfl rfl) rfl rfl rfl (fun h16 => ?_) (fun h16 => ?_)
  ·
   refine Zn<|ZT rfl<|Zs<|Zr<|Zl (Yi rfl)<|Zl (Wi rfl)<|Zn<|Zt ?_
   exact fin1 (v := .int .i64 (k : Nat)) rfl rfl ⟨⟨(k : Nat), rfl, ⟨fun _ => by omega, fun _ => by rw [h16]; exact List.mem_of_getElem? hx⟩, by omega, by omega⟩, H.below⟩
  ·
   refine Zn<|ZF rfl<|Zk<|Zr<|Zl (add_r rfl rfl (by omega) (by omega))<|Zl (Yi rfl)<|Zn ?_
   exact ⟨k + 1, ⟨by omega, by rw [take_snoc hx]; simp only [List.mem_append, List.mem_singleton]; rintro (h | h); exact hno h; exact h16 h, H⟩, sl1 rfl, by repeat (first | exact Agr.refl _ _ | exact agr_ovr | refine agr_upd rfl ?_ | refine agr_updL _ rfl ?_ | refine agr_ovr2 rfl ?_), by show es.length - (k + 1) < es.length - k; omega⟩
 ·
  refine Zn<|Zs<|ZF rfl<|Zx<|Zs<|Zr<|Zl (Wi rfl)<|Zn<|Zt ?_
  have hke : k = es.length := by omega
  rw [hke, List.take_length] at hno
  exact fin1 (v := .int .i64 (-1)) rfl rfl ⟨⟨-1, rfl, ⟨fun h => absurd h hno, fun h => absurd h (by decide)⟩, by omega, by omega⟩, H.below⟩
set_option maxHeartbeats 4000000 in
set_option maxRecDepth 10000 in
theorem contains_int_ok (es : List Int) (v : Int) (A : Option Addr) (c : Nat) (w : World) (hr : Rd intL 0 w.heap.size A es w) (hb : es.length ≤ 1000000) : Ret Try.prog i_slices_Contains_Lint_int [.slice A es.length c, .int .i64 v] w fun r w2 => r = .bool (decide (v ∈ es)) ∧ Below w.heap.size w w2 := by
 refine ret_of fn_slices_Contains_Lint_int rfl rfl ?_
 have H := Hp.startRd hr
 refine Zs<|Zr<|Zl (Wb rfl)<|Zn<|Zs<|Zr<|Zl (Ys rfl)<|Zl (Yi rfl)<|cal cb_slices_Index_Lint_int (index_int_ok es v A c _ (H.rd0 0 rfl) hb) rfl rfl ?_
 rintro _ w1 ⟨⟨k, rfl, hk, -, -⟩, hb2⟩; replace H := H.later hb2; clear hb2
 refine Zl (geq_r rfl rfl)<|Zl (Wb rfl)<|Zn<|Zt ?_
 exact fin1 (v := .bool (decide (0 ≤ k))) rfl rfl ⟨by rw [decide_eq_decide.2 hk.symm], H.below⟩
set_option maxHeartbeats 4000000 in
set_option maxRecDepth 10000 in
theorem beat_none (g : Gr) (s : ByteArray) (gn_ : Int) (w : World) (h : g.rd 0 w.heap.size w) (hok : grOk g = true) (hn : nameOk s = true) (hi : gIdx g s = -1) : Ret Try.prog i_group_Beat [g.v, .string s, .int .i64 gn_] w fun v w2 => v = .tuple #[.agg #[.int .i64 0, .int .i64 0, .int .i64 0, .slice none 0 0, .slice none 0 0], .int .i64 5] ∧ Below w.heap.size w w2 := by
 refine ret_of fn_group_Beat rfl rfl ?_
 have hmC := h.mC
 have hoC := h.oC
 have hfew := h.few
 have hfp := h.fewP
 have H := Hp.startGr h
 obtain ⟨ck, wt, gn, ms, mA, mC, os, oA, oC⟩ := g
 dsimp only at hmC hoC hfew hfp H
 show CW _ _ _ _ (args [.agg #[.int .i64 (ck), .int .i64 (wt), .int .i64 (gn), .slice mA ms.length mC, .slice oA os.length oC], .string (s), .int .i64 (gn_)]) w
 obtain ⟨⟨⟨k1, k2⟩, k3, k4, ⟨k5, k6⟩, k7, k8⟩, ⟨hmo, hap⟩, hof, hor⟩ := grOk_iff2.1 hok
 dsimp only at k1 k2 k3 k4 k5 k6 k7 k8 hmo
 refine Zs<|Zr<|bxA H rfl rfl fun w1 b3 H =>alo H z_Group rfl fun w2 b6 H =>Zl (Wi rfl)<|Zn<|Zs<|Zr<|Zl (Zw agg_Group H 1 rfl rfl rfl)<|Zl (Yt rfl)<|Zl (Yi rfl)<|cal cb_group_here (here_none ⟨ck, wt, gn, ms, mA, mC, os, oA, oC⟩ s gn_ _ ⟨H.rd0 0 rfl, fun m hm => mp0 H 1 rfl hm, H.rd0 2 rfl, hmC, hoC, hfew, hfp⟩ hok hn hi) rfl rfl ?_
 rintro _ w3 ⟨rfl, hb⟩; replace H := H.later hb; clear hb
 refine Zl (Yu rfl)<|Zl (Xa rfl rfl)<|Zl (Xi rfl rfl)<|Zl (Xi rfl rfl)<|stN H 1 (#[.int .i64 (0), .int .i64 (0), .int .i64 (0), .slice none 0 0, .slice none 0 0]) siz_Group rfl rfl rfl rfl rfl (by kernel_rfl) (by kernel_rfl) fun w4 H =>Zl (Wi rfl)<|Zl (Wi rfl)<|Zn<|Zs<|Zs<|Zr<|Zl (Yi rfl)<|Zl (neqT_r rfl rfl (by decide))<|Zn ?_
 refine ZT rfl<|Zs<|Zr<|Zl (bld_r (cs := #[.int .i64 (0), .int .i64 (0), .int .i64 (0), .slice none 0 0, .slice none 0 0]) st_Group z_Group (by kernel_rfl))<|Zl (Yi rfl)<|stN H 0 (#[.int .i64 (0), .int .i64 (0), .int .i64 (0), .slice none 0 0, .slice none 0 0]) siz_Group rfl rfl rfl rfl rfl (by kernel_rfl) (by kernel_rfl) fun w5 H =>Zl (Wi rfl)<|Zn<|Zt ?_
 exact finCTn (cs0 := #[.int .i64 0, .int .i64 0, .int .i64 0, .slice none 0 0, .slice none 0 0]) (v1 := .int .i64 5) rfl agg_Group rfl (H.ent (i := 0) rfl) rfl rfl ⟨rfl, H.below⟩
set_option maxHeartbeats 4000000 in
set_option maxRecDepth 10000 in
theorem beat_fence (g : Gr) (s : ByteArray) (gn_ : Int) (w : World) (h : g.rd 0 w.heap.size w) (hok : grOk g = true) (hn : nameOk s = true) (i : Nat) (hi : gIdx g s = i) (hg : g.gen ≠ gn_) : Ret Try.prog i_group_Beat [g.v, .string s, .int .i64 gn_] w fun v w2 => v = .tuple #[.agg #[.int .i64 0, .int .i64 0, .int .i64 0, .slice none 0 0, .slice none 0 0], .int .i64 10] ∧ Below w.heap.size w w2 := by
 refine ret_of fn_group_Beat rfl rfl ?_
 have hmC := h.mC
 have hoC := h.oC
 have hfew := h.few
 have hfp := h.fewP
 have H := Hp.startGr h
 obtain ⟨ck, wt, gn, ms, mA, mC, os, oA, oC⟩ := g
 dsimp only at hmC hoC hfew hfp H
 show CW _ _ _ _ (args [.agg #[.int .i64 (ck), .int .i64 (wt), .int .i64 (gn), .slice mA ms.length mC, .slice oA os.length oC], .string (s), .int .i64 (gn_)]) w
 obtain ⟨⟨⟨k1, k2⟩, k3, k4, ⟨k5, k6⟩, k7, k8⟩, ⟨hmo, hap⟩, hof, hor⟩ := grOk_iff2.1 hok
 dsimp only at k1 k2 k3 k4 k5 k6 k7 k8 hmo
 refine Zs<|Zr<|bxA H rfl rfl fun w1 b3 H =>alo H z_Group rfl fun w2 b6 H =>Zl (Wi rfl)<|Zn<|Zs<|Zr<|Zl (Zw agg_Group H 1 rfl rfl rfl)<|Zl (Yt rfl)<|Zl (Yi rfl)<|cal cb_group_here (here_fence ⟨ck, wt, gn, ms, mA, mC, os, oA, oC⟩ s gn_ _ ⟨H.rd0 0 rfl, fun m hm => mp0 H 1 rfl hm, H.rd0 2 rfl, hmC, hoC, hfew, hfp⟩ hok hn i hi hg) rfl rfl ?_
 rintro _ w3 ⟨rfl, hb⟩; replace H := H.later hb; clear hb
 refine Zl (Yu rfl)<|Zl (Xa rfl rfl)<|Zl (Xi rfl rfl)<|Zl (Xi rfl rfl)<|stN H 1 (#[.int .i64 (0), .int .i64 (0), .int .i64 (0), .slice none 0 0, .slice none 0 0]) siz_Group rfl rfl rfl rfl rfl (by kernel_rfl) (by kernel_rfl) fun w4 H =>Zl (Wi rfl)<|Zl (Wi rfl)<|Zn<|Zs<|Zs<|Zr<|Zl (Yi rfl)<|Zl (neqT_r rfl rfl (by decide))<|Zn ?_
 refine ZT rfl<|Zs<|Zr<|Zl (bld_r (cs := #[.int .i64 (0), .int .i64 (0), .int .i64 (0), .slice none 0 0, .slice none 0 0]) st_Group z_Group (by kernel_rfl))<|Zl (Yi rfl)<|stN H 0 (#[.int .i64 (0), .int .i64 (0), .int .i64 (0), .slice none 0 0, .slice none 0 0]) siz_Group rfl rfl rfl rfl rfl (by kernel_rfl) (by kernel_rfl) fun w5 H =>Zl (Wi rfl)<|Zn<|Zt ?_
 exact finCTn (cs0 := #[.int .i64 0, .int .i64 0, .int .i64 0, .slice none 0 0, .slice none 0 0]) (v1 := .int .i64 10) rfl agg_Group rfl (H.ent (i := 0) rfl) rfl rfl ⟨rfl, H.below⟩
set_option maxHeartbeats 4000000 in
set_option maxRecDepth 10000 in
theorem beat_ok (g : Gr) (s : ByteArray) (gn_ : Int) (w : World) (h : g.rd 0 w.heap.size w) (hok : grOk g = true) (hn : nameOk s = true) (i : Nat) (t : Mem) (hi : gIdx g s = i) (ht : g.ms[i]? = some t) (hg : g.gen = gn_) : Ret Try.prog i_group_Beat [g.v, .string s, .int .i64 gn_] w fun v w2 => ∃ g' : Gr, v = .tuple #[g'.v, .int .i64 0] ∧ g'.a = beatG g.a i t.a ∧ NewGr w w2 g' := by
 refine ret_of fn_group_Beat rfl rfl ?_
 have hmC := h.mC
 have hoC := h.oC
 have hfew := h.few
 have hfp := h.fewP
 have H := Hp.startGr h
 obtain ⟨ck, wt, gn, ms, mA, mC, os, oA, oC⟩ := g
 dsimp only at hmC hoC hfew hfp H
 show CW _ _ _ _ (args [.agg #[.int .i64 (ck), .int .i64 (wt), .int .i64 (gn), .slice mA ms.length mC, .slice oA os.length oC], .string (s), .int .i64 (gn_)]) w
 obtain ⟨⟨⟨k1, k2⟩, k3, k4, ⟨k5, k6⟩, k7, k8⟩, ⟨hmo, hap⟩, hof, hor⟩ := grOk_iff2.1 hok
 dsimp only at k1 k2 k3 k4 k5 k6 k7 k8 hmo
 dsimp only at ht
 refine Zs<|Zr<|bxA H rfl rfl fun w1 b3 H =>alo H z_Group rfl fun w2 b6 H =>Zl (Wi rfl)<|Zn<|Zs<|Zr<|Zl (Zw agg_Group H 1 rfl rfl rfl)<|Zl (Yt rfl)<|Zl (Yi rfl)<|cal cb_group_here (here_ok ⟨ck, wt, gn, ms, mA, mC, os, oA, oC⟩ s gn_ _ ⟨H.rd0 0 rfl, fun m hm => mp0 H 1 rfl hm, H.rd0 2 rfl, hmC, hoC, hfew, hfp⟩ hok hn i hi hg) rfl rfl ?_
 rintro _ w3 ⟨⟨ck2, wt2, gn2, ms2, mA2, mC2, os2, oA2, oC2⟩, Lm, Lo, rfl, ha2, ho2, hoo2, hmc2, hoc2, hpc2, hj2⟩
 have hlo2 := H.size
 replace H := Hp.joinG H hj2 (fun m hm => (hpc2 m hm).2); clear hj2
 simp only [Gr.a, Gr.mk.injEq] at ha2
 obtain ⟨e1, e2, e3, hma, -, -, e4, -, -⟩ := ha2
 obtain rfl : ck = ck2 := e1.symm
 obtain rfl : wt = wt2 := e2.symm
 obtain rfl : gn = gn2 := e3.symm
 obtain rfl : os = os2 := e4.symm
 dsimp only at ho2 hoo2 hmc2 hoc2 hpc2 H
 replace hpc2 : ∀ m ∈ ms2, m.parts.length ≤ m.cap ∧ w.heap.size ≤ m.lo := fun m hm => ⟨(hpc2 m hm).1, Nat.le_trans hlo2 (hpc2 m hm).2⟩
 have hml2 : ms2.length = ms.length := by have := congrArg List.length hma; simpa using this
 refine Zl (Yu rfl)<|Zl (Xa rfl rfl)<|Zl (Xi rfl rfl)<|Zl (Xi rfl rfl)<|stN H 1 (#[.int .i64 (ck), .int .i64 (wt), .int .i64 (gn), .slice mA2 ms2.length mC2, .slice oA2 os.length oC2]) siz_Group rfl rfl rfl rfl rfl (by kernel_rfl) (by kernel_rfl) fun w4 H =>Zl (Wi rfl)<|Zl (Wi rfl)<|Zn<|Zs<|Zs<|Zr<|Zl (Yi rfl)<|Zl (neqF_r rfl rfl rfl)<|Zn ?_
 refine ZF rfl<|Zk<|Zs ?_
 obtain ⟨t2, ht2, hta⟩ := mem_at hma ht
 have hl2 := (getE ht2).1
 obtain ⟨g, cur, rfl, rfl, row⟩ := ho2.row (by omega)
 refine Zr<|Zl (Zf fd_Group_3 rfl)<|Zl (Zd one_LMember H 1 rfl rfl rfl)<|Zl (Yi rfl)<|Zl (Zf fd_Group_0 rfl)<|Zl (Zd one_int H 1 rfl rfl rfl)<|Zl (ixR_r sl_LMember rfl rfl (by first | omega | (simp only [List.length_set]; omega)))<|Zl (Zf fd_Member_1 rfl)<|stR H 2 ({ t2 with heard := ck }) siz_int row ht2 1 rfl rfl rfl rfl rfl rfl (by kernel_rfl) fun w6 cur5 row5 H => ?_
 have hs7 : (ms2.set i ({ t2 with heard := ck }))[i]? = some ({ t2 with heard := ck }) := List.getElem?_set_self (getE ht2).1
 refine Zn<|Zs<|Zr<|Zl (Zw agg_Group H 1 rfl rfl rfl)<|stN H 0 (#[.int .i64 (ck), .int .i64 (wt), .int .i64 (gn), .slice (some ⟨g, 0, none⟩) ms2.length mC2, .slice oA2 os.length oC2]) siz_Group rfl rfl rfl rfl rfl (by kernel_rfl) (by kernel_rfl) fun w8 H =>Zl (Wi rfl)<|Zn<|Zt ?_
 have hmf : (ms2.set i { t2 with heard := ck }).map memF = ms2.map memF := by rw [List.map_set]; apply List.ext_getElem?; intro j; rw [List.getElem?_set]; split; (rename_i hj; subst hj; rw [List.getElem?_map, ht2, if_pos (by simpa using hl2)]; rfl); rfl
 have hma3 : (ms2.set i { t2 with heard := ck }).map Mem.a = (ms.map Mem.a).set i { t.a with heard := ck } := by rw [List.map_set, hma]; congr 1; exact congrArg (fun x : Mem => ({ x with heard := ck } : Mem)) hta
 have hpl := few_parts hma hmo
 have hown := Row.own (g := g) (e := T_Member) row5
 exact finCTn (cs0 := #[.int .i64 (ck), .int .i64 (wt), .int .i64 (gn), .slice (some ⟨g, 0, none⟩) ms2.length mC2, .slice oA2 os.length oC2]) (v1 := .int .i64 0) rfl agg_Group rfl (H.ent (i := 0) rfl) rfl rfl ⟨⟨ck, wt, gn, ms2.set i { t2 with heard := ck }, some ⟨g, 0, none⟩, mC2, os, oA2, oC2⟩, by unfold Gr.v Gr.c; dsimp only; rw [List.length_set], by unfold Gr.a beatG; dsimp only; rw [hma3], OwnGr.new (ga := Gr.a ⟨ck, wt, gn, ms2.set i { t2 with heard := ck }, some ⟨g, 0, none⟩, mC2, os, oA2, oC2⟩) ⟨rfl, hown, hoo2, by dsimp only; rw [List.length_set]; exact hmc2, hoc2, fun m hm => (by rcases List.mem_or_eq_of_mem_set hm with hm | rfl; exact hpc2 m hm; exact hpc2 t2 (List.mem_of_getElem? ht2)), H.forget (.cons _ (.cons _ (List.Sublist.refl _))) (fun f hf => by dsimp only at hf; rw [hmf] at hf; exact List.mem_append_right _ hf)⟩ (by dsimp only; rw [List.length_set]; omega) (by dsimp only; omega) (fun m hm => (by rcases List.mem_or_eq_of_mem_set hm with hm | rfl; exact hpl m hm; exact hpl t2 (List.mem_of_getElem? ht2)))⟩
end Go.Proofs.Ytemnchkebhclpaa
end

section
namespace Go.Proofs.Ytemnchkebhclpaa
open Go Go.Eng Go.RowKit
set_option linter.unusedSimpArgs false
theorem where_hit {os : List Off} {part : Int} {k : Nat} {o : Off} (ho : os[k]? = some o) (hp : o.part = part) (hno : ∀ x ∈ os.take k, x.part ≠ part) : whereA os part = o.at_ := by
 have : (os.find? fun o => decide (o.part = part)) = some o := by
  rw [← List.take_append_drop k os, List.find?_append, List.find?_eq_none.2 fun x hx => by simpa using hno x hx, take_drop_step ho, List.find?_cons_of_pos (by simpa using hp)]
  rfl
 unfold whereA
 rw [this]
theorem where_miss {os : List Off} {part : Int} (hno : ∀ x ∈ os, x.part ≠ part) : whereA os part = 0 := by
 unfold whereA
 rw [List.find?_eq_none.2 fun x hx => by simpa using hno x hx]
theorem putOff_len (os : List Off) (part at_ : Int) : (putOff os part at_).length ≤ os.length + 1 := by
 unfold putOff
 split
 ·
  rw [List.length_set]; omega
 ·
  rw [List.length_append, List.length_append, List.length_take, List.length_drop, List.length_singleton]; omega
set_option maxHeartbeats 4000000 in
set_option maxRecDepth 10000 in
theorem where_none (g : Gr) (s : ByteArray) (part : Int) (w : World) (h : g.rd 0 w.heap.size w) (hok : grOk g = true) (hn : nameOk s = true) (hi : gIdx g s = -1) : Ret Try.prog i_group_Where [g.v, .string s, .int .i64 part] w fun v w2 => v = .tuple #[.int .i64 0, .int .i64 5] ∧ Below w.heap.size w w2 := by
 refine ret_of fn_group_Where rfl rfl ?_
 have hmC := h.mC
 have hoC := h.oC
 have hfew := h.few
 have hfp := h.fewP
 have H := Hp.startGr h
 obtain ⟨ck, wt, gn, ms, mA, mC, os, oA, oC⟩ := g
 dsimp only at hmC hoC hfew hfp H
 show CW _ _ _ _ (args [.agg #[.int .i64 (ck), .int .i64 (wt), .int .i64 (gn), .slice mA ms.length mC, .slice oA os.length oC], .string (s), .int .i64 (part)]) w
 obtain ⟨⟨⟨k1, k2⟩, k3, k4, ⟨k5, k6⟩, k7, k8⟩, ⟨hmo, hap⟩, hof, hor⟩ := grOk_iff2.1 hok
 dsimp only at k1 k2 k3 k4 k5 k6 k7 k8 hmo
 refine Zs<|Zr<|bxA H rfl rfl fun w1 b3 H =>Zl (Wi rfl)<|Zl (Wi rfl)<|Zn<|Zs<|Zr<|Zl (Zw agg_Group H 0 rfl rfl rfl)<|Zl (Yt rfl)<|cal cb_group_find (gfind_ok ⟨ck, wt, gn, ms, mA, mC, os, oA, oC⟩ s _ ⟨H.rd0 0 rfl, fun m hm => mp0 H 1 rfl hm, H.rd0 2 rfl, hmC, hoC, hfew, hfp⟩ hok hn) rfl rfl ?_
 rintro _ w2 ⟨⟨ck2, wt2, gn2, ms2, mA2, mC2, os2, oA2, oC2⟩, Lm, Lo, rfl, ha2, ho2, hoo2, hmc2, hoc2, hpc2, hj2⟩
 have hlo2 := H.size
 replace H := Hp.joinG H hj2 (fun m hm => (hpc2 m hm).2); clear hj2
 simp only [Gr.a, Gr.mk.injEq] at ha2
 obtain ⟨e1, e2, e3, hma, -, -, e4, -, -⟩ := ha2
 obtain rfl : ck = ck2 := e1.symm
 obtain rfl : wt = wt2 := e2.symm
 obtain rfl : gn = gn2 := e3.symm
 obtain rfl : os = os2 := e4.symm
 dsimp only at ho2 hoo2 hmc2 hoc2 hpc2 H
 replace hpc2 : ∀ m ∈ ms2, m.parts.length ≤ m.cap ∧ w.heap.size ≤ m.lo := fun m hm => ⟨(hpc2 m hm).1, Nat.le_trans hlo2 (hpc2 m hm).2⟩
 have hml2 : ms2.length = ms.length := by have := congrArg List.length hma; simpa using this
 rw [hi]
 refine Zl (Yu rfl)<|Zl (Xa rfl rfl)<|Zl (Xi rfl rfl)<|Zl (Xi rfl rfl)<|stN H 0 (#[.int .i64 (ck), .int .i64 (wt), .int .i64 (gn), .slice mA2 ms2.length mC2, .slice oA2 os.length oC2]) siz_Group rfl rfl rfl rfl rfl (by kernel_rfl) (by kernel_rfl) fun w3 H =>Zl (Wi rfl)<|Zl (Wi rfl)<|Zn<|Zs<|Zb<|Zs<|Zr<|Zl (Yi rfl)<|Zl (neqF_r rfl rfl rfl) ?_
 refine Zl (Wb rfl)<|Zn<|ZF rfl<|Zs<|Zr<|Zl (Yi rfl)<|Zl (lssT_r rfl rfl (by decide))<|Zl (Wb rfl)<|Zn<|ZT rfl<|Zs<|Zr<|Zl (Wi rfl)<|Zl (Wi rfl) ?_
 refine Zn<|Zt ?_
 exact fin2 (v := .int .i64 0) (v2 := .int .i64 5) rfl rfl rfl ⟨rfl, H.below⟩
set_option maxHeartbeats 4000000 in
set_option maxRecDepth 10000 in
theorem where_state (g : Gr) (s : ByteArray) (part : Int) (w : World) (h : g.rd 0 w.heap.size w) (hok : grOk g = true) (hn : nameOk s = true) (i : Nat) (t : Mem) (hi : gIdx g s = i) (ht : g.ms[i]? = some t) (hpt : part ∉ t.parts) : Ret Try.prog i_group_Where [g.v, .string s, .int .i64 part] w fun v w2 => v = .tuple #[.int .i64 0, .int .i64 12] ∧ Below w.heap.size w w2 := by
 refine ret_of fn_group_Where rfl rfl ?_
 have hmC := h.mC
 have hoC := h.oC
 have hfew := h.few
 have hfp := h.fewP
 have H := Hp.startGr h
 obtain ⟨ck, wt, gn, ms, mA, mC, os, oA, oC⟩ := g
 dsimp only at hmC hoC hfew hfp H
 show CW _ _ _ _ (args [.agg #[.int .i64 (ck), .int .i64 (wt), .int .i64 (gn), .slice mA ms.length mC, .slice oA os.length oC], .string (s), .int .i64 (part)]) w
 obtain ⟨⟨⟨k1, k2⟩, k3, k4, ⟨k5, k6⟩, k7, k8⟩, ⟨hmo, hap⟩, hof, hor⟩ := grOk_iff2.1 hok
 dsimp only at k1 k2 k3 k4 k5 k6 k7 k8 hmo
 dsimp only at ht
 refine Zs<|Zr<|bxA H rfl rfl fun w1 b3 H =>Zl (Wi rfl)<|Zl (Wi rfl)<|Zn<|Zs<|Zr<|Zl (Zw agg_Group H 0 rfl rfl rfl)<|Zl (Yt rfl)<|cal cb_group_find (gfind_ok ⟨ck, wt, gn, ms, mA, mC, os, oA, oC⟩ s _ ⟨H.rd0 0 rfl, fun m hm => mp0 H 1 rfl hm, H.rd0 2 rfl, hmC, hoC, hfew, hfp⟩ hok hn) rfl rfl ?_
 rintro _ w2 ⟨⟨ck2, wt2, gn2, ms2, mA2, mC2, os2, oA2, oC2⟩, Lm, Lo, rfl, ha2, ho2, hoo2, hmc2, hoc2, hpc2, hj2⟩
 have hlo2 := H.size
 replace H := Hp.joinG H hj2 (fun m hm => (hpc2 m hm).2); clear hj2
 simp only [Gr.a, Gr.mk.injEq] at ha2
 obtain ⟨e1, e2, e3, hma, -, -, e4, -, -⟩ := ha2
 obtain rfl : ck = ck2 := e1.symm
 obtain rfl : wt = wt2 := e2.symm
 obtain rfl : gn = gn2 := e3.symm
 obtain rfl : os = os2 := e4.symm
 dsimp only at ho2 hoo2 hmc2 hoc2 hpc2 H
 replace hpc2 : ∀ m ∈ ms2, m.parts.length ≤ m.cap ∧ w.heap.size ≤ m.lo := fun m hm => ⟨(hpc2 m hm).1, Nat.le_trans hlo2 (hpc2 m hm).2⟩
 have hml2 : ms2.length = ms.length := by have := congrArg List.length hma; simpa using this
 rw [hi]
 refine Zl (Yu rfl)<|Zl (Xa rfl rfl)<|Zl (Xi rfl rfl)<|Zl (Xi rfl rfl)<|stN H 0 (#[.int .i64 (ck), .int .i64 (wt), .int .i64 (gn), .slice mA2 ms2.length mC2, .slice oA2 os.length oC2]) siz_Group rfl rfl rfl rfl rfl (by kernel_rfl) (by kernel_rfl) fun w3 H =>Zl (Wi rfl)<|Zl (Wi rfl)<|Zn<|Zs<|Zb<|Zs<|Zr<|Zl (Yi rfl)<|Zl (neqF_r rfl rfl rfl) ?_
 refine Zl (Wb rfl)<|Zn<|ZF rfl<|Zs<|Zr<|Zl (Yi rfl)<|Zl (lssF_r rfl rfl (by omega))<|Zl (Wb rfl)<|Zn<|ZF rfl<|Zs ?_
 obtain ⟨t2, ht2, hta⟩ := mem_at hma ht
 have hl2 := (getE ht2).1
 obtain ⟨g, cur, rfl, rfl, row⟩ := ho2.row (by omega)
 have htp : t2.parts = t.parts := (congrArg Mem.parts hta : t2.a.parts = t.a.parts)
 have hpl := few_parts hma hmo t2 (List.mem_of_getElem? ht2)
 have hrp := rd_of_mem H (show memF t2 ∈ _ from List.mem_append_right _ (List.mem_map_of_mem (List.mem_of_getElem? ht2)))
 refine Zr<|Zl (Zf fd_Group_3 rfl)<|Zl (Zd one_LMember H 0 rfl rfl rfl)<|Zl (Yi rfl)<|Zl (ixR_r sl_LMember rfl rfl (by first | omega | (simp only [List.length_set]; omega)))<|Zl (Zf fd_Member_2 rfl)<|Zl (ldR_r one_Lint row ht2 2 rfl (H.ent (i := 1) rfl) rfl)<|Zl (Yi rfl)<|cal cb_slices_Contains_Lint_int (contains_int_ok t2.parts part t2.A t2.cap _ (rd_of_mem H (show memF t2 ∈ _ from by first | exact List.mem_append_right _ (List.mem_map_of_mem (List.mem_of_getElem? ht2)) | simp [List.mem_of_getElem? ht2])) (by omega)) rfl rfl ?_
 rw [htp, decide_eq_false hpt]
 rintro _ w4 ⟨rfl, hb⟩; replace H := H.later hb; clear hb
 refine Zl (not_r rfl)<|Zl (Wb rfl)<|Zn<|ZT rfl<|Zs<|Zr<|Zl (Wi rfl)<|Zl (Wi rfl)<|Zn<|Zt ?_
 exact fin2 (v := .int .i64 0) (v2 := .int .i64 12) rfl rfl rfl ⟨rfl, H.below⟩
set_option maxHeartbeats 4000000 in
set_option maxRecDepth 10000 in
theorem where_ok (g : Gr) (s : ByteArray) (part : Int) (w : World) (h : g.rd 0 w.heap.size w) (hok : grOk g = true) (hn : nameOk s = true) (i : Nat) (t : Mem) (hi : gIdx g s = i) (ht : g.ms[i]? = some t) (hpt : part ∈ t.parts) : Ret Try.prog i_group_Where [g.v, .string s, .int .i64 part] w fun v w2 => v = .tuple #[.int .i64 (whereA g.os part), .int .i64 0] ∧ Below w.heap.size w w2 := by
 refine ret_of fn_group_Where rfl rfl ?_
 have hmC := h.mC
 have hoC := h.oC
 have hfew := h.few
 have hfp := h.fewP
 have H := Hp.startGr h
 obtain ⟨ck, wt, gn, ms, mA, mC, os, oA, oC⟩ := g
 dsimp only at hmC hoC hfew hfp H
 show CW _ _ _ _ (args [.agg #[.int .i64 (ck), .int .i64 (wt), .int .i64 (gn), .slice mA ms.length mC, .slice oA os.length oC], .string (s), .int .i64 (part)]) w
 obtain ⟨⟨⟨k1, k2⟩, k3, k4, ⟨k5, k6⟩, k7, k8⟩, ⟨hmo, hap⟩, hof, hor⟩ := grOk_iff2.1 hok
 dsimp only at k1 k2 k3 k4 k5 k6 k7 k8 hmo
 dsimp only at ht
 refine Zs<|Zr<|bxA H rfl rfl fun w1 b3 H =>Zl (Wi rfl)<|Zl (Wi rfl)<|Zn<|Zs<|Zr<|Zl (Zw agg_Group H 0 rfl rfl rfl)<|Zl (Yt rfl)<|cal cb_group_find (gfind_ok ⟨ck, wt, gn, ms, mA, mC, os, oA, oC⟩ s _ ⟨H.rd0 0 rfl, fun m hm => mp0 H 1 rfl hm, H.rd0 2 rfl, hmC, hoC, hfew, hfp⟩ hok hn) rfl rfl ?_
 rintro _ w2 ⟨⟨ck2, wt2, gn2, ms2, mA2, mC2, os2, oA2, oC2⟩, Lm, Lo, rfl, ha2, ho2, hoo2, hmc2, hoc2, hpc2, hj2⟩
 have hlo2 := H.size
 replace H := Hp.joinG H hj2 (fun m hm => (hpc2 m hm).2); clear hj2
 simp only [Gr.a, Gr.mk.injEq] at ha2
 obtain ⟨e1, e2, e3, hma, -, -, e4, -, -⟩ := ha2
 obtain rfl : ck = ck2 := e1.symm
 obtain rfl : wt = wt2 := e2.symm
 obtain rfl : gn = gn2 := e3.symm
 obtain rfl : os = os2 := e4.symm
 dsimp only at ho2 hoo2 hmc2 hoc2 hpc2 H
 replace hpc2 : ∀ m ∈ ms2, m.parts.length ≤ m.cap ∧ w.heap.size ≤ m.lo := fun m hm => ⟨(hpc2 m hm).1, Nat.le_trans hlo2 (hpc2 m hm).2⟩
 have hml2 : ms2.length = ms.length := by have := congrArg List.length hma; simpa using this
 rw [hi]
 refine Zl (Yu rfl)<|Zl (Xa rfl rfl)<|Zl (Xi rfl rfl)<|Zl (Xi rfl rfl)<|stN H 0 (#[.int .i64 (ck), .int .i64 (wt), .int .i64 (gn), .slice mA2 ms2.length mC2, .slice oA2 os.length oC2]) siz_Group rfl rfl rfl rfl rfl (by kernel_rfl) (by kernel_rfl) fun w3 H =>Zl (Wi rfl)<|Zl (Wi rfl)<|Zn<|Zs<|Zb<|Zs<|Zr<|Zl (Yi rfl)<|Zl (neqF_r rfl rfl rfl) ?_
 refine Zl (Wb rfl)<|Zn<|ZF rfl<|Zs<|Zr<|Zl (Yi rfl)<|Zl (lssF_r rfl rfl (by omega))<|Zl (Wb rfl)<|Zn<|ZF rfl<|Zs ?_
 obtain ⟨t2, ht2, hta⟩ := mem_at hma ht
 have hl2 := (getE ht2).1
 obtain ⟨g, cur, rfl, rfl, row⟩ := ho2.row (by omega)
 have htp : t2.parts = t.parts := (congrArg Mem.parts hta : t2.a.parts = t.a.parts)
 have hpl := few_parts hma hmo t2 (List.mem_of_getElem? ht2)
 have hrp := rd_of_mem H (show memF t2 ∈ _ from List.mem_append_right _ (List.mem_map_of_mem (List.mem_of_getElem? ht2)))
 refine Zr<|Zl (Zf fd_Group_3 rfl)<|Zl (Zd one_LMember H 0 rfl rfl rfl)<|Zl (Yi rfl)<|Zl (ixR_r sl_LMember rfl rfl (by first | omega | (simp only [List.length_set]; omega)))<|Zl (Zf fd_Member_2 rfl)<|Zl (ldR_r one_Lint row ht2 2 rfl (H.ent (i := 1) rfl) rfl)<|Zl (Yi rfl)<|cal cb_slices_Contains_Lint_int (contains_int_ok t2.parts part t2.A t2.cap _ (rd_of_mem H (show memF t2 ∈ _ from by first | exact List.mem_append_right _ (List.mem_map_of_mem (List.mem_of_getElem? ht2)) | simp [List.mem_of_getElem? ht2])) (by omega)) rfl rfl ?_
 rw [htp, decide_eq_true hpt]
 rintro _ w4 ⟨rfl, hb⟩; replace H := H.later hb; clear hb
 refine Zl (not_r rfl)<|Zl (Wb rfl)<|Zn<|ZF rfl<|Zk<|Zs<|Zs ?_
 obtain ⟨lo3, hi3, H⟩ := Hp.sealO (K := [(b3, .cells #[.int .i64 (ck), .int .i64 (wt), .int .i64 (gn), .slice (some ⟨g, 0, none⟩) ms2.length mC2, .slice oA2 os.length oC2] T_Group (0, 0)), (g, .cells cur T_Member (0, 0))]) (M := []) (by simpa using H) hoo2
 rw [List.append_nil] at H
 refine Zr<|Zl (Zf fd_Group_4 rfl)<|Zl (Zd one_LOffset H 0 rfl rfl rfl)<|Zl (lenS_r len_LOffset rfl)<|Zl (Yi rfl)<|Zn<|Zb ?_
 refine cw_loop (τ := Nat) [6, 7, 11, 39, 40, 41, 42, 43, 44, 45, 46, 47, 48, 49] (fun k => [(39, .int .i64 (k : Nat))]) (fun k w' => k ≤ os.length ∧ (∀ x ∈ os.take k, x.part ≠ part) ∧ Hp w w' [(b3, .cells #[.int .i64 (ck), .int .i64 (wt), .int .i64 (gn), .slice (some ⟨g, 0, none⟩) ms2.length mC2, .slice oA2 os.length oC2] T_Group (0, 0)), (g, .cells cur T_Member (0, 0))] (FRd offL lo3 hi3 oA2 os :: ([FRd memL 0 w.heap.size mA ms, FMp 0 w.heap.size ms, FRd offL 0 w.heap.size oA os] ++ ms2.map memF))) (fun k => os.length - k) 0 ⟨by omega, by simp, H⟩ (sl1 rfl) ?_
 rintro k ρ1 w5 ⟨hk, hno, H⟩
 show CW _ _ _ _ (updL (ovr _ _ ρ1) [(39, .int .i64 (k : Nat))]) w5
 refine Zs<|Zr ?_
 refine lwD (lss_r rfl rfl) rfl rfl rfl (fun h40 => ?_) (fun h40 => ?_)
 ·
  obtain ⟨o, ho⟩ : ∃ o, os[k]? = some o := ⟨_, List.getElem?_eq_getElem (by omega)⟩
  refine Zn<|Zs<|ZT rfl<|Zk<|Zs<|Zb<|Zs<|Zr<|ixF H 0 rfl sl_LOffset rfl rfl (by omega) (by omega) rfl fun bq6 o6 x6 e6 => ?_
  obtain rfl : o = x6 := by have := e6.at_; rw [ho] at this; exact Option.some.inj this
  refine Zl (ldA_r (xs := Off.c o) agg_Offset rfl rfl e6.cl)<|alo H z_Offset rfl fun w7 b11 H =>stN H 0 (#[.int .i64 (o.part), .int .i64 (o.at_)]) siz_Offset rfl rfl rfl rfl rfl (by kernel_rfl) (by kernel_rfl) fun w8 H =>Zn<|Zs<|Zr<|Zl (Zf fd_Offset_0 rfl)<|Zl (Zd one_int H 0 rfl rfl rfl)<|Zl (Yi rfl) ?_
  refine lwD (eql_r rfl rfl) rfl rfl rfl (fun h46 => ?_) (fun h46 => ?_)
  ·
   refine Zn<|ZT rfl<|Zs<|Zr<|Zl (Zf fd_Offset_1 rfl)<|Zl (Zd one_int H 0 rfl rfl rfl)<|Zl (Wi rfl)<|Zl (Wi rfl)<|Zn<|Zt ?_
   exact fin2 (v := .int .i64 o.at_) (v2 := .int .i64 0) rfl rfl rfl ⟨by rw [where_hit ho h46 hno], H.below⟩
  ·
   refine Zn<|ZF rfl<|Zk<|Zr<|Zl (add_r rfl rfl (by omega) (by omega))<|Zl (Yi rfl)<|Zn ?_
   exact ⟨k + 1, ⟨by omega, by rw [take_snoc ho]; intro x hx; rcases List.mem_append.1 hx with hx | hx; exact hno x hx; rw [List.mem_singleton.1 hx]; exact h46, H.forget (.cons _ (List.Sublist.refl _)) (fun _ h => h)⟩, sl1 rfl, by repeat (first | exact Agr.refl _ _ | exact agr_ovr | refine agr_upd rfl ?_ | refine agr_updL _ rfl ?_ | refine agr_ovr2 rfl ?_), by show os.length - (k + 1) < os.length - k; omega⟩
 ·
  refine Zn<|Zs<|ZF rfl<|Zx<|Zs<|Zr<|Zl (Wi rfl)<|Zl (Wi rfl)<|Zn<|Zt ?_
  rw [show k = os.length by omega, List.take_length] at hno
  exact fin2 (v := .int .i64 0) (v2 := .int .i64 0) rfl rfl rfl ⟨by rw [where_miss hno], H.below⟩
set_option maxHeartbeats 4000000 in
set_option maxRecDepth 10000 in
theorem store_none (g : Gr) (s : ByteArray) (gn_ part at_ : Int) (w : World) (h : g.rd 0 w.heap.size w) (hok : grOk g = true) (hn : nameOk s = true) (hi : gIdx g s = -1) : Ret Try.prog i_group_Store [g.v, .string s, .int .i64 gn_, .int .i64 part, .int .i64 at_] w fun v w2 => v = .tuple #[.agg #[.int .i64 0, .int .i64 0, .int .i64 0, .slice none 0 0, .slice none 0 0], .int .i64 5] ∧ Below w.heap.size w w2 := by
 refine ret_of fn_group_Store rfl rfl ?_
 have hmC := h.mC
 have hoC := h.oC
 have hfew := h.few
 have hfp := h.fewP
 have H := Hp.startGr h
 obtain ⟨ck, wt, gn, ms, mA, mC, os, oA, oC⟩ := g
 dsimp only at hmC hoC hfew hfp H
 show CW _ _ _ _ (args [.agg #[.int .i64 (ck), .int .i64 (wt), .int .i64 (gn), .slice mA ms.length mC, .slice oA os.length oC], .string (s), .int .i64 (gn_), .int .i64 (part), .int .i64 (at_)]) w
 obtain ⟨⟨⟨k1, k2⟩, k3, k4, ⟨k5, k6⟩, k7, k8⟩, ⟨hmo, hap⟩, hof, hor⟩ := grOk_iff2.1 hok
 dsimp only at k1 k2 k3 k4 k5 k6 k7 k8 hmo
 refine Zs<|Zr<|bxA H rfl rfl fun w1 b5 H =>alo H z_Group rfl fun w2 b10 H =>Zl (Wi rfl)<|Zn<|Zs<|Zr<|Zl (Zw agg_Group H 1 rfl rfl rfl)<|Zl (Yt rfl)<|Zl (Yi rfl)<|cal cb_group_here (here_none ⟨ck, wt, gn, ms, mA, mC, os, oA, oC⟩ s gn_ _ ⟨H.rd0 0 rfl, fun m hm => mp0 H 1 rfl hm, H.rd0 2 rfl, hmC, hoC, hfew, hfp⟩ hok hn hi) rfl rfl ?_
 rintro _ w3 ⟨rfl, hb⟩; replace H := H.later hb; clear hb
 refine Zl (Yu rfl)<|Zl (Xa rfl rfl)<|Zl (Xi rfl rfl)<|Zl (Xi rfl rfl)<|stN H 1 (#[.int .i64 (0), .int .i64 (0), .int .i64 (0), .slice none 0 0, .slice none 0 0]) siz_Group rfl rfl rfl rfl rfl (by kernel_rfl) (by kernel_rfl) fun w4 H =>Zl (Wi rfl)<|Zl (Wi rfl)<|Zn<|Zs<|Zb<|Zs<|Zr<|Zl (Yi rfl)<|Zl (neqT_r rfl rfl (by decide)) ?_
 refine Zl (Wb rfl)<|Zn<|ZT rfl<|Zs<|Zr<|Zl (bld_r (cs := #[.int .i64 (0), .int .i64 (0), .int .i64 (0), .slice none 0 0, .slice none 0 0]) st_Group z_Group (by kernel_rfl))<|Zl (Yi rfl)<|stN H 0 (#[.int .i64 (0), .int .i64 (0), .int .i64 (0), .slice none 0 0, .slice none 0 0]) siz_Group rfl rfl rfl rfl rfl (by kernel_rfl) (by kernel_rfl) fun w5 H =>Zl (Wi rfl)<|Zn<|Zt ?_
 exact finCTn (cs0 := #[.int .i64 0, .int .i64 0, .int .i64 0, .slice none 0 0, .slice none 0 0]) (v1 := .int .i64 5) rfl agg_Group rfl (H.ent (i := 0) rfl) rfl rfl ⟨rfl, H.below⟩
set_option maxHeartbeats 4000000 in
set_option maxRecDepth 10000 in
theorem store_fence (g : Gr) (s : ByteArray) (gn_ part at_ : Int) (w : World) (h : g.rd 0 w.heap.size w) (hok : grOk g = true) (hn : nameOk s = true) (i : Nat) (hi : gIdx g s = i) (hg : g.gen ≠ gn_) : Ret Try.prog i_group_Store [g.v, .string s, .int .i64 gn_, .int .i64 part, .int .i64 at_] w fun v w2 => v = .tuple #[.agg #[.int .i64 0, .int .i64 0, .int .i64 0, .slice none 0 0, .slice none 0 0], .int .i64 10] ∧ Below w.heap.size w w2 := by
 refine ret_of fn_group_Store rfl rfl ?_
 have hmC := h.mC
 have hoC := h.oC
 have hfew := h.few
 have hfp := h.fewP
 have H := Hp.startGr h
 obtain ⟨ck, wt, gn, ms, mA, mC, os, oA, oC⟩ := g
 dsimp only at hmC hoC hfew hfp H
 show CW _ _ _ _ (args [.agg #[.int .i64 (ck), .int .i64 (wt), .int .i64 (gn), .slice mA ms.length mC, .slice oA os.length oC], .string (s), .int .i64 (gn_), .int .i64 (part), .int .i64 (at_)]) w
 obtain ⟨⟨⟨k1, k2⟩, k3, k4, ⟨k5, k6⟩, k7, k8⟩, ⟨hmo, hap⟩, hof, hor⟩ := grOk_iff2.1 hok
 dsimp only at k1 k2 k3 k4 k5 k6 k7 k8 hmo
 refine Zs<|Zr<|bxA H rfl rfl fun w1 b5 H =>alo H z_Group rfl fun w2 b10 H =>Zl (Wi rfl)<|Zn<|Zs<|Zr<|Zl (Zw agg_Group H 1 rfl rfl rfl)<|Zl (Yt rfl)<|Zl (Yi rfl)<|cal cb_group_here (here_fence ⟨ck, wt, gn, ms, mA, mC, os, oA, oC⟩ s gn_ _ ⟨H.rd0 0 rfl, fun m hm => mp0 H 1 rfl hm, H.rd0 2 rfl, hmC, hoC, hfew, hfp⟩ hok hn i hi hg) rfl rfl ?_
 rintro _ w3 ⟨rfl, hb⟩; replace H := H.later hb; clear hb
 refine Zl (Yu rfl)<|Zl (Xa rfl rfl)<|Zl (Xi rfl rfl)<|Zl (Xi rfl rfl)<|stN H 1 (#[.int .i64 (0), .int .i64 (0), .int .i64 (0), .slice none 0 0, .slice none 0 0]) siz_Group rfl rfl rfl rfl rfl (by kernel_rfl) (by kernel_rfl) fun w4 H =>Zl (Wi rfl)<|Zl (Wi rfl)<|Zn<|Zs<|Zb<|Zs<|Zr<|Zl (Yi rfl)<|Zl (neqT_r rfl rfl (by decide)) ?_
 refine Zl (Wb rfl)<|Zn<|ZT rfl<|Zs<|Zr<|Zl (bld_r (cs := #[.int .i64 (0), .int .i64 (0), .int .i64 (0), .slice none 0 0, .slice none 0 0]) st_Group z_Group (by kernel_rfl))<|Zl (Yi rfl)<|stN H 0 (#[.int .i64 (0), .int .i64 (0), .int .i64 (0), .slice none 0 0, .slice none 0 0]) siz_Group rfl rfl rfl rfl rfl (by kernel_rfl) (by kernel_rfl) fun w5 H =>Zl (Wi rfl)<|Zn<|Zt ?_
 exact finCTn (cs0 := #[.int .i64 0, .int .i64 0, .int .i64 0, .slice none 0 0, .slice none 0 0]) (v1 := .int .i64 10) rfl agg_Group rfl (H.ent (i := 0) rfl) rfl rfl ⟨rfl, H.below⟩
set_option maxHeartbeats 4000000 in
set_option maxRecDepth 10000 in
theorem store_range (g : Gr) (s : ByteArray) (gn_ part at_ : Int) (w : World) (h : g.rd 0 w.heap.size w) (hok : grOk g = true) (hn : nameOk s = true) (i : Nat) (hi : gIdx g s = i) (hg : g.gen = gn_) (hat : 400 < at_) : Ret Try.prog i_group_Store [g.v, .string s, .int .i64 gn_, .int .i64 part, .int .i64 at_] w fun v w2 => v = .tuple #[.agg #[.int .i64 0, .int .i64 0, .int .i64 0, .slice none 0 0, .slice none 0 0], .int .i64 2] ∧ Below w.heap.size w w2 := by
 refine ret_of fn_group_Store rfl rfl ?_
 have hmC := h.mC
 have hoC := h.oC
 have hfew := h.few
 have hfp := h.fewP
 have H := Hp.startGr h
 obtain ⟨ck, wt, gn, ms, mA, mC, os, oA, oC⟩ := g
 dsimp only at hmC hoC hfew hfp H
 show CW _ _ _ _ (args [.agg #[.int .i64 (ck), .int .i64 (wt), .int .i64 (gn), .slice mA ms.length mC, .slice oA os.length oC], .string (s), .int .i64 (gn_), .int .i64 (part), .int .i64 (at_)]) w
 obtain ⟨⟨⟨k1, k2⟩, k3, k4, ⟨k5, k6⟩, k7, k8⟩, ⟨hmo, hap⟩, hof, hor⟩ := grOk_iff2.1 hok
 dsimp only at k1 k2 k3 k4 k5 k6 k7 k8 hmo
 refine Zs<|Zr<|bxA H rfl rfl fun w1 b5 H =>alo H z_Group rfl fun w2 b10 H =>Zl (Wi rfl)<|Zn<|Zs<|Zr<|Zl (Zw agg_Group H 1 rfl rfl rfl)<|Zl (Yt rfl)<|Zl (Yi rfl)<|cal cb_group_here (here_ok ⟨ck, wt, gn, ms, mA, mC, os, oA, oC⟩ s gn_ _ ⟨H.rd0 0 rfl, fun m hm => mp0 H 1 rfl hm, H.rd0 2 rfl, hmC, hoC, hfew, hfp⟩ hok hn i hi hg) rfl rfl ?_
 rintro _ w3 ⟨⟨ck2, wt2, gn2, ms2, mA2, mC2, os2, oA2, oC2⟩, Lm, Lo, rfl, ha2, ho2, hoo2, hmc2, hoc2, hpc2, hj2⟩
 have hlo2 := H.size
 replace H := Hp.joinG H hj2 (fun m hm => (hpc2 m hm).2); clear hj2
 simp only [Gr.a, Gr.mk.injEq] at ha2
 obtain ⟨e1, e2, e3, hma, -, -, e4, -, -⟩ := ha2
 obtain rfl : ck = ck2 := e1.symm
 obtain rfl : wt = wt2 := e2.symm
 obtain rfl : gn = gn2 := e3.symm
 obtain rfl : os = os2 := e4.symm
 dsimp only at ho2 hoo2 hmc2 hoc2 hpc2 H
 replace hpc2 : ∀ m ∈ ms2, m.parts.length ≤ m.cap ∧ w.heap.size ≤ m.lo := fun m hm => ⟨(hpc2 m hm).1, Nat.le_trans hlo2 (hpc2 m hm).2⟩
 have hml2 : ms2.length = ms.length := by have := congrArg List.length hma; simpa using this
 refine Zl (Yu rfl)<|Zl (Xa rfl rfl)<|Zl (Xi rfl rfl)<|Zl (Xi rfl rfl)<|stN H 1 (#[.int .i64 (ck), .int .i64 (wt), .int .i64 (gn), .slice mA2 ms2.length mC2, .slice oA2 os.length oC2]) siz_Group rfl rfl rfl rfl rfl (by kernel_rfl) (by kernel_rfl) fun w4 H =>Zl (Wi rfl)<|Zl (Wi rfl)<|Zn<|Zs<|Zb<|Zs<|Zr<|Zl (Yi rfl)<|Zl (neqF_r rfl rfl rfl) ?_
 refine Zl (Wb rfl)<|Zn<|ZF rfl<|Zs<|Zr<|Zl (Yi rfl)<|Zl (lssF_r rfl rfl (by omega))<|Zl (Yb rfl)<|ZG<|Zl (Yi rfl)<|ZG<|Zl (gtrT_r rfl rfl (by omega))<|Zl (Kf rfl rfl)<|Zl (Wb rfl) ?_
 refine Zn<|ZT rfl<|Zs<|Zr<|Zl (bld_r (cs := #[.int .i64 (0), .int .i64 (0), .int .i64 (0), .slice none 0 0, .slice none 0 0]) st_Group z_Group (by kernel_rfl))<|stN H 0 (#[.int .i64 (0), .int .i64 (0), .int .i64 (0), .slice none 0 0, .slice none 0 0]) siz_Group rfl rfl rfl rfl rfl (by kernel_rfl) (by kernel_rfl) fun w5 H =>Zl (Wi rfl)<|Zn<|Zt ?_
 exact finCTn (cs0 := #[.int .i64 0, .int .i64 0, .int .i64 0, .slice none 0 0, .slice none 0 0]) (v1 := .int .i64 2) rfl agg_Group rfl (H.ent (i := 0) rfl) rfl rfl ⟨rfl, H.below⟩
set_option maxHeartbeats 4000000 in
set_option maxRecDepth 10000 in
theorem store_state (g : Gr) (s : ByteArray) (gn_ part at_ : Int) (w : World) (h : g.rd 0 w.heap.size w) (hok : grOk g = true) (hn : nameOk s = true) (i : Nat) (t : Mem) (hi : gIdx g s = i) (ht : g.ms[i]? = some t) (hg : g.gen = gn_) (hat0 : 0 ≤ at_) (hat : at_ ≤ 400) (hpt : part ∉ t.parts) : Ret Try.prog i_group_Store [g.v, .string s, .int .i64 gn_, .int .i64 part, .int .i64 at_] w fun v w2 => v = .tuple #[.agg #[.int .i64 0, .int .i64 0, .int .i64 0, .slice none 0 0, .slice none 0 0], .int .i64 12] ∧ Below w.heap.size w w2 := by
 refine ret_of fn_group_Store rfl rfl ?_
 have hmC := h.mC
 have hoC := h.oC
 have hfew := h.few
 have hfp := h.fewP
 have H := Hp.startGr h
 obtain ⟨ck, wt, gn, ms, mA, mC, os, oA, oC⟩ := g
 dsimp only at hmC hoC hfew hfp H
 show CW _ _ _ _ (args [.agg #[.int .i64 (ck), .int .i64 (wt), .int .i64 (gn), .slice mA ms.length mC, .slice oA os.length oC], .string (s), .int .i64 (gn_), .int .i64 (part), .int .i64 (at_)]) w
 obtain ⟨⟨⟨k1, k2⟩, k3, k4, ⟨k5, k6⟩, k7, k8⟩, ⟨hmo, hap⟩, hof, hor⟩ := grOk_iff2.1 hok
 dsimp only at k1 k2 k3 k4 k5 k6 k7 k8 hmo
 dsimp only at ht
 refine Zs<|Zr<|bxA H rfl rfl fun w1 b5 H =>alo H z_Group rfl fun w2 b10 H =>Zl (Wi rfl)<|Zn<|Zs<|Zr<|Zl (Zw agg_Group H 1 rfl rfl rfl)<|Zl (Yt rfl)<|Zl (Yi rfl)<|cal cb_group_here (here_ok ⟨ck, wt, gn, ms, mA, mC, os, oA, oC⟩ s gn_ _ ⟨H.rd0 0 rfl, fun m hm => mp0 H 1 rfl hm, H.rd0 2 rfl, hmC, hoC, hfew, hfp⟩ hok hn i hi hg) rfl rfl ?_
 rintro _ w3 ⟨⟨ck2, wt2, gn2, ms2, mA2, mC2, os2, oA2, oC2⟩, Lm, Lo, rfl, ha2, ho2, hoo2, hmc2, hoc2, hpc2, hj2⟩
 have hlo2 := H.size
 replace H := Hp.joinG H hj2 (fun m hm => (hpc2 m hm).2); clear hj2
 simp only [Gr.a, Gr.mk.injEq] at ha2
 obtain ⟨e1, e2, e3, hma, -, -, e4, -, -⟩ := ha2
 obtain rfl : ck = ck2 := e1.symm
 obtain rfl : wt = wt2 := e2.symm
 obtain rfl : gn = gn2 := e3.symm
 obtain rfl : os = os2 := e4.symm
 dsimp only at ho2 hoo2 hmc2 hoc2 hpc2 H
 replace hpc2 : ∀ m ∈ ms2, m.parts.length ≤ m.cap ∧ w.heap.size ≤ m.lo := fun m hm => ⟨(hpc2 m hm).1, Nat.le_trans hlo2 (hpc2 m hm).2⟩
 have hml2 : ms2.length = ms.length := by have := congrArg List.length hma; simpa using this
 refine Zl (Yu rfl)<|Zl (Xa rfl rfl)<|Zl (Xi rfl rfl)<|Zl (Xi rfl rfl)<|stN H 1 (#[.int .i64 (ck), .int .i64 (wt), .int .i64 (gn), .slice mA2 ms2.length mC2, .slice oA2 os.length oC2]) siz_Group rfl rfl rfl rfl rfl (by kernel_rfl) (by kernel_rfl) fun w4 H =>Zl (Wi rfl)<|Zl (Wi rfl)<|Zn<|Zs<|Zb<|Zs<|Zr<|Zl (Yi rfl)<|Zl (neqF_r rfl rfl rfl) ?_
 refine Zl (Wb rfl)<|Zn<|ZF rfl<|Zs<|Zr<|Zl (Yi rfl)<|Zl (lssF_r rfl rfl (by omega))<|Zl (Yb rfl)<|ZG<|Zl (Yi rfl)<|ZG<|Zl (gtrF_r rfl rfl (by omega))<|Zl (Kf rfl rfl)<|Zl (Wb rfl) ?_
 refine Zn<|ZF rfl<|Zs ?_
 obtain ⟨t2, ht2, hta⟩ := mem_at hma ht
 have hl2 := (getE ht2).1
 obtain ⟨g, cur, rfl, rfl, row⟩ := ho2.row (by omega)
 have htp : t2.parts = t.parts := (congrArg Mem.parts hta : t2.a.parts = t.a.parts)
 have hpl := few_parts hma hmo t2 (List.mem_of_getElem? ht2)
 have hrp := rd_of_mem H (show memF t2 ∈ _ from List.mem_append_right _ (List.mem_map_of_mem (List.mem_of_getElem? ht2)))
 refine Zr<|Zl (Zf fd_Group_3 rfl)<|Zl (Zd one_LMember H 1 rfl rfl rfl)<|Zl (Yi rfl)<|Zl (ixR_r sl_LMember rfl rfl (by first | omega | (simp only [List.length_set]; omega)))<|Zl (Zf fd_Member_2 rfl)<|Zl (ldR_r one_Lint row ht2 2 rfl (H.ent (i := 2) rfl) rfl)<|Zl (Yi rfl)<|cal cb_slices_Contains_Lint_int (contains_int_ok t2.parts part t2.A t2.cap _ (rd_of_mem H (show memF t2 ∈ _ from by first | exact List.mem_append_right _ (List.mem_map_of_mem (List.mem_of_getElem? ht2)) | simp [List.mem_of_getElem? ht2])) (by omega)) rfl rfl ?_
 rw [htp, decide_eq_false hpt]
 rintro _ w5 ⟨rfl, hb⟩; replace H := H.later hb; clear hb
 refine Zl (not_r rfl)<|Zl (Wb rfl)<|Zn<|ZT rfl<|Zs<|Zr<|Zl (bld_r (cs := #[.int .i64 (0), .int .i64 (0), .int .i64 (0), .slice none 0 0, .slice none 0 0]) st_Group z_Group (by kernel_rfl))<|stN H 0 (#[.int .i64 (0), .int .i64 (0), .int .i64 (0), .slice none 0 0, .slice none 0 0]) siz_Group rfl rfl rfl rfl rfl (by kernel_rfl) (by kernel_rfl) fun w6 H =>Zl (Wi rfl)<|Zn<|Zt ?_
 exact finCTn (cs0 := #[.int .i64 0, .int .i64 0, .int .i64 0, .slice none 0 0, .slice none 0 0]) (v1 := .int .i64 12) rfl agg_Group rfl (H.ent (i := 0) rfl) rfl rfl ⟨rfl, H.below⟩
set_option maxHeartbeats 4000000 in
set_option maxRecDepth 10000 in
theorem store_ok (g : Gr) (s : ByteArray) (gn_ part at_ : Int) (w : World) (h : g.rd 0 w.heap.size w) (hok : grOk g = true) (hn : nameOk s = true) (i : Nat) (t : Mem) (hi : gIdx g s = i) (ht : g.ms[i]? = some t) (hg : g.gen = gn_) (hat0 : 0 ≤ at_) (hat : at_ ≤ 400) (hpt : part ∈ t.parts) : Ret Try.prog i_group_Store [g.v, .string s, .int .i64 gn_, .int .i64 part, .int .i64 at_] w fun v w2 => ∃ g' : Gr, v = .tuple #[g'.v, .int .i64 0] ∧ g'.a = { g.a with os := putOff g.os part at_ } ∧ NewGr w w2 g' := by
 refine ret_of fn_group_Store rfl rfl ?_
 have hmC := h.mC
 have hoC := h.oC
 have hfew := h.few
 have hfp := h.fewP
 have H := Hp.startGr h
 obtain ⟨ck, wt, gn, ms, mA, mC, os, oA, oC⟩ := g
 dsimp only at hmC hoC hfew hfp H
 show CW _ _ _ _ (args [.agg #[.int .i64 (ck), .int .i64 (wt), .int .i64 (gn), .slice mA ms.length mC, .slice oA os.length oC], .string (s), .int .i64 (gn_), .int .i64 (part), .int .i64 (at_)]) w
 obtain ⟨⟨⟨k1, k2⟩, k3, k4, ⟨k5, k6⟩, k7, k8⟩, ⟨hmo, hap⟩, hof, hor⟩ := grOk_iff2.1 hok
 dsimp only at k1 k2 k3 k4 k5 k6 k7 k8 hmo
 dsimp only at ht
 refine Zs<|Zr<|bxA H rfl rfl fun w1 b5 H =>alo H z_Group rfl fun w2 b10 H =>Zl (Wi rfl)<|Zn<|Zs<|Zr<|Zl (Zw agg_Group H 1 rfl rfl rfl)<|Zl (Yt rfl)<|Zl (Yi rfl)<|cal cb_group_here (here_ok ⟨ck, wt, gn, ms, mA, mC, os, oA, oC⟩ s gn_ _ ⟨H.rd0 0 rfl, fun m hm => mp0 H 1 rfl hm, H.rd0 2 rfl, hmC, hoC, hfew, hfp⟩ hok hn i hi hg) rfl rfl ?_
 rintro _ w3 ⟨⟨ck2, wt2, gn2, ms2, mA2, mC2, os2, oA2, oC2⟩, Lm, Lo, rfl, ha2, ho2, hoo2, hmc2, hoc2, hpc2, hj2⟩
 have hlo2 := H.size
 replace H := Hp.joinG H hj2 (fun m hm => (hpc2 m hm).2); clear hj2
 simp only [Gr.a, Gr.mk.injEq] at ha2
 obtain ⟨e1, e2, e3, hma, -, -, e4, -, -⟩ := ha2
 obtain rfl : ck = ck2 := e1.symm
 obtain rfl : wt = wt2 := e2.symm
 obtain rfl : gn = gn2 := e3.symm
 obtain rfl : os = os2 := e4.symm
 dsimp only at ho2 hoo2 hmc2 hoc2 hpc2 H
 replace hpc2 : ∀ m ∈ ms2, m.parts.length ≤ m.cap ∧ w.heap.size ≤ m.lo := fun m hm => ⟨(hpc2 m hm).1, Nat.le_trans hlo2 (hpc2 m hm).2⟩
 have hml2 : ms2.length = ms.length := by have := congrArg List.length hma; simpa using this
 refine Zl (Yu rfl)<|Zl (Xa rfl rfl)<|Zl (Xi rfl rfl)<|Zl (Xi rfl rfl)<|stN H 1 (#[.int .i64 (ck), .int .i64 (wt), .int .i64 (gn), .slice mA2 ms2.length mC2, .slice oA2 os.length oC2]) siz_Group rfl rfl rfl rfl rfl (by kernel_rfl) (by kernel_rfl) fun w4 H =>Zl (Wi rfl)<|Zl (Wi rfl)<|Zn<|Zs<|Zb<|Zs<|Zr<|Zl (Yi rfl)<|Zl (neqF_r rfl rfl rfl) ?_
 refine Zl (Wb rfl)<|Zn<|ZF rfl<|Zs<|Zr<|Zl (Yi rfl)<|Zl (lssF_r rfl rfl (by omega))<|Zl (Yb rfl)<|ZG<|Zl (Yi rfl)<|ZG<|Zl (gtrF_r rfl rfl (by omega))<|Zl (Kf rfl rfl)<|Zl (Wb rfl) ?_
 refine Zn<|ZF rfl<|Zs ?_
 obtain ⟨t2, ht2, hta⟩ := mem_at hma ht
 have hl2 := (getE ht2).1
 obtain ⟨g, cur, rfl, rfl, row⟩ := ho2.row (by omega)
 have htp : t2.parts = t.parts := (congrArg Mem.parts hta : t2.a.parts = t.a.parts)
 have hpl := few_parts hma hmo t2 (List.mem_of_getElem? ht2)
 have hrp := rd_of_mem H (show memF t2 ∈ _ from List.mem_append_right _ (List.mem_map_of_mem (List.mem_of_getElem? ht2)))
 refine Zr<|Zl (Zf fd_Group_3 rfl)<|Zl (Zd one_LMember H 1 rfl rfl rfl)<|Zl (Yi rfl)<|Zl (ixR_r sl_LMember rfl rfl (by first | omega | (simp only [List.length_set]; omega)))<|Zl (Zf fd_Member_2 rfl)<|Zl (ldR_r one_Lint row ht2 2 rfl (H.ent (i := 2) rfl) rfl)<|Zl (Yi rfl)<|cal cb_slices_Contains_Lint_int (contains_int_ok t2.parts part t2.A t2.cap _ (rd_of_mem H (show memF t2 ∈ _ from by first | exact List.mem_append_right _ (List.mem_map_of_mem (List.mem_of_getElem? ht2)) | simp [List.mem_of_getElem? ht2])) (by omega)) rfl rfl ?_
 rw [htp, decide_eq_true hpt]
 rintro _ w5 ⟨rfl, hb⟩; replace H := H.later hb; clear hb
 refine Zl (not_r rfl)<|Zl (Wb rfl)<|Zn<|ZF rfl<|Zk<|Zs<|Zr<|Zl (Wi rfl)<|Zn<|Zs<|Zb ?_
 refine cw_loop (τ := Nat) [14, 47, 48, 49, 50, 51, 52, 53, 54, 55, 56, 57, 58, 59, 60, 61, 62, 63] (fun k => [(14, .int .i64 (k : Nat))]) (fun k w' => k ≤ os.length ∧ (∀ x ∈ os.take k, x.part < part) ∧ Hp w w' ([(b10, .cells #[.int .i64 0, .int .i64 0, .int .i64 0, .slice none 0 0, .slice none 0 0] T_Group (0, 0)), (b5, .cells #[.int .i64 (ck), .int .i64 (wt), .int .i64 (gn), .slice (some ⟨g, 0, none⟩) ms2.length mC2, .slice oA2 os.length oC2] T_Group (0, 0)), (g, .cells cur T_Member (0, 0))] ++ Lo) ([FRd memL 0 w.heap.size mA ms, FMp 0 w.heap.size ms, FRd offL 0 w.heap.size oA os] ++ ms2.map memF)) (fun k => os.length - k) 0 ⟨by omega, by simp, H⟩ (sl1 rfl) ?_
 rintro k ρ1 w6 ⟨hk, hwh, H⟩
 show CW _ _ _ _ (updL (ovr _ _ ρ1) [(14, .int .i64 (k : Nat))]) w6
 refine Zs<|Zs<|Zr<|Zl (Yi rfl)<|Zl (Zf fd_Group_4 rfl)<|Zl (Zd one_LOffset H 1 rfl rfl rfl)<|Zl (lenS_r len_LOffset rfl) ?_
 refine lwD (lss_r rfl rfl) rfl rfl rfl (fun h51 => ?_) (fun h51 => ?_)
 ·
  obtain ⟨g2, cur2, rfl, rfl, row2⟩ := hoo2.row (by omega)
  obtain ⟨o, ho⟩ : ∃ o, os[k]? = some o := ⟨_, List.getElem?_eq_getElem (by omega)⟩
  refine Zl (Yb rfl)<|ZG<|Zl (Zf fd_Group_4 rfl)<|ZG<|Zl (Zd one_LOffset H 1 rfl rfl rfl)<|ZG<|Zl (Yi rfl)<|ZG<|Zl (ixR_r sl_LOffset rfl rfl (by first | omega | (simp only [List.length_set]; omega)))<|ZG<|Zl (Zf fd_Offset_0 rfl)<|ZG<|Zl (ldR_r one_int row2 ho 0 rfl (H.ent (i := 3) rfl) rfl)<|ZG ?_
  refine Zl (Yi rfl)<|ZG ?_
  refine lwD (lss_r rfl rfl) rfl rfl rfl (fun h60 => ?_) (fun h60 => ?_)
  ·
   refine Zl (Kt rfl rfl)<|Zn<|ZT rfl<|Zk<|Zb<|Zr<|Zl (Yi rfl)<|Zl (add_r rfl rfl (by omega) (by omega))<|Zl (Wi rfl)<|Zn ?_
   exact ⟨k + 1, ⟨by omega, by rw [take_snoc ho]; intro x hx; rcases List.mem_append.1 hx with hx | hx; exact hwh x hx; rw [List.mem_singleton.1 hx]; exact h60, H⟩, sl1 rfl, by repeat (first | exact Agr.refl _ _ | exact agr_ovr | refine agr_upd rfl ?_ | refine agr_updL _ rfl ?_ | refine agr_ovr2 rfl ?_), by show os.length - (k + 1) < os.length - k; omega⟩
  ·
   refine Zl (Kt rfl rfl)<|Zn<|ZF rfl<|Zx<|Zs<|Zs ?_
   have hkl : offAt os part = k := while_at (fun x hx => by simpa using hwh x hx) (fun x hx => by rw [ho] at hx; injection hx with hx; subst hx; simpa using h60) hk
   refine Zr<|Zl (Yi rfl)<|Zl (Zf fd_Group_4 rfl)<|Zl (Zd one_LOffset H 1 rfl rfl rfl)<|Zl (lenS_r len_LOffset rfl) ?_
   refine lwD (lss_r rfl rfl) rfl rfl rfl (fun h68 => ?_) (fun h68 => ?_)
   ·
    refine Zl (Yb rfl)<|ZG<|Zl (Zf fd_Group_4 rfl)<|ZG<|Zl (Zd one_LOffset H 1 rfl rfl rfl)<|ZG<|Zl (Yi rfl)<|ZG<|Zl (ixR_r sl_LOffset rfl rfl (by first | omega | (simp only [List.length_set]; omega)))<|ZG<|Zl (Zf fd_Offset_0 rfl)<|ZG<|Zl (ldR_r one_int row2 ho 0 rfl (H.ent (i := 3) rfl) rfl)<|ZG ?_
    refine Zl (Yi rfl)<|ZG ?_
    refine lwD (eql_r rfl rfl) rfl rfl rfl (fun h77 => ?_) (fun h77 => ?_)
    ·
     refine Zl (Kt rfl rfl)<|Zn<|ZT rfl ?_
     have hput : putOff os part at_ = os.set k { o with at_ := at_ } := by unfold putOff; rw [hkl, ho]; rw [if_pos (show Option.map Off.part (some o) = some part from congrArg some h77)]; subst h77; rfl
     refine Zr<|Zl (Zf fd_Group_4 rfl)<|Zl (Zd one_LOffset H 1 rfl rfl rfl)<|Zl (Yi rfl)<|Zl (Yi rfl)<|Zl (ixR_r sl_LOffset rfl rfl (by first | omega | (simp only [List.length_set]; omega)))<|Zl (Zf fd_Offset_1 rfl)<|stR H 3 ({ o with at_ := at_ }) siz_int row2 ho 1 rfl rfl rfl rfl rfl rfl (by kernel_rfl) fun w8 cur7 row7 H => ?_
     have hs9 : (os.set k ({ o with at_ := at_ }))[k]? = some ({ o with at_ := at_ }) := List.getElem?_set_self (getE ho).1
     refine Zn<|Zs<|Zr<|Zl (Zw agg_Group H 1 rfl rfl rfl)<|stN H 0 (#[.int .i64 (ck), .int .i64 (wt), .int .i64 (gn), .slice (some ⟨g, 0, none⟩) ms2.length mC2, .slice (some ⟨g2, 0, none⟩) os.length oC2]) siz_Group rfl rfl rfl rfl rfl (by kernel_rfl) (by kernel_rfl) fun w10 H =>Zl (Wi rfl)<|Zn<|Zt ?_
     exact finCTn (cs0 := #[.int .i64 (ck), .int .i64 (wt), .int .i64 (gn), .slice (some ⟨g, 0, none⟩) ms2.length mC2, .slice (some ⟨g2, 0, none⟩) os.length oC2]) (v1 := .int .i64 0) rfl agg_Group rfl (H.ent (i := 0) rfl) rfl rfl ⟨⟨ck, wt, gn, ms2, some ⟨g, 0, none⟩, mC2, os.set k { o with at_ := at_ }, some ⟨g2, 0, none⟩, oC2⟩, by unfold Gr.v Gr.c; dsimp only; rw [List.length_set], by unfold Gr.a; dsimp only; rw [hma]; show _ = ({ Gr.a ⟨ck, wt, gn, ms, mA, mC, os, oA, oC⟩ with os := putOff os part at_ } : Gr); rw [hput]; rfl, OwnGr.new (ga := Gr.a ⟨ck, wt, gn, ms2, some ⟨g, 0, none⟩, mC2, os.set k { o with at_ := at_ }, some ⟨g2, 0, none⟩, oC2⟩) ⟨rfl, Row.own row, by dsimp only; rw [List.length_set]; have hO := Row.own (g := g2) (e := T_Offset) row7; rw [List.length_set] at hO; exact hO, hmc2, by dsimp only; rw [List.length_set]; exact hoc2, hpc2, H.forget (.cons _ (.cons _ (List.Sublist.refl _))) (fun f hf => by simp only [List.mem_cons, List.mem_append]; grind)⟩ (by dsimp only; omega) (by dsimp only; rw [← hput]; have := putOff_len os part at_; omega) (few_parts hma hmo)⟩
    ·
     refine Zl (Kt rfl rfl)<|Zn<|ZF rfl ?_
     have hput : putOff os part at_ = os.take k ++ [⟨part, at_⟩] ++ os.drop k := by unfold putOff; rw [hkl]; rw [if_neg (by rw [ho]; intro hx; exact h77 (Option.some.inj hx))]
     refine Zr<|Zl (Zf fd_Group_4 rfl)<|Zl (Zd one_LOffset H 1 rfl rfl rfl)<|Zl (Yi rfl)<|Zl (Yi rfl)<|Zl (Yi rfl)<|Zl (bld_r (cs := #[.int .i64 (part), .int .i64 (at_)]) st_Offset z_Offset (by kernel_rfl))<|bsv (vs := [.agg #[.int .i64 (part), .int .i64 (at_)]]) H sl_LOffset z_Offset rfl rfl rfl rfl rfl rfl fun w11 b91 H =>cal cb_slices_Insert_LOffset_Offset (ins_LOffset_Offset (K := [(b10, .cells #[.int .i64 (0), .int .i64 (0), .int .i64 (0), .slice none 0 0, .slice none 0 0] T_Group (0, 0)), (b5, .cells #[.int .i64 (ck), .int .i64 (wt), .int .i64 (gn), .slice (some ⟨g, 0, none⟩) ms2.length mC2, .slice (some ⟨g2, 0, none⟩) os.length oC2] T_Group (0, 0)), (g, .cells cur T_Member (0, 0))]) (Lt := [(g2, .cells cur2 T_Offset (0, 0))]) (M := []) (x := ⟨part, at_⟩) (i := k) (by rw [List.append_nil]; exact H) hoo2 (by omega) (by omega)) rfl rfl ?_
     rintro _ w12 ⟨A9, c9, L9, rfl, ho9, HI⟩
     replace H : Hp w w12 ([(b91, .cells #[.int .i64 (part), .int .i64 (at_)] T_Offset (0, 0)), (b10, .cells #[.int .i64 (0), .int .i64 (0), .int .i64 (0), .slice none 0 0, .slice none 0 0] T_Group (0, 0)), (b5, .cells #[.int .i64 (ck), .int .i64 (wt), .int .i64 (gn), .slice (some ⟨g, 0, none⟩) ms2.length mC2, .slice (some ⟨g2, 0, none⟩) os.length oC2] T_Group (0, 0)), (g, .cells cur T_Member (0, 0))] ++ L9) ([FRd memL 0 w.heap.size mA ms, FMp 0 w.heap.size ms, FRd offL 0 w.heap.size oA os] ++ ms2.map memF) := by rw [List.append_nil] at HI; exact HI
     clear HI
     have hc9 : (os.take k ++ [(⟨part, at_⟩ : Off)] ++ os.drop k).length ≤ c9 := by obtain ⟨_, _, e, h, _⟩ := ho9.form; injection e with _ _ e; rw [e]; exact h
     refine Zl (Zf fd_Group_4 rfl)<|stN H 2 (#[.int .i64 (ck), .int .i64 (wt), .int .i64 (gn), .slice (some ⟨g, 0, none⟩) ms2.length mC2, .slice A9 ((os.take k ++ [(⟨part, at_⟩ : Off)] ++ os.drop k).length) c9]) siz_LOffset rfl rfl rfl rfl rfl (by kernel_rfl) (by kernel_rfl) fun w13 H =>Zn<|Zs<|Zr<|Zl (Zw agg_Group H 2 rfl rfl rfl)<|stN H 1 (#[.int .i64 (ck), .int .i64 (wt), .int .i64 (gn), .slice (some ⟨g, 0, none⟩) ms2.length mC2, .slice A9 ((os.take k ++ [(⟨part, at_⟩ : Off)] ++ os.drop k).length) c9]) siz_Group rfl rfl rfl rfl rfl (by kernel_rfl) (by kernel_rfl) fun w14 H =>Zl (Wi rfl)<|Zn<|Zt ?_
     exact finCTn (cs0 := #[.int .i64 (ck), .int .i64 (wt), .int .i64 (gn), .slice (some ⟨g, 0, none⟩) ms2.length mC2, .slice A9 (((os.take k ++ [(⟨part, at_⟩ : Off)] ++ os.drop k)).length) c9]) (v1 := .int .i64 0) rfl agg_Group rfl (H.ent (i := 1) rfl) rfl rfl ⟨⟨ck, wt, gn, ms2, some ⟨g, 0, none⟩, mC2, os.take k ++ [(⟨part, at_⟩ : Off)] ++ os.drop k, A9, c9⟩, rfl, by unfold Gr.a; dsimp only; rw [hma]; show _ = ({ Gr.a ⟨ck, wt, gn, ms, mA, mC, os, oA, oC⟩ with os := putOff os part at_ } : Gr); rw [hput]; rfl, OwnGr.new (ga := Gr.a ⟨ck, wt, gn, ms2, some ⟨g, 0, none⟩, mC2, os.take k ++ [(⟨part, at_⟩ : Off)] ++ os.drop k, A9, c9⟩) ⟨rfl, Row.own row, ho9, hmc2, hc9, hpc2, H.forget (.cons _ (.cons _ (.cons _ (List.Sublist.refl _)))) (fun f hf => by simp only [List.mem_cons, List.mem_append]; grind)⟩ (by dsimp only; omega) (by dsimp only; rw [← hput]; have := putOff_len os part at_; omega) (few_parts hma hmo)⟩
   ·
    refine Zl (Yb rfl)<|ZN<|ZN<|ZN<|ZN<|ZN<|ZN<|ZN<|ZN<|Zl (Kf rfl rfl)<|Zn<|ZF rfl ?_
    have hput : putOff os part at_ = os.take k ++ [⟨part, at_⟩] ++ os.drop k := by unfold putOff; rw [hkl]; rw [if_neg (by rw [List.getElem?_eq_none (by omega)]; simp)]
    refine Zr<|Zl (Zf fd_Group_4 rfl)<|Zl (Zd one_LOffset H 1 rfl rfl rfl)<|Zl (Yi rfl)<|Zl (Yi rfl)<|Zl (Yi rfl)<|Zl (bld_r (cs := #[.int .i64 (part), .int .i64 (at_)]) st_Offset z_Offset (by kernel_rfl))<|bsv (vs := [.agg #[.int .i64 (part), .int .i64 (at_)]]) H sl_LOffset z_Offset rfl rfl rfl rfl rfl rfl fun w15 b91 H =>cal cb_slices_Insert_LOffset_Offset (ins_LOffset_Offset (K := [(b10, .cells #[.int .i64 (0), .int .i64 (0), .int .i64 (0), .slice none 0 0, .slice none 0 0] T_Group (0, 0)), (b5, .cells #[.int .i64 (ck), .int .i64 (wt), .int .i64 (gn), .slice (some ⟨g, 0, none⟩) ms2.length mC2, .slice (some ⟨g2, 0, none⟩) os.length oC2] T_Group (0, 0)), (g, .cells cur T_Member (0, 0))]) (Lt := [(g2, .cells cur2 T_Offset (0, 0))]) (M := []) (x := ⟨part, at_⟩) (i := k) (by rw [List.append_nil]; exact H) hoo2 (by omega) (by omega)) rfl rfl ?_
    rintro _ w16 ⟨A9, c9, L9, rfl, ho9, HI⟩
    replace H : Hp w w16 ([(b91, .cells #[.int .i64 (part), .int .i64 (at_)] T_Offset (0, 0)), (b10, .cells #[.int .i64 (0), .int .i64 (0), .int .i64 (0), .slice none 0 0, .slice none 0 0] T_Group (0, 0)), (b5, .cells #[.int .i64 (ck), .int .i64 (wt), .int .i64 (gn), .slice (some ⟨g, 0, none⟩) ms2.length mC2, .slice (some ⟨g2, 0, none⟩) os.length oC2] T_Group (0, 0)), (g, .cells cur T_Member (0, 0))] ++ L9) ([FRd memL 0 w.heap.size mA ms, FMp 0 w.heap.size ms, FRd offL 0 w.heap.size oA os] ++ ms2.map memF) := by rw [List.append_nil] at HI; exact HI
    clear HI
    have hc9 : (os.take k ++ [(⟨part, at_⟩ : Off)] ++ os.drop k).length ≤ c9 := by obtain ⟨_, _, e, h, _⟩ := ho9.form; injection e with _ _ e; rw [e]; exact h
    refine Zl (Zf fd_Group_4 rfl)<|stN H 2 (#[.int .i64 (ck), .int .i64 (wt), .int .i64 (gn), .slice (some ⟨g, 0, none⟩) ms2.length mC2, .slice A9 ((os.take k ++ [(⟨part, at_⟩ : Off)] ++ os.drop k).length) c9]) siz_LOffset rfl rfl rfl rfl rfl (by kernel_rfl) (by kernel_rfl) fun w17 H =>Zn<|Zs<|Zr<|Zl (Zw agg_Group H 2 rfl rfl rfl)<|stN H 1 (#[.int .i64 (ck), .int .i64 (wt), .int .i64 (gn), .slice (some ⟨g, 0, none⟩) ms2.length mC2, .slice A9 ((os.take k ++ [(⟨part, at_⟩ : Off)] ++ os.drop k).length) c9]) siz_Group rfl rfl rfl rfl rfl (by kernel_rfl) (by kernel_rfl) fun w18 H =>Zl (Wi rfl)<|Zn<|Zt ?_
    exact finCTn (cs0 := #[.int .i64 (ck), .int .i64 (wt), .int .i64 (gn), .slice (some ⟨g, 0, none⟩) ms2.length mC2, .slice A9 (((os.take k ++ [(⟨part, at_⟩ : Off)] ++ os.drop k)).length) c9]) (v1 := .int .i64 0) rfl agg_Group rfl (H.ent (i := 1) rfl) rfl rfl ⟨⟨ck, wt, gn, ms2, some ⟨g, 0, none⟩, mC2, os.take k ++ [(⟨part, at_⟩ : Off)] ++ os.drop k, A9, c9⟩, rfl, by unfold Gr.a; dsimp only; rw [hma]; show _ = ({ Gr.a ⟨ck, wt, gn, ms, mA, mC, os, oA, oC⟩ with os := putOff os part at_ } : Gr); rw [hput]; rfl, OwnGr.new (ga := Gr.a ⟨ck, wt, gn, ms2, some ⟨g, 0, none⟩, mC2, os.take k ++ [(⟨part, at_⟩ : Off)] ++ os.drop k, A9, c9⟩) ⟨rfl, Row.own row, ho9, hmc2, hc9, hpc2, H.forget (.cons _ (.cons _ (.cons _ (List.Sublist.refl _)))) (fun f hf => by simp only [List.mem_cons, List.mem_append]; grind)⟩ (by dsimp only; omega) (by dsimp only; rw [← hput]; have := putOff_len os part at_; omega) (few_parts hma hmo)⟩
 ·
  refine Zl (Yb rfl)<|ZN<|ZN<|ZN<|ZN<|ZN<|ZN<|ZN<|ZN<|Zl (Kf rfl rfl)<|Zn<|ZF rfl<|Zx<|Zs ?_
  refine Zs ?_
  have hkl : offAt os part = k := while_at (fun x hx => by simpa using hwh x hx) (fun x hx => absurd (getE hx).1 (by omega)) hk
  refine Zr<|Zl (Yi rfl)<|Zl (Zf fd_Group_4 rfl)<|Zl (Zd one_LOffset H 1 rfl rfl rfl)<|Zl (lenS_r len_LOffset rfl) ?_
  refine lwD (lss_r rfl rfl) rfl rfl rfl (fun h68 => ?_) (fun h68 => ?_)
  ·
   obtain ⟨g2, cur2, rfl, rfl, row2⟩ := hoo2.row (by omega)
   obtain ⟨o, ho⟩ : ∃ o, os[k]? = some o := ⟨_, List.getElem?_eq_getElem (by omega)⟩
   refine Zl (Yb rfl)<|ZG<|Zl (Zf fd_Group_4 rfl)<|ZG<|Zl (Zd one_LOffset H 1 rfl rfl rfl)<|ZG<|Zl (Yi rfl)<|ZG<|Zl (ixR_r sl_LOffset rfl rfl (by first | omega | (simp only [List.length_set]; omega)))<|ZG<|Zl (Zf fd_Offset_0 rfl)<|ZG<|Zl (ldR_r one_int row2 ho 0 rfl (H.ent (i := 3) rfl) rfl)<|ZG ?_
   refine Zl (Yi rfl)<|ZG ?_
   refine lwD (eql_r rfl rfl) rfl rfl rfl (fun h77 => ?_) (fun h77 => ?_)
   ·
    refine Zl (Kt rfl rfl)<|Zn<|ZT rfl ?_
    have hput : putOff os part at_ = os.set k { o with at_ := at_ } := by unfold putOff; rw [hkl, ho]; rw [if_pos (show Option.map Off.part (some o) = some part from congrArg some h77)]; subst h77; rfl
    refine Zr<|Zl (Zf fd_Group_4 rfl)<|Zl (Zd one_LOffset H 1 rfl rfl rfl)<|Zl (Yi rfl)<|Zl (Yi rfl)<|Zl (ixR_r sl_LOffset rfl rfl (by first | omega | (simp only [List.length_set]; omega)))<|Zl (Zf fd_Offset_1 rfl)<|stR H 3 ({ o with at_ := at_ }) siz_int row2 ho 1 rfl rfl rfl rfl rfl rfl (by kernel_rfl) fun w20 cur19 row19 H => ?_
    have hs21 : (os.set k ({ o with at_ := at_ }))[k]? = some ({ o with at_ := at_ }) := List.getElem?_set_self (getE ho).1
    refine Zn<|Zs<|Zr<|Zl (Zw agg_Group H 1 rfl rfl rfl)<|stN H 0 (#[.int .i64 (ck), .int .i64 (wt), .int .i64 (gn), .slice (some ⟨g, 0, none⟩) ms2.length mC2, .slice (some ⟨g2, 0, none⟩) os.length oC2]) siz_Group rfl rfl rfl rfl rfl (by kernel_rfl) (by kernel_rfl) fun w22 H =>Zl (Wi rfl)<|Zn<|Zt ?_
    exact finCTn (cs0 := #[.int .i64 (ck), .int .i64 (wt), .int .i64 (gn), .slice (some ⟨g, 0, none⟩) ms2.length mC2, .slice (some ⟨g2, 0, none⟩) os.length oC2]) (v1 := .int .i64 0) rfl agg_Group rfl (H.ent (i := 0) rfl) rfl rfl ⟨⟨ck, wt, gn, ms2, some ⟨g, 0, none⟩, mC2, os.set k { o with at_ := at_ }, some ⟨g2, 0, none⟩, oC2⟩, by unfold Gr.v Gr.c; dsimp only; rw [List.length_set], by unfold Gr.a; dsimp only; rw [hma]; show _ = ({ Gr.a ⟨ck, wt, gn, ms, mA, mC, os, oA, oC⟩ with os := putOff os part at_ } : Gr); rw [hput]; rfl, OwnGr.new (ga := Gr.a ⟨ck, wt, gn, ms2, some ⟨g, 0, none⟩, mC2, os.set k { o with at_ := at_ }, some ⟨g2, 0, none⟩, oC2⟩) ⟨rfl, Row.own row, by dsimp only; rw [List.length_set]; have hO := Row.own (g := g2) (e := T_Offset) row19; rw [List.length_set] at hO; exact hO, hmc2, by dsimp only; rw [List.length_set]; exact hoc2, hpc2, H.forget (.cons _ (.cons _ (List.Sublist.refl _))) (fun f hf => by simp only [List.mem_cons, List.mem_append]; grind)⟩ (by dsimp only; omega) (by dsimp only; rw [← hput]; have := putOff_len os part at_; omega) (few_parts hma hmo)⟩
   ·
    refine Zl (Kt rfl rfl)<|Zn<|ZF rfl ?_
    have hput : putOff os part at_ = os.take k ++ [⟨part, at_⟩] ++ os.drop k := by unfold putOff; rw [hkl]; rw [if_neg (by rw [ho]; intro hx; exact h77 (Option.some.inj hx))]
    refine Zr<|Zl (Zf fd_Group_4 rfl)<|Zl (Zd one_LOffset H 1 rfl rfl rfl)<|Zl (Yi rfl)<|Zl (Yi rfl)<|Zl (Yi rfl)<|Zl (bld_r (cs := #[.int .i64 (part), .int .i64 (at_)]) st_Offset z_Offset (by kernel_rfl))<|bsv (vs := [.agg #[.int .i64 (part), .int .i64 (at_)]]) H sl_LOffset z_Offset rfl rfl rfl rfl rfl rfl fun w23 b91 H =>cal cb_slices_Insert_LOffset_Offset (ins_LOffset_Offset (K := [(b10, .cells #[.int .i64 (0), .int .i64 (0), .int .i64 (0), .slice none 0 0, .slice none 0 0] T_Group (0, 0)), (b5, .cells #[.int .i64 (ck), .int .i64 (wt), .int .i64 (gn), .slice (some ⟨g, 0, none⟩) ms2.length mC2, .slice (some ⟨g2, 0, none⟩) os.length oC2] T_Group (0, 0)), (g, .cells cur T_Member (0, 0))]) (Lt := [(g2, .cells cur2 T_Offset (0, 0))]) (M := []) (x := ⟨part, at_⟩) (i := k) (by rw [List.append_nil]; exact H) hoo2 (by omega) (by omega)) rfl rfl ?_
    rintro _ w24 ⟨A9, c9, L9, rfl, ho9, HI⟩
    replace H : Hp w w24 ([(b91, .cells #[.int .i64 (part), .int .i64 (at_)] T_Offset (0, 0)), (b10, .cells #[.int .i64 (0), .int .i64 (0), .int .i64 (0), .slice none 0 0, .slice none 0 0] T_Group (0, 0)), (b5, .cells #[.int .i64 (ck), .int .i64 (wt), .int .i64 (gn), .slice (some ⟨g, 0, none⟩) ms2.length mC2, .slice (some ⟨g2, 0, none⟩) os.length oC2] T_Group (0, 0)), (g, .cells cur T_Member (0, 0))] ++ L9) ([FRd memL 0 w.heap.size mA ms, FMp 0 w.heap.size ms, FRd offL 0 w.heap.size oA os] ++ ms2.map memF) := by rw [List.append_nil] at HI; exact HI
    clear HI
    have hc9 : (os.take k ++ [(⟨part, at_⟩ : Off)] ++ os.drop k).length ≤ c9 := by obtain ⟨_, _, e, h, _⟩ := ho9.form; injection e with _ _ e; rw [e]; exact h
    refine Zl (Zf fd_Group_4 rfl)<|stN H 2 (#[.int .i64 (ck), .int .i64 (wt), .int .i64 (gn), .slice (some ⟨g, 0, none⟩) ms2.length mC2, .slice A9 ((os.take k ++ [(⟨part, at_⟩ : Off)] ++ os.drop k).length) c9]) siz_LOffset rfl rfl rfl rfl rfl (by kernel_rfl) (by kernel_rfl) fun w25 H =>Zn<|Zs<|Zr<|Zl (Zw agg_Group H 2 rfl rfl rfl)<|stN H 1 (#[.int .i64 (ck), .int .i64 (wt), .int .i64 (gn), .slice (some ⟨g, 0, none⟩) ms2.length mC2, .slice A9 ((os.take k ++ [(⟨part, at_⟩ : Off)] ++ os.drop k).length) c9]) siz_Group rfl rfl rfl rfl rfl (by kernel_rfl) (by kernel_rfl) fun w26 H =>Zl (Wi rfl)<|Zn<|Zt ?_
    exact finCTn (cs0 := #[.int .i64 (ck), .int .i64 (wt), .int .i64 (gn), .slice (some ⟨g, 0, none⟩) ms2.length mC2, .slice A9 (((os.take k ++ [(⟨part, at_⟩ : Off)] ++ os.drop k)).length) c9]) (v1 := .int .i64 0) rfl agg_Group rfl (H.ent (i := 1) rfl) rfl rfl ⟨⟨ck, wt, gn, ms2, some ⟨g, 0, none⟩, mC2, os.take k ++ [(⟨part, at_⟩ : Off)] ++ os.drop k, A9, c9⟩, rfl, by unfold Gr.a; dsimp only; rw [hma]; show _ = ({ Gr.a ⟨ck, wt, gn, ms, mA, mC, os, oA, oC⟩ with os := putOff os part at_ } : Gr); rw [hput]; rfl, OwnGr.new (ga := Gr.a ⟨ck, wt, gn, ms2, some ⟨g, 0, none⟩, mC2, os.take k ++ [(⟨part, at_⟩ : Off)] ++ os.drop k, A9, c9⟩) ⟨rfl, Row.own row, ho9, hmc2, hc9, hpc2, H.forget (.cons _ (.cons _ (.cons _ (List.Sublist.refl _)))) (fun f hf => by simp only [List.mem_cons, List.mem_append]; grind)⟩ (by dsimp only; omega) (by dsimp only; rw [← hput]; have := putOff_len os part at_; omega) (few_parts hma hmo)⟩
  ·
   refine Zl (Yb rfl)<|ZN<|ZN<|ZN<|ZN<|ZN<|ZN<|ZN<|ZN<|Zl (Kf rfl rfl)<|Zn<|ZF rfl ?_
   have hput : putOff os part at_ = os.take k ++ [⟨part, at_⟩] ++ os.drop k := by unfold putOff; rw [hkl]; rw [if_neg (by rw [List.getElem?_eq_none (by omega)]; simp)]
   refine Zr<|Zl (Zf fd_Group_4 rfl)<|Zl (Zd one_LOffset H 1 rfl rfl rfl)<|Zl (Yi rfl)<|Zl (Yi rfl)<|Zl (Yi rfl)<|Zl (bld_r (cs := #[.int .i64 (part), .int .i64 (at_)]) st_Offset z_Offset (by kernel_rfl))<|bsv (vs := [.agg #[.int .i64 (part), .int .i64 (at_)]]) H sl_LOffset z_Offset rfl rfl rfl rfl rfl rfl fun w27 b91 H =>cal cb_slices_Insert_LOffset_Offset (ins_LOffset_Offset (K := [(b10, .cells #[.int .i64 (0), .int .i64 (0), .int .i64 (0), .slice none 0 0, .slice none 0 0] T_Group (0, 0)), (b5, .cells #[.int .i64 (ck), .int .i64 (wt), .int .i64 (gn), .slice (some ⟨g, 0, none⟩) ms2.length mC2, .slice oA2 os.length oC2] T_Group (0, 0)), (g, .cells cur T_Member (0, 0))]) (Lt := Lo) (M := []) (x := ⟨part, at_⟩) (i := k) (by rw [List.append_nil]; exact H) hoo2 (by omega) (by omega)) rfl rfl ?_
   rintro _ w28 ⟨A9, c9, L9, rfl, ho9, HI⟩
   replace H : Hp w w28 ([(b91, .cells #[.int .i64 (part), .int .i64 (at_)] T_Offset (0, 0)), (b10, .cells #[.int .i64 (0), .int .i64 (0), .int .i64 (0), .slice none 0 0, .slice none 0 0] T_Group (0, 0)), (b5, .cells #[.int .i64 (ck), .int .i64 (wt), .int .i64 (gn), .slice (some ⟨g, 0, none⟩) ms2.length mC2, .slice oA2 os.length oC2] T_Group (0, 0)), (g, .cells cur T_Member (0, 0))] ++ L9) ([FRd memL 0 w.heap.size mA ms, FMp 0 w.heap.size ms, FRd offL 0 w.heap.size oA os] ++ ms2.map memF) := by rw [List.append_nil] at HI; exact HI
   clear HI
   have hc9 : (os.take k ++ [(⟨part, at_⟩ : Off)] ++ os.drop k).length ≤ c9 := by obtain ⟨_, _, e, h, _⟩ := ho9.form; injection e with _ _ e; rw [e]; exact h
   refine Zl (Zf fd_Group_4 rfl)<|stN H 2 (#[.int .i64 (ck), .int .i64 (wt), .int .i64 (gn), .slice (some ⟨g, 0, none⟩) ms2.length mC2, .slice A9 ((os.take k ++ [(⟨part, at_⟩ : Off)] ++ os.drop k).length) c9]) siz_LOffset rfl rfl rfl rfl rfl (by kernel_rfl) (by kernel_rfl) fun w29 H =>Zn<|Zs<|Zr<|Zl (Zw agg_Group H 2 rfl rfl rfl)<|stN H 1 (#[.int .i64 (ck), .int .i64 (wt), .int .i64 (gn), .slice (some ⟨g, 0, none⟩) ms2.length mC2, .slice A9 ((os.take k ++ [(⟨part, at_⟩ : Off)] ++ os.drop k).length) c9]) siz_Group rfl rfl rfl rfl rfl (by kernel_rfl) (by kernel_rfl) fun w30 H =>Zl (Wi rfl)<|Zn<|Zt ?_
   exact finCTn (cs0 := #[.int .i64 (ck), .int .i64 (wt), .int .i64 (gn), .slice (some ⟨g, 0, none⟩) ms2.length mC2, .slice A9 (((os.take k ++ [(⟨part, at_⟩ : Off)] ++ os.drop k)).length) c9]) (v1 := .int .i64 0) rfl agg_Group rfl (H.ent (i := 1) rfl) rfl rfl ⟨⟨ck, wt, gn, ms2, some ⟨g, 0, none⟩, mC2, os.take k ++ [(⟨part, at_⟩ : Off)] ++ os.drop k, A9, c9⟩, rfl, by unfold Gr.a; dsimp only; rw [hma]; show _ = ({ Gr.a ⟨ck, wt, gn, ms, mA, mC, os, oA, oC⟩ with os := putOff os part at_ } : Gr); rw [hput]; rfl, OwnGr.new (ga := Gr.a ⟨ck, wt, gn, ms2, some ⟨g, 0, none⟩, mC2, os.take k ++ [(⟨part, at_⟩ : Off)] ++ os.drop k, A9, c9⟩) ⟨rfl, Row.own row, ho9, hmc2, hc9, hpc2, H.forget (.cons _ (.cons _ (.cons _ (List.Sublist.refl _)))) (fun f hf => by simp only [List.mem_cons, List.mem_append]; grind)⟩ (by dsimp only; omega) (by dsimp only; rw [← hput]; have := putOff_len os part at_; omega) (few_parts hma hmo)⟩
end Go.Proofs.Ytemnchkebhclpaa
end
