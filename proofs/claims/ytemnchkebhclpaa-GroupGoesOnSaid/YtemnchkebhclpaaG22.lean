/- G22: a part of the proofs over this seat: what stands in its theorems holds for every input that they name. -/
import Derived.Test.YtemnchkebhclpaaG0B
import Derived.Test.YtemnchkebhclpaaEngZ
open Go.Eng renaming lw_nil → Zn, cw_seq → Zs, cw_region → Zr, cw_skip → Zk, cw_ret → Zt, cw_block → Zb, cw_exit → Zx, mvI_r → Yi, mvB_r → Yb, mvS_r → Ys, mvP_r → Yp, mvT_r → Yt, mvU_r → Yu, mvA_r → Ya, asI_r → Wi, asB_r → Wb, asS_r → Ws, asP_r → Wp, asT_r → Wt, fad_r → Zf, exI_r → Xi, exA_r → Xa, exB_r → Xb, exS_r → Xs, pkTB_r → Kt, pkFB_r → Kf, cw_true → ZT, cw_false → ZF
namespace Go.Proofs.Ytemnchkebhclpaa
open Go Go.Eng Go.RowKit
set_option linter.unusedSimpArgs false
/-- nothing of it is to be read -/
def grT : Deep Gr := ⟨fun _ _ _ _ => True, fun _ _ _ _ _ _ h => h, fun _ _ _ _ _ _ h _ _ => h⟩
theorem GrI.find {P : ByteArray → Prop} {wt : Int} {p k : Nat} {g : Gr} (h : GrI P wt p k g) {t : Mem} (ht : t ∈ g.ms) : ∃ i, findM g.a t.name = some (i, t.a) := by
 obtain ⟨i, hi⟩ := findM_mem (grOk_iff2.1 h.ok).2.1.2 ht
 exact ⟨i, findM_someA hi⟩
theorem goes_store {P : ByteArray → Prop} {wt : Int} {p k n : Nat} {g : Gr} {t : Mem} {d : Int} (h : GrI P wt p k g) (ht : t ∈ g.ms) (hd : d ∈ t.parts) (hn : n ≤ 400) : storeS g.a t.name g.gen d n = ({ g.a with os := putOff g.os d n }, 0) := by
 obtain ⟨i, hf⟩ := h.find ht
 unfold storeS
 rw [hf]
 dsimp only
 rw [if_pos (show g.a.gen = g.gen from rfl), if_neg (by omega), if_pos (show d ∈ t.a.parts from hd)]
 rfl
theorem goes_find {P : ByteArray → Prop} {wt : Int} {p k n : Nat} {g q : Gr} {t : Mem} {d : Int} (h : GrI P wt p k g) (ht : t ∈ g.ms) (hq : q.a = { g.a with os := putOff g.os d n }) : ∃ i, findM q.a t.name = some (i, t.a) := by
 obtain ⟨i, hf⟩ := h.find ht
 exact ⟨i, by rw [hq]; exact hf⟩
theorem goes_on {P : ByteArray → Prop} {wt : Int} {p k n : Nat} {g q : Gr} {t : Mem} {d : Int} (h : GrI P wt p k g) (ht : t ∈ g.ms) (hd : d ∈ t.parts) (hq : q.a = { g.a with os := putOff g.os d n }) : whereS q.a t.name d = ((n : Int), 0) ∧ storeS q.a t.name (q.gen - 1) d n = (zGr, 10) ∧ storeS q.a t.name q.gen d 401 = (zGr, 2) ∧ (leaveS q.a t.name 4).2 = 0 ∧ (leaveS q.a t.name 4).1.os = putOff g.os d n := by
 obtain ⟨i, hf⟩ := goes_find h ht hq
 have ho : q.a.os = putOff g.os d n := by rw [hq]
 unfold whereS storeS leaveS
 rw [hf]
 dsimp only
 rw [if_pos (show d ∈ t.a.parts from hd), if_neg (show ¬ q.a.gen = q.gen - 1 by show ¬ q.gen = q.gen - 1; omega), if_pos (show q.a.gen = q.gen from rfl), if_pos (by decide), ho, whereA_put]
 exact ⟨rfl, rfl, rfl, rfl, ho⟩
theorem goes_left {P : ByteArray → Prop} {wt : Int} {p k n : Nat} {v : Gr} {y : Mem} {os : List Off} {d : Int} (h : GrI P wt p k v) (ho : v.a.os = putOff os d n) (hy : y ∈ v.ms) (hd : d ∈ y.parts) : whereS v.a y.name d = ((n : Int), 0) := by
 obtain ⟨i, hf⟩ := h.find hy
 unfold whereS
 rw [hf]
 dsimp only
 rw [if_pos (show d ∈ y.a.parts from hd), ho, whereA_put]
set_option maxHeartbeats 4000000 in
set_option maxRecDepth 10000 in
theorem groupGoesOn_ok (l : List Raw) (A : Option Addr) (c0 : Nat) (n_ : Int) (w : World) (hr : Rd rawL 0 w.heap.size A l w) (hok : ∀ r ∈ l, r.ok) (hl : l.length ≤ 9223372036854775807) (hn : i64 n_) : Ret Try.prog i_tailracekeep_GroupGoesOn [.slice A l.length c0, .int .i64 n_] w fun v w2 => v = .bool true ∧ Below w.heap.size w w2 := by
 refine ret_of fn_tailracekeep_GroupGoesOn rfl rfl ?_
 have H := Hp.startRd hr
 refine Zs<|Zr<|Zl (Wb rfl)<|Zn<|Zs<|Zs<|Zr<|cal cb_tailracekeep_groupTells (groupTells_ok _) rfl rfl ?_
 rintro _ w1 ⟨rfl, hb⟩; replace H := H.later hb; clear hb
 refine Zl (not_r rfl)<|Zn<|ZF rfl<|Zk<|Zs<|Zr<|Zl (Ys rfl)<|cal cb_tailracekeep_grouped (grouped_ok l A c0 4 40 _ (H.rd0 0 rfl) hok hl (by omega) (by omega)) rfl rfl ?_
 rintro _ w2 ⟨g, rfl, hgi, hng⟩; replace H := H.learn hng.2 (FGr w1.heap.size w2.heap.size g) hng.1 (Nat.le_refl _) (Nat.le_refl _); clear hng; replace H := Hp.grRow H 0 rfl
 refine Zl (Yu rfl)<|Zl (Xa rfl rfl)<|Zl (Xb rfl rfl)<|alo H z_Group rfl fun w3 b5 H =>stN H 0 (#[.int .i64 (g.clock), .int .i64 (g.wait), .int .i64 (g.gen), .slice g.mA g.ms.length g.mC, .slice g.oA g.os.length g.oC]) siz_Group rfl rfl rfl rfl rfl (by kernel_rfl) (by kernel_rfl) fun w4 H =>Zl (Wb rfl)<|Zn<|Zs<|Zs<|Zr<|Zl (Yb rfl)<|Zl (not_r rfl)<|Zl (Yb rfl)<|ZG ?_
 refine Zl (Zf fd_Group_3 rfl)<|ZG<|Zl (Zd one_LMember H 0 rfl rfl rfl)<|ZG<|Zl (lenS_r len_LMember rfl)<|ZG ?_
 refine lwD (eql_r rfl rfl) rfl rfl rfl (fun h35 => ?_) (fun h35 => ?_)
 ·
  refine Zl (Kf rfl rfl)<|Zn<|ZT rfl<|Zs<|Zr<|Zl (Yb rfl)<|Zl (Wb rfl)<|Zn<|Zt ?_
  exact fin1 (v := .bool true) rfl rfl ⟨rfl, H.below⟩
 ·
  refine Zl (Kf rfl rfl)<|Zn<|ZF rfl<|Zk<|Zs ?_
  obtain ⟨t, ht⟩ : ∃ t, g.ms[0]? = some t := ⟨_, List.getElem?_eq_getElem (by omega)⟩
  refine Zr<|Zl (Zf fd_Group_3 rfl)<|Zl (Zd one_LMember H 0 rfl rfl rfl)<|ixF (k := 0) H 0 rfl sl_LMember rfl rfl (by omega) (by omega) rfl fun bq5 o5 x5 e5 => ?_
  obtain rfl : t = x5 := by have := e5.at_; rw [ht] at this; exact Option.some.inj this
  refine Zl (ldA_r (xs := Mem.c t) agg_Member rfl rfl e5.cl)<|alo H z_Member rfl fun w6 b7 H =>stN H 0 (#[.string (t.name), .int .i64 (t.heard), .slice t.A t.parts.length t.cap]) siz_Member rfl rfl rfl rfl rfl (by kernel_rfl) (by kernel_rfl) fun w7 H =>Zn<|Zs<|Zs ?_
  have htm := List.mem_of_getElem? ht
  have hnt := (hgi.mems t htm).1
  replace H := Hp.grParts H 1 rfl htm
  refine Zr<|Zl (Zf fd_Member_2 rfl)<|Zl (Zd one_Lint H 0 rfl rfl rfl)<|Zl (lenS_r len_Lint rfl) ?_
  refine lwD (eql_r rfl rfl) rfl rfl rfl (fun h45 => ?_) (fun h45 => ?_)
  ·
   refine Zn<|ZT rfl<|Zs<|Zr<|Zl (Wb rfl)<|Zn<|Zt ?_
   exact fin1 rfl rfl ⟨rfl, H.below⟩
  ·
   refine Zn<|ZF rfl<|Zk<|Zs ?_
   obtain ⟨d, hd⟩ : ∃ d, t.parts[0]? = some d := ⟨_, List.getElem?_eq_getElem (by omega)⟩
   have hdm := List.mem_of_getElem? hd
   refine Zr<|Zl (Yi rfl)<|cal cb_tailracekeep_picked (picked_ok n_ (401) _ hn.1 hn.2 (by omega) (by omega)) rfl rfl ?_
   rintro _ w8 ⟨rfl, hb⟩; replace H := H.later hb; clear hb
   have hpk := pk_lt n_ (show 0 < 401 by omega)
   obtain ⟨k, hkd⟩ : ∃ k, pk n_ 401 = k := ⟨_, rfl⟩
   rw [hkd] at hpk ⊢
   refine Zl (Wi rfl)<|Zn<|Zs ?_
   have hS1 := goes_store (n := k) hgi htm hdm (by omega)
     
   refine cw_draw mixed [0, 1, 2, 3, 4, 5, 6, 7, 8, 9, 10, 11, 12, 13] [14, 15] [10] [1, 3, 5, 7, 9, 11, 12, 13] (sp [(10, Sp.deep w8.heap.size grD (fun g : Gr => g.c.toArray) (fun cs => .tuple #[.agg cs, .int .i64 (storeS g.a t.name g.gen d (k : Nat)).2]) (fun cq : Gr => cq.a = (storeS g.a t.name g.gen d (k : Nat)).1))]) (by kernel_rfl) (by kernel_rfl) (by kernel_rfl) (by kernel_rfl) (fun _ _ _ h => h) (sp_st _) ?_
   refine aw rfl rfl rfl rfl rfl (fun w' hw' => ldW_r agg_Group rfl ((H.later hw').ent (i := 1) rfl) rfl)<|aw rfl rfl rfl rfl rfl (fun w' hw' => Zf fd_Member_0 rfl)<|aw rfl rfl rfl rfl rfl (fun w' hw' => ld_r one_string rfl (cellE ((H.later hw').ent (i := 0) rfl) rfl))<|aw rfl rfl rfl rfl rfl (fun w' hw' => Zf fd_Group_2 rfl)<|aw rfl rfl rfl rfl rfl (fun w' hw' => ld_r one_int rfl (cellE ((H.later hw').ent (i := 1) rfl) rfl))<|aw rfl rfl rfl rfl rfl (fun w' hw' => Zf fd_Member_2 rfl)<|aw rfl rfl rfl rfl rfl (fun w' hw' => ld_r one_Lint rfl (cellE ((H.later hw').ent (i := 0) rfl) rfl))<|awIxF (k := 0) H 0 rfl rfl rfl rfl rfl sl_Lint rfl rfl (by omega) (by omega) fun bq9 o9 x9 e9 => ?_
   obtain rfl : d = x9 := by have := e9.at_; rw [hd] at this; exact Option.some.inj this
   refine aw rfl rfl rfl rfl rfl (fun w' hw' => ld_r one_int rfl (e9.later hw' 0 _ rfl))<|aw rfl rfl rfl rfl rfl (fun w' hw' => Yi rfl)<|awDeep (gv := (fun cs => .tuple #[.agg cs, .int .i64 (storeS g.a t.name g.gen d (k : Nat)).2])) cb_group_Store rfl rfl rfl rfl rfl (fun w' hw' => hw'.size) (fun w' hw' => storeSc_ok g t.name g.gen d (k : Nat) w' (Hp.gr (H.later hw') 2 rfl) hgi.ok hnt (by omega)) rfl fun cs59 =>aw rfl rfl rfl rfl rfl (fun w' hw' => Yu rfl)<|aw rfl rfl rfl rfl rfl (fun w' hw' => Xa rfl rfl)<|aw rfl rfl rfl rfl rfl (fun w' hw' => Xi rfl rfl)<|aw_nil ?_
   intro w10 hw' hF
   obtain ⟨hF, q, eq, haq, hrd59⟩ := hF; cases eq
   replace H := H.learn hw' (FGr w8.heap.size w10.heap.size q) hrd59 (Nat.le_refl _) (Nat.le_refl _)
   clear hw' hF
   refine stN H 1 (#[.int .i64 (q.clock), .int .i64 (q.wait), .int .i64 (q.gen), .slice q.mA q.ms.length q.mC, .slice q.oA q.os.length q.oC]) siz_Group rfl rfl rfl rfl rfl (by kernel_rfl) (by kernel_rfl) fun w11 H =>Zl (Wi rfl)<|Zn<|Zs ?_
     
   have hqi := GrI.of_a (haq ▸ hgi.a.store (s := t.name) (gn := g.gen) (part := d) (at_ := (k : Nat)) (by omega) (by rw [hS1]))
   rw [hS1] at haq
   have hO := goes_on hgi htm hdm haq
   have hqg := hqi.gen
   have hqg0 := (grOk_iff2.1 hqi.ok).1.2.2.2.1.1
   refine cw_draw mixed [0, 1, 2, 3, 4, 5, 6, 7, 8, 9, 10, 11, 12] [] [7] [1, 3, 5, 8, 9, 10, 11, 12] (sp [(7, Sp.one (.tuple #[.int .i64 (whereS q.a t.name d).1, .int .i64 (whereS q.a t.name d).2]))]) (by kernel_rfl) (by kernel_rfl) (by kernel_rfl) (by kernel_rfl) (fun _ _ _ h => h) (sp_st _) ?_
   refine aw rfl rfl rfl rfl rfl (fun w' hw' => ldW_r agg_Group rfl ((H.later hw').ent (i := 1) rfl) rfl)<|aw rfl rfl rfl rfl rfl (fun w' hw' => Zf fd_Member_0 rfl)<|aw rfl rfl rfl rfl rfl (fun w' hw' => ld_r one_string rfl (cellE ((H.later hw').ent (i := 0) rfl) rfl))<|aw rfl rfl rfl rfl rfl (fun w' hw' => Zf fd_Member_2 rfl)<|aw rfl rfl rfl rfl rfl (fun w' hw' => ld_r one_Lint rfl (cellE ((H.later hw').ent (i := 0) rfl) rfl))<|awIxF (k := 0) H 1 rfl rfl rfl rfl rfl sl_Lint rfl rfl (by omega) (by omega) fun bq12 o12 x12 e12 => ?_
   obtain rfl : d = x12 := by have := e12.at_; rw [hd] at this; exact Option.some.inj this
   refine aw rfl rfl rfl rfl rfl (fun w' hw' => ld_r one_int rfl (e12.later hw' 0 _ rfl))<|awCalV cb_group_Where rfl rfl rfl rfl rfl (fun w' hw' => whereSc_ok q t.name d w' (Hp.gr (H.later hw') 0 rfl) hqi.ok hnt) rfl<|aw rfl rfl rfl rfl rfl (fun w' hw' => Yu rfl)<|aw rfl rfl rfl rfl rfl (fun w' hw' => Xi rfl rfl)<|aw rfl rfl rfl rfl rfl (fun w' hw' => Xi rfl rfl)<|aw rfl rfl rfl rfl rfl (fun w' hw' => Wi rfl)<|aw rfl rfl rfl rfl rfl (fun w' hw' => Wi rfl)<|aw_nil ?_
   intro w13 hw' hF
   replace H := H.later hw'; clear hw' hF
   refine Zn<|Zs<|Zr<|Zl (Zw agg_Group H 1 rfl rfl rfl)<|Zl (Zf fd_Member_0 rfl)<|Zl (Zd one_string H 0 rfl rfl rfl)<|cal cb_group_Leave (leaveSc_ok q t.name 4 _ (Hp.gr H 0 rfl) hqi.ok hnt (by omega) (by omega)) rfl rfl ?_
   have hlv := hqi.a.leave (s := t.name) (by omega) (by omega) hO.2.2.2.1
   rintro _ w14 ⟨lv, rfl, halv, hnlv⟩; replace H := H.learn hnlv.2 (FGr w13.heap.size w14.heap.size lv) hnlv.1 (Nat.le_refl _) (Nat.le_refl _); clear hnlv; replace H := Hp.grRow H 0 rfl
   replace hlv : GrI seven 10 4 42 lv := GrI.of_a (halv ▸ hlv)
   have hlo : lv.a.os = putOff g.os d (k : Nat) := by rw [halv]; exact hO.2.2.2.2
   refine Zl (Yu rfl)<|Zl (Xa rfl rfl)<|Zl (Xi rfl rfl)<|alo H z_Group rfl fun w15 b12 H =>stN H 0 (#[.int .i64 (lv.clock), .int .i64 (lv.wait), .int .i64 (lv.gen), .slice lv.mA lv.ms.length lv.mC, .slice lv.oA lv.os.length lv.oC]) siz_Group rfl rfl rfl rfl rfl (by kernel_rfl) (by kernel_rfl) fun w16 H =>Zl (Wi rfl)<|Zn<|Zs ?_
     
   refine cw_draw mixed [0, 1, 2, 3, 4, 5, 6, 7, 8, 9, 10, 11, 12, 13, 14, 15] [16, 17] [11, 15] [1, 3, 5, 6, 8, 10, 12, 13, 14] (sp [(11, Sp.deep w16.heap.size grT (fun g : Gr => g.c.toArray) (fun cs => .tuple #[.agg cs, .int .i64 (storeS q.a t.name (q.gen - 1) d (k : Nat)).2]) (fun cq : Gr => cq.a = (storeS q.a t.name (q.gen - 1) d (k : Nat)).1)), (15, Sp.blk w16.heap.size (.agg #[.int .i64 0, .int .i64 0, .int .i64 0, .slice none 0 0, .slice none 0 0]) T_Group)]) (by kernel_rfl) (by kernel_rfl) (by kernel_rfl) (by kernel_rfl) (fun _ _ _ h => h) (sp_st _) ?_
   refine aw rfl rfl rfl rfl rfl (fun w' hw' => ldW_r agg_Group rfl ((H.later hw').ent (i := 2) rfl) rfl)<|aw rfl rfl rfl rfl rfl (fun w' hw' => Zf fd_Member_0 rfl)<|aw rfl rfl rfl rfl rfl (fun w' hw' => ld_r one_string rfl (cellE ((H.later hw').ent (i := 1) rfl) rfl))<|aw rfl rfl rfl rfl rfl (fun w' hw' => Zf fd_Group_2 rfl)<|aw rfl rfl rfl rfl rfl (fun w' hw' => ld_r one_int rfl (cellE ((H.later hw').ent (i := 2) rfl) rfl))<|aw rfl rfl rfl rfl rfl (fun w' hw' => sub_r rfl rfl (by omega) (by omega))<|aw rfl rfl rfl rfl rfl (fun w' hw' => Zf fd_Member_2 rfl)<|aw rfl rfl rfl rfl rfl (fun w' hw' => ld_r one_Lint rfl (cellE ((H.later hw').ent (i := 1) rfl) rfl))<|awIxF (k := 0) H 3 rfl rfl rfl rfl rfl sl_Lint rfl rfl (by omega) (by omega) fun bq17 o17 x17 e17 => ?_
   obtain rfl : d = x17 := by have := e17.at_; rw [hd] at this; exact Option.some.inj this
   refine aw rfl rfl rfl rfl rfl (fun w' hw' => ld_r one_int rfl (e17.later hw' 0 _ rfl))<|aw rfl rfl rfl rfl rfl (fun w' hw' => Yi rfl)<|awDeep (gv := (fun cs => .tuple #[.agg cs, .int .i64 (storeS q.a t.name (q.gen - 1) d (k : Nat)).2])) cb_group_Store rfl rfl rfl rfl rfl (fun w' hw' => hw'.size) (fun w' hw' => (storeSc_ok q t.name (q.gen - 1) d (k : Nat) w' (Hp.gr (H.later hw') 2 rfl) hqi.ok hnt (by omega)).mono fun v w2 ⟨c', h1, h2, h3⟩ => ⟨c', h1, h2, trivial, h3.2⟩) rfl fun cs92 =>aw rfl rfl rfl rfl rfl (fun w' hw' => Yu rfl)<|aw rfl rfl rfl rfl rfl (fun w' hw' => Xa rfl rfl)<|aw rfl rfl rfl rfl rfl (fun w' hw' => Xi rfl rfl)<|awAl z_Group rfl rfl rfl rfl rfl (fun w' hw' => hw'.size) fun b14 =>aw_nil ?_
   intro w18 hw' hF
   obtain ⟨hF, bq, eq, hge14, hbl14⟩ := hF; cases eq
   obtain ⟨hF, u, eq, hau, hrd92⟩ := hF; cases eq
   have Hb := H
   replace H := H.adoptNew hw' hbl14 hge14
   clear hw' hF
   refine stN H 0 (#[.int .i64 (u.clock), .int .i64 (u.wait), .int .i64 (u.gen), .slice u.mA u.ms.length u.mC, .slice u.oA u.os.length u.oC]) siz_Group rfl rfl rfl rfl rfl (by kernel_rfl) (by kernel_rfl) fun w19 H =>Zl (Wi rfl)<|Zn<|Zs ?_
     
   refine cw_draw mixed [0, 1, 2, 3, 4, 5, 6, 7, 8, 9, 10, 11, 12, 13] [14, 15] [9, 13] [1, 3, 5, 7, 10, 11, 12] (sp [(9, Sp.deep w19.heap.size grT (fun g : Gr => g.c.toArray) (fun cs => .tuple #[.agg cs, .int .i64 (storeS q.a t.name q.gen d 401).2]) (fun cq : Gr => cq.a = (storeS q.a t.name q.gen d 401).1)), (13, Sp.blk w19.heap.size (.agg #[.int .i64 0, .int .i64 0, .int .i64 0, .slice none 0 0, .slice none 0 0]) T_Group)]) (by kernel_rfl) (by kernel_rfl) (by kernel_rfl) (by kernel_rfl) (fun _ _ _ h => h) (sp_st _) ?_
   refine aw rfl rfl rfl rfl rfl (fun w' hw' => ldW_r agg_Group rfl ((H.later hw').ent (i := 3) rfl) rfl)<|aw rfl rfl rfl rfl rfl (fun w' hw' => Zf fd_Member_0 rfl)<|aw rfl rfl rfl rfl rfl (fun w' hw' => ld_r one_string rfl (cellE ((H.later hw').ent (i := 2) rfl) rfl))<|aw rfl rfl rfl rfl rfl (fun w' hw' => Zf fd_Group_2 rfl)<|aw rfl rfl rfl rfl rfl (fun w' hw' => ld_r one_int rfl (cellE ((H.later hw').ent (i := 3) rfl) rfl))<|aw rfl rfl rfl rfl rfl (fun w' hw' => Zf fd_Member_2 rfl)<|aw rfl rfl rfl rfl rfl (fun w' hw' => ld_r one_Lint rfl (cellE ((H.later hw').ent (i := 2) rfl) rfl))<|awIxF (k := 0) H 3 rfl rfl rfl rfl rfl sl_Lint rfl rfl (by omega) (by omega) fun bq20 o20 x20 e20 => ?_
   obtain rfl : d = x20 := by have := e20.at_; rw [hd] at this; exact Option.some.inj this
   refine aw rfl rfl rfl rfl rfl (fun w' hw' => ld_r one_int rfl (e20.later hw' 0 _ rfl))<|awDeep (gv := (fun cs => .tuple #[.agg cs, .int .i64 (storeS q.a t.name q.gen d 401).2])) cb_group_Store rfl rfl rfl rfl rfl (fun w' hw' => hw'.size) (fun w' hw' => (storeSc_ok q t.name q.gen d 401 w' (Hp.gr (H.later hw') 2 rfl) hqi.ok hnt (by omega)).mono fun v w2 ⟨c', h1, h2, h3⟩ => ⟨c', h1, h2, trivial, h3.2⟩) rfl fun cs105 =>aw rfl rfl rfl rfl rfl (fun w' hw' => Yu rfl)<|aw rfl rfl rfl rfl rfl (fun w' hw' => Xa rfl rfl)<|aw rfl rfl rfl rfl rfl (fun w' hw' => Xi rfl rfl)<|awAl z_Group rfl rfl rfl rfl rfl (fun w' hw' => hw'.size) fun b16 =>aw_nil ?_
   intro w21 hw' hF
   obtain ⟨hF, bq, eq, hge16, hbl16⟩ := hF; cases eq
   obtain ⟨hF, u2, eq, hau2, hrd105⟩ := hF; cases eq
   have Hb := H
   replace H := H.adoptNew hw' hbl16 hge16
   clear hw' hF
   refine stN H 0 (#[.int .i64 (u2.clock), .int .i64 (u2.wait), .int .i64 (u2.gen), .slice u2.mA u2.ms.length u2.mC, .slice u2.oA u2.os.length u2.oC]) siz_Group rfl rfl rfl rfl rfl (by kernel_rfl) (by kernel_rfl) fun w22 H =>Zl (Wi rfl)<|Zn<|Zs<|Zs ?_
   have h6 := (grOk_iff2.1 hlv.ok).1.2.2.2.2.1
   refine Zr<|Zl (Zf fd_Group_3 rfl)<|Zl (Zd one_LMember H 2 rfl rfl rfl)<|Zl (lenS_r len_LMember rfl)<|Zl (Yi rfl)<|Zn<|Zb ?_
   refine cw_loop (τ := Nat) [4, 19, 20, 21, 111, 112, 113, 114, 115, 116, 117, 118, 119, 120, 121, 122, 123, 124, 125, 126, 127, 128, 129, 130, 131, 132, 133, 134, 135, 136, 137, 138, 139, 140] (fun i => [(111, .int .i64 (i : Nat))]) (fun i w' => i ≤ lv.ms.length ∧ Hp w w' [(b16, .cells #[.int .i64 (u2.clock), .int .i64 (u2.wait), .int .i64 (u2.gen), .slice u2.mA u2.ms.length u2.mC, .slice u2.oA u2.os.length u2.oC] T_Group (0, 0)), (b14, .cells #[.int .i64 (u.clock), .int .i64 (u.wait), .int .i64 (u.gen), .slice u.mA u.ms.length u.mC, .slice u.oA u.os.length u.oC] T_Group (0, 0)), (b12, .cells #[.int .i64 (lv.clock), .int .i64 (lv.wait), .int .i64 (lv.gen), .slice lv.mA lv.ms.length lv.mC, .slice lv.oA lv.os.length lv.oC] T_Group (0, 0)), (b7, .cells #[.string (t.name), .int .i64 (t.heard), .slice t.A t.parts.length t.cap] T_Member (0, 0)), (b5, .cells #[.int .i64 (q.clock), .int .i64 (q.wait), .int .i64 (q.gen), .slice q.mA q.ms.length q.mC, .slice q.oA q.os.length q.oC] T_Group (0, 0))] [FRd memL w13.heap.size w14.heap.size lv.mA lv.ms, FGr w13.heap.size w14.heap.size lv, FGr w8.heap.size w10.heap.size q, FRd intL w1.heap.size w2.heap.size t.A t.parts, FRd memL w1.heap.size w2.heap.size g.mA g.ms, FGr w1.heap.size w2.heap.size g, FRd rawL 0 w.heap.size A l]) (fun i => lv.ms.length - i) 0 ⟨by omega, H⟩ (sl1 rfl) ?_
   rintro i ρ1 w23 ⟨hi, H⟩
   show CW _ _ _ _ (updL (ovr _ _ ρ1) [(111, .int .i64 (i : Nat))]) w23
   refine Zs<|Zr ?_
   refine lwD (lss_r rfl rfl) rfl rfl rfl (fun h112 => ?_) (fun h112 => ?_)
   ·
    refine Zn<|Zs<|ZT rfl<|Zk<|Zs<|Zb<|Zs ?_
    obtain ⟨y, hy⟩ : ∃ y, lv.ms[i]? = some y := ⟨_, List.getElem?_eq_getElem (by omega)⟩
    refine Zr<|ixF H 0 rfl sl_LMember rfl rfl (by omega) (by omega) rfl fun bq24 o24 x24 e24 => ?_
    obtain rfl : y = x24 := by have := e24.at_; rw [hy] at this; exact Option.some.inj this
    refine Zl (ldA_r (xs := Mem.c y) agg_Member rfl rfl e24.cl)<|alo H z_Member rfl fun w25 b19 H =>stN H 0 (#[.string (y.name), .int .i64 (y.heard), .slice y.A y.parts.length y.cap]) siz_Member rfl rfl rfl rfl rfl (by kernel_rfl) (by kernel_rfl) fun w26 H =>Zn<|Zs ?_
    have hym := List.mem_of_getElem? hy
    have hny := (hlv.mems y hym).1
    have hyl : y.parts.length ≤ 4 := partsOk_few (memOk_iff.1 ((grOk_iff2.1 hlv.ok).2.1.1 y hym)).2.2.2
    replace H := Hp.grParts H 1 rfl hym
       
    refine cw_draw mixed [0, 1, 2, 3, 4, 5, 6] [] [6] [0, 2, 4] (sp [(6, Sp.one (.bool (decide (d ∈ y.parts))))]) (by kernel_rfl) (by kernel_rfl) (by kernel_rfl) (by kernel_rfl) (fun _ _ _ h => h) (sp_st _) ?_
    refine aw rfl rfl rfl rfl rfl (fun w' hw' => Zf fd_Member_2 rfl)<|aw rfl rfl rfl rfl rfl (fun w' hw' => ld_r one_Lint rfl (cellE ((H.later hw').ent (i := 0) rfl) rfl))<|aw rfl rfl rfl rfl rfl (fun w' hw' => Zf fd_Member_2 rfl)<|aw rfl rfl rfl rfl rfl (fun w' hw' => ld_r one_Lint rfl (cellE ((H.later hw').ent (i := 4) rfl) rfl))<|awIxF (k := 0) H 4 rfl rfl rfl rfl rfl sl_Lint rfl rfl (by omega) (by omega) fun bq27 o27 x27 e27 => ?_
    obtain rfl : d = x27 := by have := e27.at_; rw [hd] at this; exact Option.some.inj this
    refine aw rfl rfl rfl rfl rfl (fun w' hw' => ld_r one_int rfl (e27.later hw' 0 _ rfl))<|awCalV cb_slices_Contains_Lint_int rfl rfl rfl rfl rfl (fun w' hw' => contains_int_ok y.parts d y.A y.cap w' ((H.later hw').rd0 0 rfl) (by omega)) rfl<|aw_nil ?_
    intro w28 hw' hF
    replace H := H.later hw'; clear hw' hF
    refine Zn ?_
    refine cw_if rfl (fun hc121 => ?_) (fun hc121 => ?_)
    ·
     refine Zs ?_
         
     have hW := goes_left hlv hlo hym (of_decide_eq_true hc121)
     refine cw_draw mixed [0, 1, 2, 3, 4, 5, 6, 7, 8, 9, 10, 11, 12] [] [7] [1, 3, 5, 8, 9, 10, 11, 12] (sp [(7, Sp.one (.tuple #[.int .i64 (whereS lv.a y.name d).1, .int .i64 (whereS lv.a y.name d).2]))]) (by kernel_rfl) (by kernel_rfl) (by kernel_rfl) (by kernel_rfl) (fun _ _ _ h => h) (sp_st _) ?_
     refine aw rfl rfl rfl rfl rfl (fun w' hw' => ldW_r agg_Group rfl ((H.later hw').ent (i := 3) rfl) rfl)<|aw rfl rfl rfl rfl rfl (fun w' hw' => Zf fd_Member_0 rfl)<|aw rfl rfl rfl rfl rfl (fun w' hw' => ld_r one_string rfl (cellE ((H.later hw').ent (i := 0) rfl) rfl))<|aw rfl rfl rfl rfl rfl (fun w' hw' => Zf fd_Member_2 rfl)<|aw rfl rfl rfl rfl rfl (fun w' hw' => ld_r one_Lint rfl (cellE ((H.later hw').ent (i := 4) rfl) rfl))<|awIxF (k := 0) H 4 rfl rfl rfl rfl rfl sl_Lint rfl rfl (by omega) (by omega) fun bq29 o29 x29 e29 => ?_
     obtain rfl : d = x29 := by have := e29.at_; rw [hd] at this; exact Option.some.inj this
     refine aw rfl rfl rfl rfl rfl (fun w' hw' => ld_r one_int rfl (e29.later hw' 0 _ rfl))<|awCalV cb_group_Where rfl rfl rfl rfl rfl (fun w' hw' => whereSc_ok lv y.name d w' (Hp.gr (H.later hw') 2 rfl) hlv.ok hny) rfl<|aw rfl rfl rfl rfl rfl (fun w' hw' => Yu rfl)<|aw rfl rfl rfl rfl rfl (fun w' hw' => Xi rfl rfl)<|aw rfl rfl rfl rfl rfl (fun w' hw' => Xi rfl rfl)<|aw rfl rfl rfl rfl rfl (fun w' hw' => Wi rfl)<|aw rfl rfl rfl rfl rfl (fun w' hw' => Wi rfl)<|aw_nil ?_
     intro w30 hw' hF
     replace H := H.later hw'; clear hw' hF
     refine Zn<|Zs<|Zr<|Zl (Yi rfl)<|Zl (neqF_r rfl rfl (by rw [hW]))<|Zl (Yb rfl)<|ZG<|Zl (Yi rfl)<|ZG<|Zl (Yi rfl)<|ZG<|Zl (neqF_r rfl rfl (by rw [hW]))<|Zl (Kf rfl rfl)<|Zn ?_
     refine ZF rfl<|Zk<|Zr<|Zl (add_r rfl rfl (by omega) (by omega))<|Zl (Yi rfl)<|Zn ?_
     exact ⟨i + 1, ⟨by omega, H.forget (.cons _ (List.Sublist.refl _)) (fun f hf => List.mem_cons_of_mem _ hf)⟩, sl1 rfl, by repeat (first | exact Agr.refl _ _ | exact agr_ovr | refine agr_upd rfl ?_ | refine agr_updL _ rfl ?_ | refine agr_ovr2 rfl ?_), by show lv.ms.length - (i + 1) < lv.ms.length - i; omega⟩
    ·
     refine Zk<|Zr<|Zl (add_r rfl rfl (by omega) (by omega))<|Zl (Yi rfl)<|Zn ?_
     exact ⟨i + 1, ⟨by omega, H.forget (.cons _ (List.Sublist.refl _)) (fun f hf => List.mem_cons_of_mem _ hf)⟩, sl1 rfl, by repeat (first | exact Agr.refl _ _ | exact agr_ovr | refine agr_upd rfl ?_ | refine agr_updL _ rfl ?_ | refine agr_ovr2 rfl ?_), by show lv.ms.length - (i + 1) < lv.ms.length - i; omega⟩
   ·
    refine Zn<|Zs<|ZF rfl<|Zx<|Zs<|Zr<|Zl (Yi rfl)<|Zl (eqlT_r rfl rfl (by rw [hS1]))<|Zl (Yb rfl)<|ZG<|Zl (Yi rfl)<|ZG<|Zl (eqlT_r rfl rfl (by rw [hO.1]))<|Zl (Kt rfl rfl) ?_
    refine Zl (Yb rfl)<|ZG<|Zl (Yi rfl)<|ZG<|Zl (eqlT_r rfl rfl hO.2.2.2.1)<|Zl (Kt rfl rfl)<|Zl (Yb rfl)<|ZG<|Zl (Yi rfl)<|ZG<|Zl (Yi rfl)<|ZG<|Zl (eqlT_r rfl rfl (by rw [hO.1]))<|Zl (Kt rfl rfl) ?_
    refine Zl (Yb rfl)<|ZG<|Zl (Yi rfl)<|ZG<|Zl (eqlT_r rfl rfl (by rw [hO.2.1]))<|Zl (Kt rfl rfl)<|Zl (Yb rfl)<|ZG<|Zl (Yi rfl)<|ZG<|Zl (eqlT_r rfl rfl (by rw [hO.2.2.1]))<|Zl (Kt rfl rfl)<|Zl (Wb rfl)<|Zn ?_
    refine Zt ?_
    exact fin1 (v := .bool true) rfl rfl ⟨rfl, H.below⟩
end Go.Proofs.Ytemnchkebhclpaa
