/- GD: a part of the proofs over this seat: what stands in its theorems holds for every input that they name. -/
import Derived.Test.YtemnchkebhclpaaGC
import Derived.Test.YtemnchkebhclpaaEngZ
open Go.Eng renaming lw_nil → Zn, cw_seq → Zs, cw_region → Zr, cw_skip → Zk, cw_ret → Zt, cw_block → Zb, cw_exit → Zx, mvI_r → Yi, mvB_r → Yb, mvS_r → Ys, mvP_r → Yp, mvT_r → Yt, mvU_r → Yu, mvA_r → Ya, asI_r → Wi, asB_r → Wb, asS_r → Ws, asP_r → Wp, asT_r → Wt, fad_r → Zf, exI_r → Xi, exA_r → Xa, exB_r → Xb, exS_r → Xs, pkTB_r → Kt, pkFB_r → Kf, cw_true → ZT, cw_false → ZF
section
namespace Go.Proofs.Ytemnchkebhclpaa
open Go Go.Eng Go.RowKit
set_option linter.unusedSimpArgs false
def Tx.a (t : Tx) : Tx := { t with A := none, cap := 0 }
theorem set_same {α : Type} {l : List α} {k : Nat} {a : α} (h : l[k]? = some a) : l.set k a = l := by
 apply List.ext_getElem?
 intro i
 rw [List.getElem?_set]
 split
 ·
  rename_i hi
  subst hi
  split
  ·
   exact h.symm
  ·
   rename_i h2; rw [List.getElem?_eq_none (by omega)]
 ·
  rfl
theorem take_set {α : Type} {l : List α} {k : Nat} (h : k < l.length) (a : α) : (l.set k a).take (k + 1) = l.take k ++ [a] := by
 rw [take_snoc (e := a) (by rw [List.getElem?_set_self h]), List.take_set_of_le (Nat.le_refl k)]
theorem copy_step {out txs : List Tx} {k : Nat} {x x' : Tx} (hx : out[k]? = some x) (hma : out.map Tx.a = txs.map Tx.a) (hdr : out.drop k = txs.drop k) (ha : x'.a = x.a) : (out.set k x').map Tx.a = txs.map Tx.a ∧ (out.set k x').drop (k + 1) = txs.drop (k + 1) ∧ (out.set k x').take (k + 1) = out.take k ++ [x'] := by
 refine ⟨?_, ?_, take_set (getE hx).1 x'⟩
 ·
  rw [List.map_set, ha, ← hma]
  exact set_same (by rw [List.getElem?_map, hx]; rfl)
 ·
  rw [List.drop_set_of_lt (by omega)]
  have := congrArg (List.drop 1) hdr
  rwa [List.drop_drop, List.drop_drop] at this
def Co.a (c : Co) : Co := { c with txs := c.txs.map Tx.a, A := none, cap := 0 }
theorem Hp.joinParts {w0 w : World} {L : List (Nat × Obj)} {F : List Fact} {a b lo hi : Nat} {ts : List Tx} {t : Tx} (H : Hp w0 w L (FRd intL a b t.A t.parts :: FParts lo hi ts :: F)) (hL : ∀ e ∈ L, e.1 < lo) (hlo : lo ≤ a) (hhi : hi ≤ b) : Hp w0 w L (FParts lo b (ts ++ [t]) :: F) := by
 refine ⟨H.below, H.ents, H.nodup, fun f hf => ?_⟩
 rcases List.mem_cons.1 hf with rfl | hf
 ·
  have h1 := H.facts _ (List.mem_cons_self ..)
  have h2 := H.facts _ (List.mem_cons_of_mem _ (List.mem_cons_self ..))
  refine ⟨fun x hx => ?_, h1.2.1, fun e he => .inl (hL e he)⟩
  rcases List.mem_append.1 hx with hx | hx
  ·
   exact Rd.mono (h2.1 x hx) (Nat.le_refl _) hhi
  ·
   rw [List.mem_singleton.1 hx]
   exact Rd.mono (lo' := lo) (hi' := b) (show Rd intL a b t.A t.parts w from h1.1) hlo (Nat.le_refl _)
 ·
  exact H.facts f (List.mem_cons_of_mem _ (List.mem_cons_of_mem _ hf))
theorem parts_nil {w0 w : World} {L : List (Nat × Obj)} {F : List Fact} (H : Hp w0 w L F) (lo : Nat) (hlo : ∀ e ∈ L, e.1 < lo) (h : lo ≤ w.heap.size) : Hp w0 w L (FParts lo lo [] :: F) := by
 refine ⟨H.below, H.ents, H.nodup, fun f hf => ?_⟩
 rcases List.mem_cons.1 hf with rfl | hf
 ·
  exact ⟨fun x hx => absurd hx (by simp), h, fun e he => .inl (hlo e he)⟩
 ·
  exact H.facts f hf
set_option maxHeartbeats 4000000 in
set_option maxRecDepth 10000 in
theorem clone_Txn_ok (es : List Tx) (A : Option Addr) (c : Nat) (w : World) (hr : Rd txL 0 w.heap.size A es w) (hb : es.length * 80 ≤ 140737488355328) :
  Ret Try.prog i_slices_Clone_LTxn_Txn [.slice A es.length c] w fun v w2 => ∃ A' c' L', v = .slice A' es.length c' ∧ es.length ≤ c' ∧ c' ≤ maxLen ∧ Own txL (.slice A' es.length c') T_Txn es L' ∧ Hp w w2 L' [] := by
 refine ret_of fn_slices_Clone_LTxn_Txn rfl rfl ?_
 have H := Hp.startRd hr
 refine Zs<|Zr<|Zl (Ws rfl)<|Zn<|Zs<|Zs<|Zr<|Zl (Ys rfl) ?_
 refine lwB (slnil_r len_LTxn rfl) rfl rfl rfl (fun h4 => ?_) (fun h4 => ?_)
 ·
  refine Zn<|ZT rfl<|Zs<|Zr<|Zl (Ws rfl)<|Zn<|Zt ?_
  have he : es = [] := by
   cases es with
   | nil => rfl
   | cons e es => obtain ⟨b, o, hA, _⟩ := hr (by simp); subst hA; cases h4
  subst he
  exact fin1 rfl rfl ⟨none, 0, [], rfl, by simp, by decide, Own.nil, H.forget (by simp) (by simp)⟩
 ·
  refine Zn<|ZF rfl<|Zk<|Zs<|Zr<|bs0 H sl_LTxn rfl fun w1 b5 H =>Zl (Ys rfl)<|apO (Y := txL) ap_LTxn (K := []) (L := [(b5, _)]) (M := []) H (OwnE.lit (by decide) (by rfl)) (es := []) (news := es) rfl rfl rfl (Rd.src (H.fact (i := 0) rfl)) (by simpa using hb) rfl ?_
  intro A3 c3 w3 L3 h3a h3b ho3 H
  refine Zl (Ws rfl)<|Zn<|Zt ?_
  exact fin1 rfl rfl ⟨A3, c3, L3, rfl, h3a, h3b, ho3, H.forget (by simp) (by simp)⟩
set_option maxHeartbeats 4000000 in
set_option maxRecDepth 10000 in
theorem coCopy_ok (c : Co) (w : World) (h : c.rd 0 w.heap.size w) : Ret Try.prog i_coord_Copy [c.v] w fun v w2 => ∃ (c' : Co) (L' : List (Nat × Obj)) (lo hi : Nat), v = c'.v ∧ c'.a = c.a ∧ Own txL (.slice c'.A c'.txs.length c'.cap) T_Txn c'.txs L' ∧ c'.txs.length ≤ c'.cap ∧ (∀ t ∈ c'.txs, t.parts.length ≤ t.cap) ∧ w.heap.size ≤ lo ∧ Hp w w2 L' [FParts lo hi c'.txs] := by
 refine ret_of fn_coord_Copy rfl rfl ?_
 have hcap := h.cap
 have hfew := h.few
 have hfp := h.fewP
 have H := Hp.startCo h
 obtain ⟨ck, nx, wt, txs, cA, cc⟩ := c
 dsimp only at hcap hfew hfp H
 show CW _ _ _ _ (args [.agg #[.int .i64 ck, .int .i64 nx, .int .i64 wt, .slice cA txs.length cc]]) w
 refine Zs<|Zr<|bxA H rfl rfl fun w1 b1 H =>alo H z_Coord rfl fun w2 b2 H =>Zn<|Zs<|Zr<|Zl (Zf fd_Coord_3 rfl)<|Zl (Zd one_LTxn H 1 rfl rfl rfl)<|cal cb_slices_Clone_LTxn_Txn (clone_Txn_ok txs cA cc _ (H.rd0 0 rfl) (by omega)) rfl rfl ?_
 rintro _ w3 ⟨A6, c6, L6, rfl, hc6, hm6, ho6, hj6⟩; replace H := H.joinR hj6; clear hj6
 refine Zl (Zf fd_Coord_3 rfl)<|stN H 1 (#[.int .i64 ck, .int .i64 nx, .int .i64 wt, .slice A6 txs.length c6]) siz_LTxn rfl rfl rfl rfl rfl (by kernel_rfl) (by kernel_rfl) fun w4 H =>Zn<|Zs<|Zs ?_
 have hlt0 := H.ltAll
 obtain ⟨lo, hlo⟩ : ∃ lo, lo = w4.heap.size := ⟨_, rfl⟩
 rw [← hlo] at hlt0
 have hlow : w.heap.size ≤ lo := by rw [hlo]; exact H.size
 replace H := parts_nil H lo hlt0 (by omega)
 have hb1 : b1 < lo := hlt0 (b1, _) (List.Mem.tail _ (List.Mem.head _))
 have hb2 : b2 < lo := hlt0 (b2, _) (List.Mem.head _)
 have hL6 : ∀ e ∈ L6, e.1 < lo := fun e he => hlt0 e (List.Mem.tail _ (List.Mem.tail _ (List.mem_append_left _ he)))
 refine Zr<|Zl (Zf fd_Coord_3 rfl)<|Zl (Zd one_LTxn H 1 rfl rfl rfl)<|Zl (lenS_r len_LTxn rfl)<|Zl (Yi rfl)<|Zn<|Zb ?_
 refine cw_loop (τ := Nat × List Tx × Option Addr × Nat × Nat) [3, 11, 12, 13, 14, 15, 16, 17, 18, 19, 20, 21, 22, 23, 24, 25, 26] (fun (k, _) => [(11, .int .i64 (k : Nat))]) (fun (k, out, A1, c1, hi) w' => k ≤ out.length ∧ out.length = txs.length ∧ out.length ≤ c1 ∧ out.map Tx.a = txs.map Tx.a ∧ out.drop k = txs.drop k ∧ (∀ t ∈ out.take k, t.parts.length ≤ t.cap) ∧ lo ≤ w'.heap.size ∧ ∃ L', Own txL (.slice A1 out.length c1) T_Txn out L' ∧ (∀ e ∈ L', e.1 < lo) ∧ Hp w w' ([(b2, .cells #[.int .i64 0, .int .i64 0, .int .i64 0, .slice none 0 0] T_Coord (0, 0)), (b1, .cells #[.int .i64 ck, .int .i64 nx, .int .i64 wt, .slice A1 out.length c1] T_Coord (0, 0))] ++ L' ++ []) [FParts lo hi (out.take k), FRd txL 0 w.heap.size cA txs, FParts 0 w.heap.size txs]) (fun (k, out, _) => out.length - k) (0, txs, A6, c6, lo) ⟨by omega, rfl, hc6, rfl, rfl, by simp, by omega, L6, ho6, hL6, H⟩ (sl1 rfl) ?_
 rintro ⟨k, out, A1, c1, hi⟩ ρ1 w5 ⟨hk, hol, hoc, hma, hdr, hpc, hlw, L1, ho, hL1, H⟩
 show CW _ _ _ _ (updL (ovr _ _ ρ1) [(11, .int .i64 (k : Nat))]) w5
 refine Zs<|Zr ?_
 refine lwD (lss_r rfl rfl) rfl rfl rfl (fun h12 => ?_) (fun h12 => ?_)
 ·
  refine Zn<|Zs<|ZT rfl<|Zk<|Zs<|Zb<|Zs ?_
  obtain ⟨x, hx⟩ : ∃ x, out[k]? = some x := ⟨_, List.getElem?_eq_getElem (by omega)⟩
  have hxt : txs[k]? = some x := by have := congrArg (fun l => l[0]?) hdr; simp only [List.getElem?_drop, Nat.add_zero] at this; rw [← this]; exact hx
  have hmem := List.mem_of_getElem? hxt
  have hfx := (hfp x hmem).1
  obtain ⟨g, cur, rfl, rfl, row⟩ := ho.row (by omega)
  have hg : g < lo := hL1 (g, _) (List.mem_singleton_self _)
  refine Zr<|Zl (Yi rfl)<|Zl (Wi rfl)<|Zn ?_
   
  have hhi5 := (H.facts _ (List.Mem.head _)).2.1
  refine cw_draw mixed [0, 1, 2, 3, 4, 5, 6, 7, 8, 9, 10, 11] [12] [9] [0, 2, 3, 5, 6, 7, 10, 11] (sp [(9, Sp.row w5.heap.size intL x.parts)]) (by kernel_rfl) (by kernel_rfl) (by kernel_rfl) (by kernel_rfl) (fun _ _ _ h => h) (sp_st _) ?_
  refine aw rfl rfl rfl rfl rfl (fun w' hw' => Zf fd_Coord_3 rfl)<|aw rfl rfl rfl rfl rfl (fun w' hw' => ld_r one_LTxn rfl (cellE ((H.later hw').ent (i := 1) rfl) rfl))<|aw rfl rfl rfl rfl rfl (fun w' hw' => Yi rfl)<|aw rfl rfl rfl rfl rfl (fun w' hw' => Zf fd_Coord_3 rfl)<|aw rfl rfl rfl rfl rfl (fun w' hw' => ld_r one_LTxn rfl (cellE ((H.later hw').ent (i := 1) rfl) rfl))<|aw rfl rfl rfl rfl rfl (fun w' hw' => Yi rfl)<|aw rfl rfl rfl rfl rfl (fun w' hw' => ixR_r sl_LTxn rfl rfl (by omega))<|aw rfl rfl rfl rfl rfl (fun w' hw' => Zf fd_Txn_4 rfl)<|aw rfl rfl rfl rfl rfl (fun w' hw' => ldR_r one_Lint row hx 4 rfl ((H.later hw').ent (i := 2) rfl) rfl)<|awRow cb_slices_Clone_Lint_int rfl rfl rfl rfl rfl (fun w' hw' => hw'.size) (fun w' hw' => clone_int_rd x.parts _ _ w' (parts0 (H.later hw') 2 rfl hmem) (by omega)) rfl fun A23 c23 hc23 =>aw rfl rfl rfl rfl rfl (fun w' hw' => ixR_r sl_LTxn rfl rfl (by omega))<|aw rfl rfl rfl rfl rfl (fun w' hw' => Zf fd_Txn_4 rfl)<|aw_nil ?_
  intro w6 hw' hF
  have hsz := hw'.size
  obtain ⟨hF, Aq, cq, eq, hcq, hrw23⟩ := hF; cases eq; clear hcq
  replace H := H.learnRd hw' hrw23
  clear hw' hF
  refine stR H 2 ({ x with A := A23, cap := c23 }) siz_Lint row hx 4 rfl rfl rfl rfl rfl rfl (by kernel_rfl) fun w8 cur7 row7 H =>Zn<|Zr<|Zl (add_r rfl rfl (by omega) (by omega))<|Zl (Yi rfl)<|Zn ?_
  obtain ⟨z1, z2, z3⟩ := copy_step (x' := { x with A := A23, cap := c23 }) hx hma hdr rfl
  have hb5 := (H.facts _ (List.Mem.head _)).2.1
  dsimp only [FRd] at hb5
  have HJ := Hp.joinParts (t := { x with A := A23, cap := c23 }) H (fun e he => by rcases List.mem_cons.1 he with rfl | he; exact hb2; rcases List.mem_cons.1 he with rfl | he; exact hb1; rw [List.mem_singleton.1 he]; exact hg) hlw (Nat.le_trans hhi5 hsz)
  rw [← z3] at HJ
  refine ⟨(k + 1, out.set k { x with A := A23, cap := c23 }, some ⟨g, 0, none⟩, c1, w6.heap.size), ⟨by rw [List.length_set]; omega, by rw [List.length_set]; exact hol, by rw [List.length_set]; exact hoc, z1, z2, ?_, by omega, _, Row.own row7, fun e he => by rw [List.mem_singleton.1 he]; exact hg, ?_⟩, sl1 rfl, by repeat (first | exact Agr.refl _ _ | exact agr_ovr | refine agr_upd rfl ?_ | refine agr_updL _ rfl ?_ | refine agr_ovr2 rfl ?_), by show (out.set k _).length - (k + 1) < out.length - k; rw [List.length_set]; omega⟩
  ·
   rw [z3]; intro t ht; rcases List.mem_append.1 ht with ht | ht; exact hpc t ht; rw [List.mem_singleton.1 ht]; exact hc23
  ·
   rw [List.length_set]; exact HJ
 ·
  have hke : k = out.length := by omega
  rw [hke, List.take_length] at H hpc
  refine Zn<|Zs<|ZF rfl<|Zx<|Zs<|Zr<|Zl (Zw agg_Coord H 1 rfl rfl rfl)<|stN H 0 (#[.int .i64 ck, .int .i64 nx, .int .i64 wt, .slice A1 out.length c1]) siz_Coord rfl rfl rfl rfl rfl (by kernel_rfl) (by kernel_rfl) fun w9 H =>Zn<|Zt ?_
  exact finC (cs0 := #[.int .i64 ck, .int .i64 nx, .int .i64 wt, .slice A1 out.length c1]) rfl agg_Coord rfl (H.ent (i := 0) rfl) rfl ⟨⟨ck, nx, wt, out, A1, c1⟩, L1, lo, hi, rfl, by unfold Co.a; dsimp only; rw [hma], ho, hoc, hpc, hlow, H.forget (.cons _ (.cons _ (List.sublist_append_left _ _))) (by simp)⟩
end Go.Proofs.Ytemnchkebhclpaa
end

section
namespace Go.Proofs.Ytemnchkebhclpaa
open Go Go.Eng Go.RowKit
set_option linter.unusedSimpArgs false
theorem Hp.joinF {w0 w w' : World} {L L' : List (Nat × Obj)} {F F' : List Fact} (H : Hp w0 w L F) (H' : Hp w w' L' F') (hf' : ∀ f ∈ F', w.heap.size ≤ f.lo) : Hp w0 w' (L ++ L' ++ []) (F' ++ F) := by
 have HJ := H.joinR (H'.forget (List.Sublist.refl _) (F' := []) (by simp))
 refine ⟨HJ.below, HJ.ents, HJ.nodup, fun f hf => ?_⟩
 rcases List.mem_append.1 hf with hf | hf
 ·
  obtain ⟨h1, h2, h3⟩ := H'.facts f hf
  refine ⟨h1, h2, fun e he => ?_⟩
  rw [List.append_nil] at he
  rcases List.mem_append.1 he with he | he
  ·
   have := H.ltAll e he
   have := hf' f hf
   omega
  ·
   exact h3 e he
 ·
  exact HJ.facts f hf
def nameIdx (c : Co) (s : ByteArray) : Int := idxI (c.txs.findIdx? fun p => decide (p.name = s))
/-- a coordinator that a call has made: the caller may write it -/
def NewCo (w w2 : World) (c c' : Co) (L' : List (Nat × Obj)) (lo hi : Nat) : Prop := c'.a = c ∧ Own txL (.slice c'.A c'.txs.length c'.cap) T_Txn c'.txs L' ∧ c'.txs.length ≤ c'.cap ∧ (∀ t ∈ c'.txs, t.parts.length ≤ t.cap) ∧ w.heap.size ≤ lo ∧ Hp w w2 L' [FParts lo hi c'.txs]
set_option maxHeartbeats 4000000 in
set_option maxRecDepth 10000 in
theorem coFind_bad (c : Co) (s : ByteArray) (w : World) (h : c.rd 0 w.heap.size w) (hok : coOk c = false) : Ret Try.prog i_coord_find [c.v, .string s] w fun v w2 => v = .tuple #[.agg #[.int .i64 0, .int .i64 0, .int .i64 0, .slice none 0 0], .int .i64 0, .int .i64 12] ∧ Below w.heap.size w w2 := by
 refine ret_of fn_coord_find rfl rfl ?_
 have hcap := h.cap
 have hfew := h.few
 have hfp := h.fewP
 have H := Hp.startCo h
 obtain ⟨ck, nx, wt, txs, cA, cc⟩ := c
 dsimp only at hcap hfew hfp H
 show CW _ _ _ _ (args [.agg #[.int .i64 ck, .int .i64 nx, .int .i64 wt, .slice cA txs.length cc], .string s]) w
 refine Zs<|Zr<|bxA H rfl rfl fun w1 b2 H =>bxT H rfl rfl fun w2 b3 H =>alo H z_Coord rfl fun w3 b4 H =>Zl (Wi rfl)<|Zl (Wi rfl)<|Zn<|Zs<|Zs<|Zr<|Zl (Zw agg_Coord H 2 rfl rfl rfl)<|cal cb_coord_Check (coCheck_ok ⟨ck, nx, wt, txs, cA, cc⟩ _ ⟨H.rd0 0 rfl, fun t ht => parts0 H 1 rfl ht, hcap, hfew, hfp⟩) rfl rfl ?_
 rw [hok]
 rintro _ w4 ⟨rfl, hb⟩; replace H := H.later hb; clear hb
 refine Zl (Wi rfl)<|Zn<|Zs<|Zr<|Zl (Yi rfl)<|Zl (neqT_r rfl rfl (by decide))<|Zn<|ZT rfl<|Zs<|Zr<|Zl (bld_r (cs := #[.int .i64 0, .int .i64 0, .int .i64 0, .slice none 0 0]) st_Coord z_Coord (by kernel_rfl))<|Zl (Yi rfl)<|stN H 0 (#[.int .i64 0, .int .i64 0, .int .i64 0, .slice none 0 0]) siz_Coord rfl rfl rfl rfl rfl (by kernel_rfl) (by kernel_rfl) fun w5 H =>Zl (Wi rfl) ?_
 refine Zl (Wi rfl)<|Zn<|Zt ?_
 exact finCTT (cs0 := #[.int .i64 0, .int .i64 0, .int .i64 0, .slice none 0 0]) (v1 := .int .i64 0) (v2 := .int .i64 12) rfl agg_Coord rfl (H.ent (i := 0) rfl) rfl rfl rfl ⟨rfl, H.below⟩
set_option maxHeartbeats 4000000 in
set_option maxRecDepth 10000 in
theorem coFind_form (c : Co) (s : ByteArray) (w : World) (h : c.rd 0 w.heap.size w) (hok : coOk c = true) (hn : nameOk s = false) : Ret Try.prog i_coord_find [c.v, .string s] w fun v w2 => v = .tuple #[.agg #[.int .i64 0, .int .i64 0, .int .i64 0, .slice none 0 0], .int .i64 0, .int .i64 4] ∧ Below w.heap.size w w2 := by
 refine ret_of fn_coord_find rfl rfl ?_
 have hcap := h.cap
 have hfew := h.few
 have hfp := h.fewP
 have H := Hp.startCo h
 obtain ⟨ck, nx, wt, txs, cA, cc⟩ := c
 dsimp only at hcap hfew hfp H
 show CW _ _ _ _ (args [.agg #[.int .i64 ck, .int .i64 nx, .int .i64 wt, .slice cA txs.length cc], .string s]) w
 refine Zs<|Zr<|bxA H rfl rfl fun w1 b2 H =>bxT H rfl rfl fun w2 b3 H =>alo H z_Coord rfl fun w3 b4 H =>Zl (Wi rfl)<|Zl (Wi rfl)<|Zn<|Zs<|Zs<|Zr<|Zl (Zw agg_Coord H 2 rfl rfl rfl)<|cal cb_coord_Check (coCheck_ok ⟨ck, nx, wt, txs, cA, cc⟩ _ ⟨H.rd0 0 rfl, fun t ht => parts0 H 1 rfl ht, hcap, hfew, hfp⟩) rfl rfl ?_
 rw [hok]
 rintro _ w4 ⟨rfl, hb⟩; replace H := H.later hb; clear hb
 refine Zl (Wi rfl)<|Zn<|Zs<|Zr<|Zl (Yi rfl)<|Zl (neqF_r rfl rfl rfl)<|Zn<|ZF rfl<|Zk<|Zs<|Zs<|Zr<|Zl (Zd one_string H 1 rfl rfl rfl)<|cal cb_coord_name (name_ok s _) rfl rfl ?_
 rw [hn]
 rintro _ w5 ⟨rfl, hb⟩; replace H := H.later hb; clear hb
 refine Zl (not_r rfl)<|Zn<|ZT rfl<|Zs<|Zr<|Zl (bld_r (cs := #[.int .i64 0, .int .i64 0, .int .i64 0, .slice none 0 0]) st_Coord z_Coord (by kernel_rfl))<|stN H 0 (#[.int .i64 0, .int .i64 0, .int .i64 0, .slice none 0 0]) siz_Coord rfl rfl rfl rfl rfl (by kernel_rfl) (by kernel_rfl) fun w6 H =>Zl (Wi rfl)<|Zl (Wi rfl)<|Zn<|Zt ?_
 exact finCTT (cs0 := #[.int .i64 0, .int .i64 0, .int .i64 0, .slice none 0 0]) (v1 := .int .i64 0) (v2 := .int .i64 4) rfl agg_Coord rfl (H.ent (i := 0) rfl) rfl rfl rfl ⟨rfl, H.below⟩
set_option maxHeartbeats 4000000 in
set_option maxRecDepth 10000 in
theorem coFind_ok (c : Co) (s : ByteArray) (w : World) (h : c.rd 0 w.heap.size w) (hok : coOk c = true) (hn : nameOk s = true) : Ret Try.prog i_coord_find [c.v, .string s] w fun v w2 => ∃ (c' : Co) (L' : List (Nat × Obj)) (lo hi : Nat), v = .tuple #[c'.v, .int .i64 (nameIdx c s), .int .i64 0] ∧ NewCo w w2 c.a c' L' lo hi := by
 refine ret_of fn_coord_find rfl rfl ?_
 have hcap := h.cap
 have hfew := h.few
 have hfp := h.fewP
 have H := Hp.startCo h
 obtain ⟨ck, nx, wt, txs, cA, cc⟩ := c
 dsimp only at hcap hfew hfp H
 show CW _ _ _ _ (args [.agg #[.int .i64 ck, .int .i64 nx, .int .i64 wt, .slice cA txs.length cc], .string s]) w
 refine Zs<|Zr<|bxA H rfl rfl fun w1 b2 H =>bxT H rfl rfl fun w2 b3 H =>alo H z_Coord rfl fun w3 b4 H =>Zl (Wi rfl)<|Zl (Wi rfl)<|Zn<|Zs<|Zs<|Zr<|Zl (Zw agg_Coord H 2 rfl rfl rfl)<|cal cb_coord_Check (coCheck_ok ⟨ck, nx, wt, txs, cA, cc⟩ _ ⟨H.rd0 0 rfl, fun t ht => parts0 H 1 rfl ht, hcap, hfew, hfp⟩) rfl rfl ?_
 rw [hok]
 rintro _ w4 ⟨rfl, hb⟩; replace H := H.later hb; clear hb
 refine Zl (Wi rfl)<|Zn<|Zs<|Zr<|Zl (Yi rfl)<|Zl (neqF_r rfl rfl rfl)<|Zn<|ZF rfl<|Zk<|Zs<|Zs<|Zr<|Zl (Zd one_string H 1 rfl rfl rfl)<|cal cb_coord_name (name_ok s _) rfl rfl ?_
 rw [hn]
 rintro _ w5 ⟨rfl, hb⟩; replace H := H.later hb; clear hb
 refine Zl (not_r rfl)<|Zn<|ZF rfl<|Zk<|Zs ?_
 
 refine cw_tree mixed [2, 4] [0, 1, 3, 5, 6, 7, 8] [2, 4] 7 (by kernel_rfl) (by kernel_rfl) (by kernel_rfl) (fun _ _ _ h => h) ?_
 refine aw rfl rfl rfl rfl rfl (fun w' hw' => Zf fd_Coord_3 rfl)<|aw rfl rfl rfl rfl rfl (fun w' hw' => mkf_r rfl)<|aw_nil ?_
 intro w6 hw'; replace H := H.later hw'; clear hw'
 refine xw2 0 3 (by kernel_rfl) rfl rfl ?_ ?_ 
 ·
  refine Zl (Zw agg_Coord H 2 rfl rfl rfl)<|Zn ?_
  refine xw2 1 3 (by kernel_rfl) rfl rfl ?_ ?_ 
  ·
   refine cal cb_coord_Copy (coCopy_ok ⟨ck, nx, wt, txs, cA, cc⟩ _ ⟨H.rd0 0 rfl, fun t ht => parts0 H 1 rfl ht, hcap, hfew, hfp⟩) rfl rfl ?_
   have hsz0 := H.size
   rintro _ w7 ⟨⟨ck2, nx2, wt2, tx2, A2, c2⟩, L2, lo2, hi2, rfl, ha2, ho2, hoc2, hpc2, hlo2, hj2⟩
   replace H := Hp.joinF H hj2 (by intro f hf; rw [List.mem_singleton.1 hf]; exact hlo2); clear hj2
   simp only [Co.a, Co.mk.injEq] at ha2
   obtain ⟨e1, e2, e3, hma, -, -⟩ := ha2
   obtain rfl : ck = ck2 := e1.symm
   obtain rfl : nx = nx2 := e2.symm
   obtain rfl : wt = wt2 := e3.symm
   dsimp only at ho2 hoc2 hpc2 H
   refine Zn<|xw1 3 (by kernel_rfl) rfl<|Zl (Zd one_LTxn H 2 rfl rfl rfl)<|Zn<|xw1 5 (by kernel_rfl) rfl<|cal cb_slices_IndexFunc_LTxn_Txn (indexFunc_Txn_ok txs cA cc _ (H.rd0 1 rfl) (by omega) i_coord_find_c1 [.pointer (some ⟨b3, 0, none⟩)] cb_coord_find_c1 (fun p => decide (p.name = s)) (fun e w2 _ hw2 => find_c1_ok e s b3 w2 ((hw2.block _ (lt_of_heap (H.ent (i := 1) rfl))).trans (H.ent (i := 1) rfl)))) rfl rfl ?_
   rintro _ w8 ⟨rfl, hb⟩; replace H := H.later hb; clear hb
   refine Zn<|xw1 6 (by kernel_rfl) rfl<|stN H 0 (#[.int .i64 ck, .int .i64 nx, .int .i64 wt, .slice A2 tx2.length c2]) siz_Coord rfl rfl rfl rfl rfl (by kernel_rfl) (by kernel_rfl) fun w9 H =>Zn<|xw1 7 (by kernel_rfl) rfl<|Zl (Wi rfl)<|Zn<|xw1 8 (by kernel_rfl) rfl<|Zl (Wi rfl)<|Zn<|xw_end (by kernel_rfl)<|Zt ?_
   exact finCTT (cs0 := #[.int .i64 ck, .int .i64 nx, .int .i64 wt, .slice A2 tx2.length c2]) (v1 := .int .i64 (idxI (txs.findIdx? fun p => decide (p.name = s)))) (v2 := .int .i64 0) rfl agg_Coord rfl (H.ent (i := 0) rfl) rfl rfl rfl ⟨⟨ck, nx, wt, tx2, A2, c2⟩, L2, lo2, hi2, rfl, by unfold Co.a; dsimp only; rw [hma], ho2, hoc2, hpc2, Nat.le_trans hsz0 hlo2, H.forget (.cons _ (.cons _ (.cons _ (List.sublist_append_left _ _)))) (by simp)⟩
  ·
   refine Zl (Zd one_LTxn H 2 rfl rfl rfl)<|Zn<|xw1 1 (by kernel_rfl) rfl<|cal cb_coord_Copy (coCopy_ok ⟨ck, nx, wt, txs, cA, cc⟩ _ ⟨H.rd0 0 rfl, fun t ht => parts0 H 1 rfl ht, hcap, hfew, hfp⟩) rfl rfl ?_
   have hsz0 := H.size
   rintro _ w10 ⟨⟨ck2, nx2, wt2, tx2, A2, c2⟩, L2, lo2, hi2, rfl, ha2, ho2, hoc2, hpc2, hlo2, hj2⟩
   replace H := Hp.joinF H hj2 (by intro f hf; rw [List.mem_singleton.1 hf]; exact hlo2); clear hj2
   simp only [Co.a, Co.mk.injEq] at ha2
   obtain ⟨e1, e2, e3, hma, -, -⟩ := ha2
   obtain rfl : ck = ck2 := e1.symm
   obtain rfl : nx = nx2 := e2.symm
   obtain rfl : wt = wt2 := e3.symm
   dsimp only at ho2 hoc2 hpc2 H
   refine Zn<|xw1 5 (by kernel_rfl) rfl<|cal cb_slices_IndexFunc_LTxn_Txn (indexFunc_Txn_ok txs cA cc _ (H.rd0 1 rfl) (by omega) i_coord_find_c1 [.pointer (some ⟨b3, 0, none⟩)] cb_coord_find_c1 (fun p => decide (p.name = s)) (fun e w2 _ hw2 => find_c1_ok e s b3 w2 ((hw2.block _ (lt_of_heap (H.ent (i := 1) rfl))).trans (H.ent (i := 1) rfl)))) rfl rfl ?_
   rintro _ w11 ⟨rfl, hb⟩; replace H := H.later hb; clear hb
   refine Zn<|xw1 6 (by kernel_rfl) rfl<|stN H 0 (#[.int .i64 ck, .int .i64 nx, .int .i64 wt, .slice A2 tx2.length c2]) siz_Coord rfl rfl rfl rfl rfl (by kernel_rfl) (by kernel_rfl) fun w12 H =>Zn<|xw1 7 (by kernel_rfl) rfl<|Zl (Wi rfl)<|Zn<|xw1 8 (by kernel_rfl) rfl<|Zl (Wi rfl)<|Zn<|xw_end (by kernel_rfl)<|Zt ?_
   exact finCTT (cs0 := #[.int .i64 ck, .int .i64 nx, .int .i64 wt, .slice A2 tx2.length c2]) (v1 := .int .i64 (idxI (txs.findIdx? fun p => decide (p.name = s)))) (v2 := .int .i64 0) rfl agg_Coord rfl (H.ent (i := 0) rfl) rfl rfl rfl ⟨⟨ck, nx, wt, tx2, A2, c2⟩, L2, lo2, hi2, rfl, by unfold Co.a; dsimp only; rw [hma], ho2, hoc2, hpc2, Nat.le_trans hsz0 hlo2, H.forget (.cons _ (.cons _ (.cons _ (List.sublist_append_left _ _)))) (by simp)⟩
 ·
  refine Zl (Zd one_LTxn H 2 rfl rfl rfl)<|Zn<|xw1 0 (by kernel_rfl) rfl<|Zl (Zw agg_Coord H 2 rfl rfl rfl)<|Zn<|xw1 1 (by kernel_rfl) rfl<|cal cb_coord_Copy (coCopy_ok ⟨ck, nx, wt, txs, cA, cc⟩ _ ⟨H.rd0 0 rfl, fun t ht => parts0 H 1 rfl ht, hcap, hfew, hfp⟩) rfl rfl ?_
  have hsz0 := H.size
  rintro _ w13 ⟨⟨ck2, nx2, wt2, tx2, A2, c2⟩, L2, lo2, hi2, rfl, ha2, ho2, hoc2, hpc2, hlo2, hj2⟩
  replace H := Hp.joinF H hj2 (by intro f hf; rw [List.mem_singleton.1 hf]; exact hlo2); clear hj2
  simp only [Co.a, Co.mk.injEq] at ha2
  obtain ⟨e1, e2, e3, hma, -, -⟩ := ha2
  obtain rfl : ck = ck2 := e1.symm
  obtain rfl : nx = nx2 := e2.symm
  obtain rfl : wt = wt2 := e3.symm
  dsimp only at ho2 hoc2 hpc2 H
  refine Zn<|xw1 5 (by kernel_rfl) rfl<|cal cb_slices_IndexFunc_LTxn_Txn (indexFunc_Txn_ok txs cA cc _ (H.rd0 1 rfl) (by omega) i_coord_find_c1 [.pointer (some ⟨b3, 0, none⟩)] cb_coord_find_c1 (fun p => decide (p.name = s)) (fun e w2 _ hw2 => find_c1_ok e s b3 w2 ((hw2.block _ (lt_of_heap (H.ent (i := 1) rfl))).trans (H.ent (i := 1) rfl)))) rfl rfl ?_
  rintro _ w14 ⟨rfl, hb⟩; replace H := H.later hb; clear hb
  refine Zn<|xw1 6 (by kernel_rfl) rfl<|stN H 0 (#[.int .i64 ck, .int .i64 nx, .int .i64 wt, .slice A2 tx2.length c2]) siz_Coord rfl rfl rfl rfl rfl (by kernel_rfl) (by kernel_rfl) fun w15 H =>Zn<|xw1 7 (by kernel_rfl) rfl<|Zl (Wi rfl)<|Zn<|xw1 8 (by kernel_rfl) rfl<|Zl (Wi rfl)<|Zn<|xw_end (by kernel_rfl)<|Zt ?_
  exact finCTT (cs0 := #[.int .i64 ck, .int .i64 nx, .int .i64 wt, .slice A2 tx2.length c2]) (v1 := .int .i64 (idxI (txs.findIdx? fun p => decide (p.name = s)))) (v2 := .int .i64 0) rfl agg_Coord rfl (H.ent (i := 0) rfl) rfl rfl rfl ⟨⟨ck, nx, wt, tx2, A2, c2⟩, L2, lo2, hi2, rfl, by unfold Co.a; dsimp only; rw [hma], ho2, hoc2, hpc2, Nat.le_trans hsz0 hlo2, H.forget (.cons _ (.cons _ (.cons _ (List.sublist_append_left _ _)))) (by simp)⟩
end Go.Proofs.Ytemnchkebhclpaa
end

section
namespace Go.Proofs.Ytemnchkebhclpaa
open Go Go.Eng Go.RowKit
set_option linter.unusedSimpArgs false
theorem parts_more {w0 w : World} {L : List (Nat × Obj)} {F : List Fact} {lo hi : Nat} {ts : List Tx} (H : Hp w0 w L (FParts lo hi ts :: F)) (t : Tx) (ht : t.parts = []) : Hp w0 w L (FParts lo hi (ts ++ [t]) :: F) := by
 refine ⟨H.below, H.ents, H.nodup, fun f hf => ?_⟩
 rcases List.mem_cons.1 hf with rfl | hf
 ·
  have h1 := H.facts _ (List.mem_cons_self ..)
  refine ⟨fun x hx => ?_, h1.2.1, h1.2.2⟩
  rcases List.mem_append.1 hx with hx | hx
  ·
   exact h1.1 x hx
  ·
   rw [List.mem_singleton.1 hx, ht]; exact Rd.nil
 ·
  exact H.facts f (List.mem_cons_of_mem _ hf)
def newTx (s : ByteArray) (pid : Int) : Tx := ⟨s, pid, 0, 1, [], 0, 0, none, 0⟩
/-- P5.3: a producer that was not there -/
def coWith (c : Co) (s : ByteArray) : Co := { c with next := c.next + 1, txs := c.txs ++ [newTx s c.next] }
set_option maxHeartbeats 4000000 in
set_option maxRecDepth 10000 in
theorem coInit_bad (c : Co) (s : ByteArray) (w : World) (h : c.rd 0 w.heap.size w) (hok : coOk c = false) : Ret Try.prog i_coord_Init [c.v, .string s] w fun v w2 => v = .tuple #[.agg #[.int .i64 0, .int .i64 0, .int .i64 0, .slice none 0 0], .int .i64 0, .int .i64 0, .int .i64 12] ∧ Below w.heap.size w w2 := by
 refine ret_of fn_coord_Init rfl rfl ?_
 have hcap := h.cap
 have hfew := h.few
 have hfp := h.fewP
 have H := Hp.startCo h
 obtain ⟨ck, nx, wt, txs, cA, cc⟩ := c
 dsimp only at hcap hfew hfp H
 show CW _ _ _ _ (args [.agg #[.int .i64 ck, .int .i64 nx, .int .i64 wt, .slice cA txs.length cc], .string s]) w
 refine Zs<|Zr<|bxA H rfl rfl fun w1 b2 H =>alo H z_Coord rfl fun w2 b4 H =>Zl (Wi rfl)<|Zl (Wi rfl)<|Zl (Wi rfl)<|Zn<|Zs<|Zr<|Zl (Zw agg_Coord H 1 rfl rfl rfl)<|Zl (Yt rfl)<|cal cb_coord_find (coFind_bad ⟨ck, nx, wt, txs, cA, cc⟩ s _ ⟨H.rd0 0 rfl, fun t ht => parts0 H 1 rfl ht, hcap, hfew, hfp⟩ hok) rfl rfl ?_
 rintro _ w3 ⟨rfl, hb⟩; replace H := H.later hb; clear hb
 refine Zl (Yu rfl)<|Zl (Xa rfl rfl)<|Zl (Xi rfl rfl)<|Zl (Xi rfl rfl)<|stN H 1 (#[.int .i64 0, .int .i64 0, .int .i64 0, .slice none 0 0]) siz_Coord rfl rfl rfl rfl rfl (by kernel_rfl) (by kernel_rfl) fun w4 H =>Zl (Wi rfl)<|Zl (Wi rfl)<|Zn<|Zs<|Zs<|Zr<|Zl (Yi rfl)<|Zl (neqT_r rfl rfl (by decide))<|Zn ?_
 refine ZT rfl<|Zs<|Zr<|Zl (bld_r (cs := #[.int .i64 0, .int .i64 0, .int .i64 0, .slice none 0 0]) st_Coord z_Coord (by kernel_rfl))<|Zl (Yi rfl)<|stN H 0 (#[.int .i64 0, .int .i64 0, .int .i64 0, .slice none 0 0]) siz_Coord rfl rfl rfl rfl rfl (by kernel_rfl) (by kernel_rfl) fun w5 H =>Zl (Wi rfl)<|Zl (Wi rfl)<|Zl (Wi rfl)<|Zn<|Zt ?_
 exact finCTTT (cs0 := #[.int .i64 0, .int .i64 0, .int .i64 0, .slice none 0 0]) (v1 := .int .i64 0) (v2 := .int .i64 0) (v3 := .int .i64 12) rfl agg_Coord rfl (H.ent (i := 0) rfl) rfl rfl rfl rfl ⟨rfl, H.below⟩
set_option maxHeartbeats 4000000 in
set_option maxRecDepth 10000 in
theorem coInit_form (c : Co) (s : ByteArray) (w : World) (h : c.rd 0 w.heap.size w) (hok : coOk c = true) (hn : nameOk s = false) : Ret Try.prog i_coord_Init [c.v, .string s] w fun v w2 => v = .tuple #[.agg #[.int .i64 0, .int .i64 0, .int .i64 0, .slice none 0 0], .int .i64 0, .int .i64 0, .int .i64 4] ∧ Below w.heap.size w w2 := by
 refine ret_of fn_coord_Init rfl rfl ?_
 have hcap := h.cap
 have hfew := h.few
 have hfp := h.fewP
 have H := Hp.startCo h
 obtain ⟨ck, nx, wt, txs, cA, cc⟩ := c
 dsimp only at hcap hfew hfp H
 show CW _ _ _ _ (args [.agg #[.int .i64 ck, .int .i64 nx, .int .i64 wt, .slice cA txs.length cc], .string s]) w
 refine Zs<|Zr<|bxA H rfl rfl fun w1 b2 H =>alo H z_Coord rfl fun w2 b4 H =>Zl (Wi rfl)<|Zl (Wi rfl)<|Zl (Wi rfl)<|Zn<|Zs<|Zr<|Zl (Zw agg_Coord H 1 rfl rfl rfl)<|Zl (Yt rfl)<|cal cb_coord_find (coFind_form ⟨ck, nx, wt, txs, cA, cc⟩ s _ ⟨H.rd0 0 rfl, fun t ht => parts0 H 1 rfl ht, hcap, hfew, hfp⟩ hok hn) rfl rfl ?_
 rintro _ w3 ⟨rfl, hb⟩; replace H := H.later hb; clear hb
 refine Zl (Yu rfl)<|Zl (Xa rfl rfl)<|Zl (Xi rfl rfl)<|Zl (Xi rfl rfl)<|stN H 1 (#[.int .i64 0, .int .i64 0, .int .i64 0, .slice none 0 0]) siz_Coord rfl rfl rfl rfl rfl (by kernel_rfl) (by kernel_rfl) fun w4 H =>Zl (Wi rfl)<|Zl (Wi rfl)<|Zn<|Zs<|Zs<|Zr<|Zl (Yi rfl)<|Zl (neqT_r rfl rfl (by decide))<|Zn ?_
 refine ZT rfl<|Zs<|Zr<|Zl (bld_r (cs := #[.int .i64 0, .int .i64 0, .int .i64 0, .slice none 0 0]) st_Coord z_Coord (by kernel_rfl))<|Zl (Yi rfl)<|stN H 0 (#[.int .i64 0, .int .i64 0, .int .i64 0, .slice none 0 0]) siz_Coord rfl rfl rfl rfl rfl (by kernel_rfl) (by kernel_rfl) fun w5 H =>Zl (Wi rfl)<|Zl (Wi rfl)<|Zl (Wi rfl)<|Zn<|Zt ?_
 exact finCTTT (cs0 := #[.int .i64 0, .int .i64 0, .int .i64 0, .slice none 0 0]) (v1 := .int .i64 0) (v2 := .int .i64 0) (v3 := .int .i64 4) rfl agg_Coord rfl (H.ent (i := 0) rfl) rfl rfl rfl rfl ⟨rfl, H.below⟩
set_option maxHeartbeats 4000000 in
set_option maxRecDepth 10000 in
theorem coInit_full (c : Co) (s : ByteArray) (w : World) (h : c.rd 0 w.heap.size w) (hok : coOk c = true) (hn : nameOk s = true) (hi : nameIdx c s < 0) (hf : c.txs.length = 8) : Ret Try.prog i_coord_Init [c.v, .string s] w fun v w2 => v = .tuple #[.agg #[.int .i64 0, .int .i64 0, .int .i64 0, .slice none 0 0], .int .i64 0, .int .i64 0, .int .i64 16] ∧ Below w.heap.size w w2 := by
 refine ret_of fn_coord_Init rfl rfl ?_
 have hcap := h.cap
 have hfew := h.few
 have hfp := h.fewP
 have H := Hp.startCo h
 obtain ⟨ck, nx, wt, txs, cA, cc⟩ := c
 dsimp only at hcap hfew hfp H
 show CW _ _ _ _ (args [.agg #[.int .i64 ck, .int .i64 nx, .int .i64 wt, .slice cA txs.length cc], .string s]) w
 dsimp only at hf
 refine Zs<|Zr<|bxA H rfl rfl fun w1 b2 H =>alo H z_Coord rfl fun w2 b4 H =>Zl (Wi rfl)<|Zl (Wi rfl)<|Zl (Wi rfl)<|Zn<|Zs<|Zr<|Zl (Zw agg_Coord H 1 rfl rfl rfl)<|Zl (Yt rfl)<|cal cb_coord_find (coFind_ok ⟨ck, nx, wt, txs, cA, cc⟩ s _ ⟨H.rd0 0 rfl, fun t ht => parts0 H 1 rfl ht, hcap, hfew, hfp⟩ hok hn) rfl rfl ?_
 have hsz0 := H.size
 rintro _ w3 ⟨⟨ck2, nx2, wt2, tx2, A2, c2⟩, L2, lo2, hi2, rfl, ha2, ho2, hoc2, hpc2, hlo2, hj2⟩
 replace H := Hp.joinF H hj2 (by intro f hf; rw [List.mem_singleton.1 hf]; exact hlo2); clear hj2
 simp only [Co.a, Co.mk.injEq] at ha2
 obtain ⟨e1, e2, e3, hma, -, -⟩ := ha2
 obtain rfl : ck = ck2 := e1.symm
 obtain rfl : nx = nx2 := e2.symm
 obtain rfl : wt = wt2 := e3.symm
 dsimp only at ho2 hoc2 hpc2 H
 have hlen2 : tx2.length = txs.length := by have := congrArg List.length hma; simpa using this
 obtain ⟨b1, b2_, b3_, b4_, b5_, b6_, b7_⟩ := coOk_iff.1 hok
 dsimp only at b2_ b3_ b6_
 refine Zl (Yu rfl)<|Zl (Xa rfl rfl)<|Zl (Xi rfl rfl)<|Zl (Xi rfl rfl)<|stN H 1 (#[.int .i64 ck, .int .i64 nx, .int .i64 wt, .slice A2 tx2.length c2]) siz_Coord rfl rfl rfl rfl rfl (by kernel_rfl) (by kernel_rfl) fun w4 H =>Zl (Wi rfl)<|Zl (Wi rfl)<|Zn<|Zs<|Zs<|Zr<|Zl (Yi rfl)<|Zl (neqF_r rfl rfl rfl)<|Zn ?_
 refine ZF rfl<|Zk<|Zs<|Zs<|Zr<|Zl (Yi rfl)<|Zl (lssT_r rfl rfl hi)<|Zn<|ZT rfl<|Zs<|Zs<|Zr<|Zl (Zf fd_Coord_3 rfl)<|Zl (Zd one_LTxn H 1 rfl rfl rfl) ?_
 refine Zl (lenS_r len_LTxn rfl)<|Zl (eqlT_r rfl rfl (by omega))<|Zl (Yb rfl)<|ZN<|ZN<|ZN<|Zl (Kt rfl rfl)<|Zn<|ZT rfl<|Zs<|Zr<|Zl (bld_r (cs := #[.int .i64 0, .int .i64 0, .int .i64 0, .slice none 0 0]) st_Coord z_Coord (by kernel_rfl))<|stN H 0 (#[.int .i64 0, .int .i64 0, .int .i64 0, .slice none 0 0]) siz_Coord rfl rfl rfl rfl rfl (by kernel_rfl) (by kernel_rfl) fun w5 H =>Zl (Wi rfl) ?_
 refine Zl (Wi rfl)<|Zl (Wi rfl)<|Zn<|Zt ?_
 exact finCTTT (cs0 := #[.int .i64 0, .int .i64 0, .int .i64 0, .slice none 0 0]) (v1 := .int .i64 0) (v2 := .int .i64 0) (v3 := .int .i64 16) rfl agg_Coord rfl (H.ent (i := 0) rfl) rfl rfl rfl rfl ⟨rfl, H.below⟩
set_option maxHeartbeats 4000000 in
set_option maxRecDepth 10000 in
theorem coInit_new (c : Co) (s : ByteArray) (w : World) (h : c.rd 0 w.heap.size w) (hok : coOk c = true) (hn : nameOk s = true) (hi : nameIdx c s < 0) (hf : c.txs.length ≠ 8) (hx : c.next ≠ 1073741824) : Ret Try.prog i_coord_Init [c.v, .string s] w fun v w2 => ∃ (c' : Co) (L' : List (Nat × Obj)) (lo hi : Nat), v = .tuple #[c'.v, .int .i64 c.next, .int .i64 0, .int .i64 0] ∧ NewCo w w2 (coWith c.a s) c' L' lo hi := by
 refine ret_of fn_coord_Init rfl rfl ?_
 have hcap := h.cap
 have hfew := h.few
 have hfp := h.fewP
 have H := Hp.startCo h
 obtain ⟨ck, nx, wt, txs, cA, cc⟩ := c
 dsimp only at hcap hfew hfp H
 show CW _ _ _ _ (args [.agg #[.int .i64 ck, .int .i64 nx, .int .i64 wt, .slice cA txs.length cc], .string s]) w
 dsimp only at hf hx ⊢
 refine Zs<|Zr<|bxA H rfl rfl fun w1 b2 H =>alo H z_Coord rfl fun w2 b4 H =>Zl (Wi rfl)<|Zl (Wi rfl)<|Zl (Wi rfl)<|Zn<|Zs<|Zr<|Zl (Zw agg_Coord H 1 rfl rfl rfl)<|Zl (Yt rfl)<|cal cb_coord_find (coFind_ok ⟨ck, nx, wt, txs, cA, cc⟩ s _ ⟨H.rd0 0 rfl, fun t ht => parts0 H 1 rfl ht, hcap, hfew, hfp⟩ hok hn) rfl rfl ?_
 have hsz0 := H.size
 rintro _ w3 ⟨⟨ck2, nx2, wt2, tx2, A2, c2⟩, L2, lo2, hi2, rfl, ha2, ho2, hoc2, hpc2, hlo2, hj2⟩
 replace H := Hp.joinF H hj2 (by intro f hf; rw [List.mem_singleton.1 hf]; exact hlo2); clear hj2
 simp only [Co.a, Co.mk.injEq] at ha2
 obtain ⟨e1, e2, e3, hma, -, -⟩ := ha2
 obtain rfl : ck = ck2 := e1.symm
 obtain rfl : nx = nx2 := e2.symm
 obtain rfl : wt = wt2 := e3.symm
 dsimp only at ho2 hoc2 hpc2 H
 have hlen2 : tx2.length = txs.length := by have := congrArg List.length hma; simpa using this
 obtain ⟨b1, b2_, b3_, b4_, b5_, b6_, b7_⟩ := coOk_iff.1 hok
 dsimp only at b2_ b3_ b6_
 refine Zl (Yu rfl)<|Zl (Xa rfl rfl)<|Zl (Xi rfl rfl)<|Zl (Xi rfl rfl)<|stN H 1 (#[.int .i64 ck, .int .i64 nx, .int .i64 wt, .slice A2 tx2.length c2]) siz_Coord rfl rfl rfl rfl rfl (by kernel_rfl) (by kernel_rfl) fun w4 H =>Zl (Wi rfl)<|Zl (Wi rfl)<|Zn<|Zs<|Zs<|Zr<|Zl (Yi rfl)<|Zl (neqF_r rfl rfl rfl)<|Zn ?_
 refine ZF rfl<|Zk<|Zs<|Zs<|Zr<|Zl (Yi rfl)<|Zl (lssT_r rfl rfl hi)<|Zn<|ZT rfl<|Zs<|Zs<|Zr<|Zl (Zf fd_Coord_3 rfl)<|Zl (Zd one_LTxn H 1 rfl rfl rfl) ?_
 refine Zl (lenS_r len_LTxn rfl)<|Zl (eqlF_r rfl rfl (by omega))<|Zl (Yb rfl)<|ZG<|Zl (Zf fd_Coord_1 rfl)<|ZG<|Zl (Zd one_int H 1 rfl rfl rfl)<|ZG<|Zl (eqlF_r rfl rfl (by omega))<|Zl (Kf rfl rfl)<|Zn<|ZF rfl<|Zk<|Zs ?_
 refine Zr<|Zl (Zf fd_Coord_3 rfl)<|Zl (Zd one_LTxn H 1 rfl rfl rfl)<|Zl (Yt rfl)<|Zl (Zf fd_Coord_1 rfl)<|Zl (Zd one_int H 1 rfl rfl rfl)<|Zl (bld_r (cs := #[.string s, .int .i64 nx, .int .i64 0, .int .i64 1, .slice none 0 0, .int .i64 0, .int .i64 0]) st_Txn z_Txn (by kernel_rfl))<|bsv (vs := [.agg #[.string s, .int .i64 nx, .int .i64 0, .int .i64 1, .slice none 0 0, .int .i64 0, .int .i64 0]]) H sl_LTxn z_Txn rfl rfl rfl rfl rfl rfl fun w5 b40 H =>apO (Y := txL) ap_LTxn (K := [(b40, _), (b4, _), (b2, _)]) (L := L2) (M := []) H ho2 (news := [newTx s nx]) rfl rfl rfl (Src.row (m := 1) (sz := txL.sz) (H.ent (i := 0) rfl) rfl) (by simp only [List.length_singleton]; omega) rfl ?_
 intro A41 c41 w6 L41 h41 _ ho41 H
 refine Zl (Zf fd_Coord_3 rfl)<|stN H 2 (#[.int .i64 ck, .int .i64 nx, .int .i64 wt, .slice A41 (tx2 ++ [newTx s nx]).length c41]) siz_LTxn rfl rfl rfl rfl rfl (by kernel_rfl) (by kernel_rfl) fun w7 H =>Zn<|Zs<|Zr<|Zl (Zf fd_Coord_1 rfl)<|Zl (Zd one_int H 2 rfl rfl rfl)<|Zl (add_r rfl rfl (by omega) (by omega))<|Zl (Zf fd_Coord_1 rfl)<|stN H 2 (#[.int .i64 ck, .int .i64 (nx + 1), .int .i64 wt, .slice A41 (tx2 ++ [newTx s nx]).length c41]) siz_int rfl rfl rfl rfl rfl (by kernel_rfl) (by kernel_rfl) fun w8 H =>Zn<|Zs ?_
 
 refine cw_tree mixed [1] [0, 2, 3, 4, 5, 6, 7] [1] 7 (by kernel_rfl) (by kernel_rfl) (by kernel_rfl) (fun _ _ _ h => h) ?_
 refine aw rfl rfl rfl rfl rfl (fun w' hw' => Zf fd_Coord_1 rfl)<|aw_nil ?_
 intro w9 hw'; replace H := H.later hw'; clear hw'
 refine xw2 0 2 (by kernel_rfl) rfl rfl ?_ ?_ 
 ·
  refine Zl (Zw agg_Coord H 2 rfl rfl rfl)<|Zn ?_
  refine xw2 2 4 (by kernel_rfl) rfl rfl ?_ ?_ 
  ·
   refine Zl (Zd one_int H 2 rfl rfl rfl)<|Zn ?_
   refine xw2 3 4 (by kernel_rfl) rfl rfl ?_ ?_ 
   ·
    refine Zl (sub_r rfl rfl (by omega) (by omega))<|Zn<|xw1 4 (by kernel_rfl) rfl<|stN H 1 (#[.int .i64 ck, .int .i64 (nx + 1), .int .i64 wt, .slice A41 (tx2 ++ [newTx s nx]).length c41]) siz_Coord rfl rfl rfl rfl rfl (by kernel_rfl) (by kernel_rfl) fun w10 H =>Zn<|xw1 5 (by kernel_rfl) rfl<|Zl (Wi rfl)<|Zn<|xw1 6 (by kernel_rfl) rfl<|Zl (Wi rfl)<|Zn<|xw1 7 (by kernel_rfl) rfl<|Zl (Wi rfl)<|Zn ?_
    refine xw_end (by kernel_rfl)<|Zt ?_
    have HP := parts_more (H.forget (F' := [FParts lo2 hi2 tx2]) (.cons _ (.cons _ (.cons _ (List.sublist_append_left _ _)))) (by simp)) (newTx s nx) rfl
    exact finCTTT (cs0 := #[.int .i64 ck, .int .i64 (nx + 1), .int .i64 wt, .slice A41 (tx2 ++ [newTx s nx]).length c41]) (v1 := .int .i64 (nx + 1 - 1)) (v2 := .int .i64 0) (v3 := .int .i64 0) rfl agg_Coord rfl (H.ent (i := 1) rfl) rfl rfl rfl rfl ⟨⟨ck, nx + 1, wt, tx2 ++ [newTx s nx], A41, c41⟩, L41, lo2, hi2, by rw [show nx + 1 - 1 = nx by omega]; rfl, by unfold Co.a coWith; dsimp only; rw [List.map_append, hma]; rfl, ho41, h41, by intro t ht; rcases List.mem_append.1 ht with ht | ht; exact hpc2 t ht; rw [List.mem_singleton.1 ht]; exact Nat.le_refl _, Nat.le_trans hsz0 hlo2, HP⟩
   ·
    refine stN H 1 (#[.int .i64 ck, .int .i64 (nx + 1), .int .i64 wt, .slice A41 (tx2 ++ [newTx s nx]).length c41]) siz_Coord rfl rfl rfl rfl rfl (by kernel_rfl) (by kernel_rfl) fun w11 H =>Zn<|xw1 3 (by kernel_rfl) rfl<|Zl (sub_r rfl rfl (by omega) (by omega))<|Zn<|xw1 5 (by kernel_rfl) rfl<|Zl (Wi rfl)<|Zn<|xw1 6 (by kernel_rfl) rfl<|Zl (Wi rfl)<|Zn<|xw1 7 (by kernel_rfl) rfl<|Zl (Wi rfl)<|Zn ?_
    refine xw_end (by kernel_rfl)<|Zt ?_
    have HP := parts_more (H.forget (F' := [FParts lo2 hi2 tx2]) (.cons _ (.cons _ (.cons _ (List.sublist_append_left _ _)))) (by simp)) (newTx s nx) rfl
    exact finCTTT (cs0 := #[.int .i64 ck, .int .i64 (nx + 1), .int .i64 wt, .slice A41 (tx2 ++ [newTx s nx]).length c41]) (v1 := .int .i64 (nx + 1 - 1)) (v2 := .int .i64 0) (v3 := .int .i64 0) rfl agg_Coord rfl (H.ent (i := 1) rfl) rfl rfl rfl rfl ⟨⟨ck, nx + 1, wt, tx2 ++ [newTx s nx], A41, c41⟩, L41, lo2, hi2, by rw [show nx + 1 - 1 = nx by omega]; rfl, by unfold Co.a coWith; dsimp only; rw [List.map_append, hma]; rfl, ho41, h41, by intro t ht; rcases List.mem_append.1 ht with ht | ht; exact hpc2 t ht; rw [List.mem_singleton.1 ht]; exact Nat.le_refl _, Nat.le_trans hsz0 hlo2, HP⟩
  ·
   refine stN H 1 (#[.int .i64 ck, .int .i64 (nx + 1), .int .i64 wt, .slice A41 (tx2 ++ [newTx s nx]).length c41]) siz_Coord rfl rfl rfl rfl rfl (by kernel_rfl) (by kernel_rfl) fun w12 H =>Zn<|xw1 2 (by kernel_rfl) rfl<|Zl (Zd one_int H 2 rfl rfl rfl)<|Zn<|xw1 3 (by kernel_rfl) rfl<|Zl (sub_r rfl rfl (by omega) (by omega))<|Zn<|xw1 5 (by kernel_rfl) rfl<|Zl (Wi rfl)<|Zn<|xw1 6 (by kernel_rfl) rfl<|Zl (Wi rfl)<|Zn ?_
   refine xw1 7 (by kernel_rfl) rfl<|Zl (Wi rfl)<|Zn<|xw_end (by kernel_rfl)<|Zt ?_
   have HP := parts_more (H.forget (F' := [FParts lo2 hi2 tx2]) (.cons _ (.cons _ (.cons _ (List.sublist_append_left _ _)))) (by simp)) (newTx s nx) rfl
   exact finCTTT (cs0 := #[.int .i64 ck, .int .i64 (nx + 1), .int .i64 wt, .slice A41 (tx2 ++ [newTx s nx]).length c41]) (v1 := .int .i64 (nx + 1 - 1)) (v2 := .int .i64 0) (v3 := .int .i64 0) rfl agg_Coord rfl (H.ent (i := 1) rfl) rfl rfl rfl rfl ⟨⟨ck, nx + 1, wt, tx2 ++ [newTx s nx], A41, c41⟩, L41, lo2, hi2, by rw [show nx + 1 - 1 = nx by omega]; rfl, by unfold Co.a coWith; dsimp only; rw [List.map_append, hma]; rfl, ho41, h41, by intro t ht; rcases List.mem_append.1 ht with ht | ht; exact hpc2 t ht; rw [List.mem_singleton.1 ht]; exact Nat.le_refl _, Nat.le_trans hsz0 hlo2, HP⟩
 ·
  refine Zl (Zd one_int H 2 rfl rfl rfl)<|Zn ?_
  refine xw2 0 3 (by kernel_rfl) rfl rfl ?_ ?_ 
  ·
   refine Zl (Zw agg_Coord H 2 rfl rfl rfl)<|Zn ?_
   refine xw2 3 4 (by kernel_rfl) rfl rfl ?_ ?_ 
   ·
    refine Zl (sub_r rfl rfl (by omega) (by omega))<|Zn<|xw1 4 (by kernel_rfl) rfl<|stN H 1 (#[.int .i64 ck, .int .i64 (nx + 1), .int .i64 wt, .slice A41 (tx2 ++ [newTx s nx]).length c41]) siz_Coord rfl rfl rfl rfl rfl (by kernel_rfl) (by kernel_rfl) fun w13 H =>Zn<|xw1 5 (by kernel_rfl) rfl<|Zl (Wi rfl)<|Zn<|xw1 6 (by kernel_rfl) rfl<|Zl (Wi rfl)<|Zn<|xw1 7 (by kernel_rfl) rfl<|Zl (Wi rfl)<|Zn ?_
    refine xw_end (by kernel_rfl)<|Zt ?_
    have HP := parts_more (H.forget (F' := [FParts lo2 hi2 tx2]) (.cons _ (.cons _ (.cons _ (List.sublist_append_left _ _)))) (by simp)) (newTx s nx) rfl
    exact finCTTT (cs0 := #[.int .i64 ck, .int .i64 (nx + 1), .int .i64 wt, .slice A41 (tx2 ++ [newTx s nx]).length c41]) (v1 := .int .i64 (nx + 1 - 1)) (v2 := .int .i64 0) (v3 := .int .i64 0) rfl agg_Coord rfl (H.ent (i := 1) rfl) rfl rfl rfl rfl ⟨⟨ck, nx + 1, wt, tx2 ++ [newTx s nx], A41, c41⟩, L41, lo2, hi2, by rw [show nx + 1 - 1 = nx by omega]; rfl, by unfold Co.a coWith; dsimp only; rw [List.map_append, hma]; rfl, ho41, h41, by intro t ht; rcases List.mem_append.1 ht with ht | ht; exact hpc2 t ht; rw [List.mem_singleton.1 ht]; exact Nat.le_refl _, Nat.le_trans hsz0 hlo2, HP⟩
   ·
    refine stN H 1 (#[.int .i64 ck, .int .i64 (nx + 1), .int .i64 wt, .slice A41 (tx2 ++ [newTx s nx]).length c41]) siz_Coord rfl rfl rfl rfl rfl (by kernel_rfl) (by kernel_rfl) fun w14 H =>Zn<|xw1 3 (by kernel_rfl) rfl<|Zl (sub_r rfl rfl (by omega) (by omega))<|Zn<|xw1 5 (by kernel_rfl) rfl<|Zl (Wi rfl)<|Zn<|xw1 6 (by kernel_rfl) rfl<|Zl (Wi rfl)<|Zn<|xw1 7 (by kernel_rfl) rfl<|Zl (Wi rfl)<|Zn ?_
    refine xw_end (by kernel_rfl)<|Zt ?_
    have HP := parts_more (H.forget (F' := [FParts lo2 hi2 tx2]) (.cons _ (.cons _ (.cons _ (List.sublist_append_left _ _)))) (by simp)) (newTx s nx) rfl
    exact finCTTT (cs0 := #[.int .i64 ck, .int .i64 (nx + 1), .int .i64 wt, .slice A41 (tx2 ++ [newTx s nx]).length c41]) (v1 := .int .i64 (nx + 1 - 1)) (v2 := .int .i64 0) (v3 := .int .i64 0) rfl agg_Coord rfl (H.ent (i := 1) rfl) rfl rfl rfl rfl ⟨⟨ck, nx + 1, wt, tx2 ++ [newTx s nx], A41, c41⟩, L41, lo2, hi2, by rw [show nx + 1 - 1 = nx by omega]; rfl, by unfold Co.a coWith; dsimp only; rw [List.map_append, hma]; rfl, ho41, h41, by intro t ht; rcases List.mem_append.1 ht with ht | ht; exact hpc2 t ht; rw [List.mem_singleton.1 ht]; exact Nat.le_refl _, Nat.le_trans hsz0 hlo2, HP⟩
  ·
   refine Zl (sub_r rfl rfl (by omega) (by omega))<|Zn<|xw1 0 (by kernel_rfl) rfl<|Zl (Zw agg_Coord H 2 rfl rfl rfl)<|Zn<|xw1 4 (by kernel_rfl) rfl<|stN H 1 (#[.int .i64 ck, .int .i64 (nx + 1), .int .i64 wt, .slice A41 (tx2 ++ [newTx s nx]).length c41]) siz_Coord rfl rfl rfl rfl rfl (by kernel_rfl) (by kernel_rfl) fun w15 H =>Zn<|xw1 5 (by kernel_rfl) rfl<|Zl (Wi rfl)<|Zn<|xw1 6 (by kernel_rfl) rfl<|Zl (Wi rfl)<|Zn ?_
   refine xw1 7 (by kernel_rfl) rfl<|Zl (Wi rfl)<|Zn<|xw_end (by kernel_rfl)<|Zt ?_
   have HP := parts_more (H.forget (F' := [FParts lo2 hi2 tx2]) (.cons _ (.cons _ (.cons _ (List.sublist_append_left _ _)))) (by simp)) (newTx s nx) rfl
   exact finCTTT (cs0 := #[.int .i64 ck, .int .i64 (nx + 1), .int .i64 wt, .slice A41 (tx2 ++ [newTx s nx]).length c41]) (v1 := .int .i64 (nx + 1 - 1)) (v2 := .int .i64 0) (v3 := .int .i64 0) rfl agg_Coord rfl (H.ent (i := 1) rfl) rfl rfl rfl rfl ⟨⟨ck, nx + 1, wt, tx2 ++ [newTx s nx], A41, c41⟩, L41, lo2, hi2, by rw [show nx + 1 - 1 = nx by omega]; rfl, by unfold Co.a coWith; dsimp only; rw [List.map_append, hma]; rfl, ho41, h41, by intro t ht; rcases List.mem_append.1 ht with ht | ht; exact hpc2 t ht; rw [List.mem_singleton.1 ht]; exact Nat.le_refl _, Nat.le_trans hsz0 hlo2, HP⟩
end Go.Proofs.Ytemnchkebhclpaa
end
