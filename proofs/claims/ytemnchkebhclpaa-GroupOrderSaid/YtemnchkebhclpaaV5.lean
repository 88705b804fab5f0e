/- V5: a part of the proofs over this seat: what stands in its theorems holds for every input that they name. -/
import Derived.Test.YtemnchkebhclpaaGV
import Derived.Test.YtemnchkebhclpaaEngZ
open Go.Eng renaming lw_nil → Zn, cw_seq → Zs, cw_region → Zr, cw_skip → Zk, cw_ret → Zt, cw_block → Zb, cw_exit → Zx, mvI_r → Yi, mvB_r → Yb, mvS_r → Ys, mvP_r → Yp, mvT_r → Yt, mvU_r → Yu, mvA_r → Ya, asI_r → Wi, asB_r → Wb, asS_r → Ws, asP_r → Wp, asT_r → Wt, fad_r → Zf, exI_r → Xi, exA_r → Xa, exB_r → Xb, exS_r → Xs, pkTB_r → Kt, pkFB_r → Kf, cw_true → ZT, cw_false → ZF
namespace Go.Proofs.Ytemnchkebhclpaa
open Go Go.Eng Go.RowKit
set_option linter.unusedSimpArgs false
def markIs (es : List Ent) (m : Int) (x : Ent) : Bool := match es[m.toNat]? with
 | some e => decide (e.kind = x.kind) && decide (e.ver = x.ver)
 | none => false
def isDup (x e : Ent) : Bool := decide (e.kind = 1) && decide (e.pid = x.pid) && decide (e.ver = x.ver) && decide (e.seq = x.seq)
def vchkP (es : List Ent) (x : Ent) (p : Prod) : Int × Int :=
 if x.ver < p.ver then (0, 10)
 else if ¬ x.kind = 1 then (if p.open_ < 0 ∧ 0 ≤ p.mark ∧ markIs es p.mark x = true then (p.mark, 0) else (-1, 0))
 else if (if p.ver < x.ver then -1 else p.seq) + 1 < x.seq then (0, 11)
 else if x.seq = (if p.ver < x.ver then -1 else p.seq) + 1 then (-1, 0)
 else match es.findIdx? (isDup x) with
  | some i => ((i : Int), 0)
  | none => (0, 11)
/-- P3.1: where an entry that is to come stands, and whether it may come -/
def vchk (es : List Ent) (x : Ent) : Int × Int := if x.pid = 0 then (-1, 0) else vchkP es x ((prodF es x.pid).getD ⟨x.ver, -1, -1, -1⟩)
def SpRep (w : World) (es : List Ent) : Sp := ⟨fun v w2 => ∃ S bm, v = .map (some bm) ∧ PS S es ∧ Hp w w2 (ploc bm S) [], fun _ _ _ hb ⟨S, bm, h1, h2, h3⟩ => ⟨S, bm, h1, h2, h3.later hb⟩⟩
def seqB (es : List Ent) : Prop := ∀ e ∈ es, -1000000000000000 ≤ e.seq ∧ e.seq ≤ 1000000000000000
theorem prod_bounds {es : List Ent} {x : Ent} (hq : seqB es) {p : Prod} (hp : p = (prodF es x.pid).getD ⟨x.ver, -1, -1, -1⟩) : (p.mark = -1 ∨ ∃ (k : Nat) (y : Ent), p.mark = k ∧ es[k]? = some y) ∧ -1000000000000000 ≤ p.seq ∧ p.seq ≤ 1000000000000000 := by
 cases h : prodF es x.pid with
 | none => rw [h] at hp; subst hp; exact ⟨.inl rfl, by simp⟩
 | some q =>
  rw [h] at hp
  simp at hp
  subst hp
  have hi := (prodF_inv es x.pid).1 p h
  refine ⟨?_, ?_⟩
  ·
   rcases hi.mark with h | ⟨k, e, h1, h2, _⟩
   ·
    exact .inl h
   ·
    exact .inr ⟨k, e, h1, h2⟩
  ·
   rcases hi.seq with h | ⟨e, he, _, _, h, _⟩
   ·
    omega
   ·
    have := hq e he; omega
theorem dup_none {es : List Ent} {x : Ent} (h : ∀ j e, j < es.length → es[j]? = some e → isDup x e = false) : es.findIdx? (isDup x) = none := by
 rw [List.findIdx?_eq_none_iff]
 intro e he
 obtain ⟨j, hj⟩ := List.mem_iff_getElem?.1 he
 exact h j e (getE hj).1 hj
theorem dup_some {es : List Ent} {x y : Ent} {k : Nat} (hk : es[k]? = some y) (hy : isDup x y = true) (h : ∀ j e, j < k → es[j]? = some e → isDup x e = false) : es.findIdx? (isDup x) = some k := by
 rw [List.findIdx?_eq_some_iff_getElem]
 obtain ⟨hl, rfl⟩ := getE hk
 exact ⟨hl, hy, fun j hj => by rw [h j _ hj (List.getElem?_eq_getElem (by omega))]; simp⟩
set_option maxHeartbeats 4000000 in
set_option maxRecDepth 10000 in
theorem vcheck_ok (es : List Ent) (A : Option Addr) (c : Nat) (x : Ent) (w : World) (hr : Rd entL 0 w.heap.size A es w) (hb : es.length ≤ 1000000) (hq : seqB es) :
  Ret Try.prog i_view_Check [.slice A es.length c, x.v] w fun v w2 => v = .tuple #[.int .i64 (vchk es x).1, .int .i64 (vchk es x).2] ∧ Below w.heap.size w w2 := by
 refine ret_of fn_view_Check rfl rfl ?_
 have H := Hp.startRd hr
 refine Zs<|Zr<|bxA H rfl rfl fun w1 b3 H =>Zl (Wi rfl)<|Zl (Wi rfl)<|Zn<|Zs<|Zs<|Zr<|Zl (Zf fd_Entry_1 rfl)<|Zl (Zd one_int H 0 rfl rfl rfl) ?_
 refine lwD (eql_r rfl rfl) rfl rfl rfl (fun h11 => ?_) (fun h11 => ?_)
 ·
  refine Zn<|ZT rfl<|Zs<|Zr<|Zl (Wi rfl)<|Zl (Wi rfl)<|Zn<|Zt ?_
  have hv : vchk es x = (-1, 0) := by unfold vchk; rw [if_pos h11]
  exact fin2 (v := .int .i64 (-1)) (v2 := .int .i64 0) rfl rfl rfl ⟨by rw [hv], H.below⟩
 ·
  refine Zn<|ZF rfl<|Zk<|Zs ?_
   
  refine cw_draw mixed [0, 2, 3, 1] [4, 5] [1] [0, 2] (sp [(1, SpRep w1 es)]) (by kernel_rfl) (by kernel_rfl) (by kernel_rfl) (by kernel_rfl) (fun _ _ _ h => h) (sp_st _) ?_
  refine aw rfl rfl rfl rfl rfl (fun w' hw' => Ys rfl)<|aw rfl rfl rfl rfl rfl (fun w' hw' => Zf fd_Entry_1 rfl)<|aw rfl rfl rfl rfl rfl (fun w' hw' => ld_r one_int rfl (cellE ((H.later hw').ent (i := 0) rfl) rfl)) ?_
  refine awCal cb_view_replay rfl rfl rfl rfl (fun w' hw' => (replay_ok es _ _ w' ((H.later hw').rd0 0 rfl) hb).mono (fun v w2 ⟨S, bm, h1, h2, h3⟩ => ⟨h3.below, S, bm, h1, h2, Hp.base hw' h3⟩)) rfl ?_; rintro v13 -
  refine aw_nil ?_
  intro w2 hw' hF
  obtain ⟨-, S, bm, rfl, hS, hj⟩ := hF
  replace H := H.join hj; clear hj hw'
  have hb3 := H.ent (i := S.length + 1) (b := b3) (o := .cells (Ent.c x).toArray T_Entry (0, 0)) (by simp [ploc])
  rcases look_cases S x.pid with hno | ⟨j, b, p, hj⟩
  ·
   refine Zl (lkN_r mp_prods z_Pproducer rfl rfl (H.ent (i := 0) rfl) (by intro q hq; obtain ⟨a, ha, rfl⟩ := List.mem_map.1 hq; exact hno a ha))<|Zl (Wp rfl)<|Zn<|Zs ?_
   refine cw_cut (τ := Nat × Int × Int × Int × Int × List (Nat × Obj)) [6, 17, 18, 19, 20, 21, 22] (fun (b, _, _, _, _, _) => [(6, pval b)]) (fun (b, pv_, ps, po, pm, K) w' => (⟨pv_, ps, po, pm⟩ : Prod) = (prodF es x.pid).getD ⟨x.ver, -1, -1, -1⟩ ∧ Hp w w' ((b, .cells #[.int .i64 pv_, .int .i64 ps, .int .i64 po, .int .i64 pm] T_producer (0, 0)) :: (b3, .cells (Ent.c x).toArray T_Entry (0, 0)) :: K) [FRd entL 0 w.heap.size A es]) ?_ ?_
   ·
    skip
    refine Zs<|Zr<|Zl (Yp rfl)<|Zl (peqN_r ptr_Pproducer rfl)<|Zn<|ZT rfl<|Zr<|Zl (Zf fd_Entry_2 rfl)<|Zl (ld_r one_int rfl (cellE hb3 rfl))<|Zl (bld_r (cs := #[.int .i64 x.ver, .int .i64 (-1), .int .i64 (-1), .int .i64 (-1)]) st_producer z_producer (by kernel_rfl))<|bxA H rfl rfl fun w3 b22 H =>Zl (Wp rfl)<|Zn ?_
    refine ⟨(b22, x.ver, -1, -1, -1, ploc bm S), ⟨by rw [← hS.2, look_none hno]; rfl, H.perm ((List.perm_append_singleton _ _).symm.cons _)⟩, sl1 rfl, by repeat (first | exact Agr.refl _ _ | exact agr_ovr | refine agr_upd rfl ?_ | refine agr_updL _ rfl ?_ | refine agr_ovr2 rfl ?_)⟩
   rintro ⟨b, pv_, ps, po, pm, K⟩ ρ2 w4 ⟨hp, H⟩
   show CW _ _ _ _ (updL (ovr _ _ ρ2) [(6, pval b)]) w4
   obtain ⟨hmark, hsq1, hsq2⟩ := prod_bounds hq hp
   dsimp only at hsq1 hsq2
   refine Zs<|Zb<|Zs ?_
     
   refine cw_draw mixed [0, 1, 2, 3, 4, 5, 6, 7] [] [] [0, 2, 3, 4, 6, 7] (sp []) (by kernel_rfl) (by kernel_rfl) (by kernel_rfl) (by kernel_rfl) (fun _ _ _ h => h) (sp_st _) ?_
   refine aw rfl rfl rfl rfl rfl (fun w' hw' => Zf fd_Entry_2 rfl)<|aw rfl rfl rfl rfl rfl (fun w' hw' => ld_r one_int rfl (cellE ((H.later hw').ent (i := 1) rfl) rfl))<|aw rfl rfl rfl rfl rfl (fun w' hw' => Yp rfl)<|aw rfl rfl rfl rfl rfl (fun w' hw' => nck_r rfl)<|aw rfl rfl rfl rfl rfl (fun w' hw' => Zf fd_producer_0 rfl)<|aw rfl rfl rfl rfl rfl (fun w' hw' => ld_r one_int rfl (cellE ((H.later hw').ent (i := 0) rfl) rfl)) ?_
   refine awD rfl rfl rfl rfl rfl (fun w' hw' => lss_r rfl rfl) (fun h30 => ?_) (fun h30 => ?_)
   ·
    refine aw rfl rfl rfl rfl rfl (fun w' hw' => Wb rfl)<|aw_nil ?_
    intro w5 hw' hF
    replace H := H.later hw'; clear hw' hF
    refine Zn<|ZT rfl<|Zs<|Zr<|Zl (Wi rfl)<|Zl (Wi rfl)<|Zn<|Zt ?_
    have hv : vchk es x = (0, 10) := by
     unfold vchk; rw [if_neg h11, ← hp]; unfold vchkP; simp [h30]
    exact fin2 (v := .int .i64 (0)) (v2 := .int .i64 10) rfl rfl rfl ⟨by rw [hv], H.below⟩
   ·
    refine aw rfl rfl rfl rfl rfl (fun w' hw' => Wb rfl)<|aw_nil ?_
    intro w6 hw' hF
    replace H := H.later hw'; clear hw' hF
    refine Zn<|ZF rfl<|Zs<|Zr<|Zl (Zf fd_Entry_4 rfl)<|Zl (Zd one_int H 1 rfl rfl rfl) ?_
    refine lwND (neq_r rfl rfl) rfl rfl rfl (fun h34 => ?_) (fun h34 => ?_)
    ·
     refine Zl (Wb rfl)<|Zn<|ZT rfl<|Zs<|Zs ?_
         
     refine cw_draw mixed [0, 1, 2, 3, 4, 5, 6, 7, 8, 9, 10, 11, 12, 13, 14, 15, 16, 17, 18, 19, 20, 21, 22, 23, 24, 25, 26, 27, 28, 29, 30, 31, 32, 33, 34, 35, 36, 37] [] [] [0, 1, 2, 4, 5, 6, 7, 8, 10, 11, 12, 13, 14, 15, 16, 18, 19, 21, 23, 24, 25, 26, 27, 28, 29, 31, 32, 34, 36, 37] (sp []) (by kernel_rfl) (by kernel_rfl) (by kernel_rfl) (by kernel_rfl) (fun _ _ _ h => h) (sp_st _) ?_
     refine aw rfl rfl rfl rfl rfl (fun w' hw' => Yp rfl)<|aw rfl rfl rfl rfl rfl (fun w' hw' => nck_r rfl)<|aw rfl rfl rfl rfl rfl (fun w' hw' => Zf fd_producer_2 rfl)<|aw rfl rfl rfl rfl rfl (fun w' hw' => ld_r one_int rfl (cellE ((H.later hw').ent (i := 0) rfl) rfl)) ?_
     refine awD rfl rfl rfl rfl rfl (fun w' hw' => lss_r rfl rfl) (fun h39 => ?_) (fun h39 => ?_)
     ·
      refine aw rfl rfl rfl rfl rfl (fun w' hw' => Yb rfl)<|aw rfl rfl rfl rfl rfl (fun w' hw' => Yp rfl)<|aw rfl rfl rfl rfl rfl (fun w' hw' => nck_r rfl)<|aw rfl rfl rfl rfl rfl (fun w' hw' => Zf fd_producer_3 rfl)<|aw rfl rfl rfl rfl rfl (fun w' hw' => ld_r one_int rfl (cellE ((H.later hw').ent (i := 0) rfl) rfl)) ?_
      refine awD rfl rfl rfl rfl rfl (fun w' hw' => geq_r rfl rfl) (fun h45 => ?_) (fun h45 => ?_)
      ·
       rcases hmark with hm1 | ⟨k, y, hmk, hyk⟩
       ·
        exfalso; dsimp only at hm1 h45; omega
       dsimp only at hmk
       subst hmk
       have hkl := (getE hyk).1
       refine aw rfl rfl rfl rfl rfl (fun w' hw' => Kt rfl rfl)<|aw rfl rfl rfl rfl rfl (fun w' hw' => Yb rfl)<|aw rfl rfl rfl rfl rfl (fun w' hw' => Ys rfl)<|aw rfl rfl rfl rfl rfl (fun w' hw' => Yp rfl)<|aw rfl rfl rfl rfl rfl (fun w' hw' => nck_r rfl)<|aw rfl rfl rfl rfl rfl (fun w' hw' => Zf fd_producer_3 rfl)<|aw rfl rfl rfl rfl rfl (fun w' hw' => ld_r one_int rfl (cellE ((H.later hw').ent (i := 0) rfl) rfl))<|awIxF H 0 rfl rfl rfl rfl rfl sl_LEntry rfl rfl (by omega) (by omega) fun b7 o7 x7 e7 => ?_
       obtain rfl : y = x7 := by have := e7.at_; rw [hyk] at this; injection this
       refine aw rfl rfl rfl rfl rfl (fun w' hw' => Zf fd_Entry_4 rfl)<|aw rfl rfl rfl rfl rfl (fun w' hw' => ld_r one_int rfl (e7.later hw' 4 _ rfl))<|aw rfl rfl rfl rfl rfl (fun w' hw' => Zf fd_Entry_4 rfl)<|aw rfl rfl rfl rfl rfl (fun w' hw' => ld_r one_int rfl (cellE ((H.later hw').ent (i := 1) rfl) rfl)) ?_
       refine awD rfl rfl rfl rfl rfl (fun w' hw' => eql_r rfl rfl) (fun h58 => ?_) (fun h58 => ?_)
       ·
        refine aw rfl rfl rfl rfl rfl (fun w' hw' => Kt rfl rfl)<|aw rfl rfl rfl rfl rfl (fun w' hw' => Yb rfl)<|aw rfl rfl rfl rfl rfl (fun w' hw' => Ys rfl)<|aw rfl rfl rfl rfl rfl (fun w' hw' => Yp rfl)<|aw rfl rfl rfl rfl rfl (fun w' hw' => nck_r rfl)<|aw rfl rfl rfl rfl rfl (fun w' hw' => Zf fd_producer_3 rfl)<|aw rfl rfl rfl rfl rfl (fun w' hw' => ld_r one_int rfl (cellE ((H.later hw').ent (i := 0) rfl) rfl))<|awIxF H 0 rfl rfl rfl rfl rfl sl_LEntry rfl rfl (by omega) (by omega) fun b8 o8 x8 e8 => ?_
        obtain rfl : y = x8 := by have := e8.at_; rw [hyk] at this; injection this
        refine aw rfl rfl rfl rfl rfl (fun w' hw' => Zf fd_Entry_2 rfl)<|aw rfl rfl rfl rfl rfl (fun w' hw' => ld_r one_int rfl (e8.later hw' 2 _ rfl))<|aw rfl rfl rfl rfl rfl (fun w' hw' => Zf fd_Entry_2 rfl)<|aw rfl rfl rfl rfl rfl (fun w' hw' => ld_r one_int rfl (cellE ((H.later hw').ent (i := 1) rfl) rfl)) ?_
        refine awD rfl rfl rfl rfl rfl (fun w' hw' => eql_r rfl rfl) (fun h71 => ?_) (fun h71 => ?_)
        ·
         refine aw rfl rfl rfl rfl rfl (fun w' hw' => Kt rfl rfl)<|aw_nil ?_
         intro w9 hw' hF
         replace H := H.later hw'; clear hw' hF
         refine Zn<|ZT rfl<|Zs<|Zr<|Zl (Yp rfl)<|Zl (nck_r rfl)<|Zl (Zf fd_producer_3 rfl)<|Zl (Zd one_int H 0 rfl rfl rfl)<|Zl (Wi rfl)<|Zl (Wi rfl)<|Zn<|Zt ?_
         have hmk : markIs es (k : Nat) x = true := by
          unfold markIs; rw [show ((k : Nat) : Int).toNat = k from rfl, hyk]; simp [h58, h71]
         have hv : vchk es x = ((k : Int), 0) := by
          unfold vchk; rw [if_neg h11, ← hp]; unfold vchkP; simp [h30, h34, h39, h45, h58, h71, hmk]
         exact fin2 (v := .int .i64 ((k : Int))) (v2 := .int .i64 0) rfl rfl rfl ⟨by rw [hv], H.below⟩
        ·
         refine aw rfl rfl rfl rfl rfl (fun w' hw' => Kt rfl rfl)<|aw_nil ?_
         intro w10 hw' hF
         replace H := H.later hw'; clear hw' hF
         refine Zn<|ZF rfl<|Zk<|Zs<|Zr<|Zl (Wi rfl)<|Zl (Wi rfl)<|Zn<|Zt ?_
         have hmk : markIs es (k : Nat) x = false := by
          unfold markIs; rw [show ((k : Nat) : Int).toNat = k from rfl, hyk]; simp [h58, h71]
         have hv : vchk es x = (-1, 0) := by
          unfold vchk; rw [if_neg h11, ← hp]; unfold vchkP; simp [h30, h34, h39, h45, h58, h71, hmk]
         exact fin2 (v := .int .i64 (-1)) (v2 := .int .i64 0) rfl rfl rfl ⟨by rw [hv], H.below⟩
       ·
        refine aw rfl rfl rfl rfl rfl (fun w' hw' => Kt rfl rfl)<|aw rfl rfl rfl rfl rfl (fun w' hw' => Yb rfl)<|awN rfl rfl rfl rfl<|awN rfl rfl rfl rfl<|awN rfl rfl rfl rfl<|awN rfl rfl rfl rfl<|awN rfl rfl rfl rfl<|awN rfl rfl rfl rfl<|awN rfl rfl rfl rfl<|awN rfl rfl rfl rfl<|awN rfl rfl rfl rfl<|awN rfl rfl rfl rfl<|awN rfl rfl rfl rfl<|aw rfl rfl rfl rfl rfl (fun w' hw' => Kf rfl rfl) ?_
        refine aw_nil ?_
        intro w11 hw' hF
        replace H := H.later hw'; clear hw' hF
        refine Zn<|ZF rfl<|Zk<|Zs<|Zr<|Zl (Wi rfl)<|Zl (Wi rfl)<|Zn<|Zt ?_
        have hmk : markIs es (k : Nat) x = false := by
         unfold markIs; rw [show ((k : Nat) : Int).toNat = k from rfl, hyk]; simp [h58]
        have hv : vchk es x = (-1, 0) := by
         unfold vchk; rw [if_neg h11, ← hp]; unfold vchkP; simp [h30, h34, h39, h45, h58, hmk]
        exact fin2 (v := .int .i64 (-1)) (v2 := .int .i64 0) rfl rfl rfl ⟨by rw [hv], H.below⟩
      ·
       refine aw rfl rfl rfl rfl rfl (fun w' hw' => Kt rfl rfl)<|aw rfl rfl rfl rfl rfl (fun w' hw' => Yb rfl)<|awN rfl rfl rfl rfl<|awN rfl rfl rfl rfl<|awN rfl rfl rfl rfl<|awN rfl rfl rfl rfl<|awN rfl rfl rfl rfl<|awN rfl rfl rfl rfl<|awN rfl rfl rfl rfl<|awN rfl rfl rfl rfl<|awN rfl rfl rfl rfl<|awN rfl rfl rfl rfl<|awN rfl rfl rfl rfl<|aw rfl rfl rfl rfl rfl (fun w' hw' => Kf rfl rfl) ?_
       refine aw rfl rfl rfl rfl rfl (fun w' hw' => Yb rfl)<|awN rfl rfl rfl rfl<|awN rfl rfl rfl rfl<|awN rfl rfl rfl rfl<|awN rfl rfl rfl rfl<|awN rfl rfl rfl rfl<|awN rfl rfl rfl rfl<|awN rfl rfl rfl rfl<|awN rfl rfl rfl rfl<|awN rfl rfl rfl rfl<|awN rfl rfl rfl rfl<|awN rfl rfl rfl rfl<|aw rfl rfl rfl rfl rfl (fun w' hw' => Kf rfl rfl)<|aw_nil ?_
       intro w12 hw' hF
       replace H := H.later hw'; clear hw' hF
       refine Zn<|ZF rfl<|Zk<|Zs<|Zr<|Zl (Wi rfl)<|Zl (Wi rfl)<|Zn<|Zt ?_
       have hv : vchk es x = (-1, 0) := by
        unfold vchk; rw [if_neg h11, ← hp]; unfold vchkP; simp [h30, h34, h39, h45]
       exact fin2 (v := .int .i64 (-1)) (v2 := .int .i64 0) rfl rfl rfl ⟨by rw [hv], H.below⟩
     ·
      refine aw rfl rfl rfl rfl rfl (fun w' hw' => Yb rfl)<|awN rfl rfl rfl rfl<|awN rfl rfl rfl rfl<|awN rfl rfl rfl rfl<|awN rfl rfl rfl rfl<|awN rfl rfl rfl rfl<|aw rfl rfl rfl rfl rfl (fun w' hw' => Kf rfl rfl)<|aw rfl rfl rfl rfl rfl (fun w' hw' => Yb rfl)<|awN rfl rfl rfl rfl<|awN rfl rfl rfl rfl<|awN rfl rfl rfl rfl<|awN rfl rfl rfl rfl<|awN rfl rfl rfl rfl<|awN rfl rfl rfl rfl ?_
      refine awN rfl rfl rfl rfl<|awN rfl rfl rfl rfl<|awN rfl rfl rfl rfl<|awN rfl rfl rfl rfl<|awN rfl rfl rfl rfl<|aw rfl rfl rfl rfl rfl (fun w' hw' => Kf rfl rfl)<|aw rfl rfl rfl rfl rfl (fun w' hw' => Yb rfl)<|awN rfl rfl rfl rfl<|awN rfl rfl rfl rfl<|awN rfl rfl rfl rfl<|awN rfl rfl rfl rfl<|awN rfl rfl rfl rfl<|awN rfl rfl rfl rfl<|awN rfl rfl rfl rfl ?_
      refine awN rfl rfl rfl rfl<|awN rfl rfl rfl rfl<|awN rfl rfl rfl rfl<|awN rfl rfl rfl rfl<|aw rfl rfl rfl rfl rfl (fun w' hw' => Kf rfl rfl)<|aw_nil ?_
      intro w13 hw' hF
      replace H := H.later hw'; clear hw' hF
      refine Zn<|ZF rfl<|Zk<|Zs<|Zr<|Zl (Wi rfl)<|Zl (Wi rfl)<|Zn<|Zt ?_
      have hv : vchk es x = (-1, 0) := by
       unfold vchk; rw [if_neg h11, ← hp]; unfold vchkP; simp [h30, h34, h39]
      exact fin2 (v := .int .i64 (-1)) (v2 := .int .i64 0) rfl rfl rfl ⟨by rw [hv], H.below⟩
    ·
     refine Zl (Wb rfl)<|Zn<|ZF rfl<|Zs ?_
         
     refine cw_draw mixed [0, 1, 2, 3, 4, 5, 6, 7] [] [] [0, 2, 3, 4, 6, 7] (sp []) (by kernel_rfl) (by kernel_rfl) (by kernel_rfl) (by kernel_rfl) (fun _ _ _ h => h) (sp_st _) ?_
     refine aw rfl rfl rfl rfl rfl (fun w' hw' => Zf fd_Entry_2 rfl)<|aw rfl rfl rfl rfl rfl (fun w' hw' => ld_r one_int rfl (cellE ((H.later hw').ent (i := 1) rfl) rfl))<|aw rfl rfl rfl rfl rfl (fun w' hw' => Yp rfl)<|aw rfl rfl rfl rfl rfl (fun w' hw' => nck_r rfl)<|aw rfl rfl rfl rfl rfl (fun w' hw' => Zf fd_producer_0 rfl)<|aw rfl rfl rfl rfl rfl (fun w' hw' => ld_r one_int rfl (cellE ((H.later hw').ent (i := 0) rfl) rfl)) ?_
     refine awD rfl rfl rfl rfl rfl (fun w' hw' => gtr_r rfl rfl) (fun h84 => ?_) (fun h84 => ?_)
     ·
      refine aw rfl rfl rfl rfl rfl (fun w' hw' => Wb rfl)<|aw_nil ?_
      intro w14 hw' hF
      replace H := H.later hw'; clear hw' hF
      refine Zn<|ZT rfl<|Zr<|Zl (Yp rfl)<|Zl (nck_r rfl)<|Zl (Zf fd_producer_1 rfl)<|stN H 0 (#[.int .i64 pv_, .int .i64 (-1), .int .i64 po, .int .i64 pm]) siz_int rfl rfl rfl rfl rfl (by kernel_rfl) (by kernel_rfl) fun w15 H =>Zn<|Zs<|Zs ?_
           
      refine cw_draw mixed [0, 1, 2, 3, 4, 5, 6, 7] [] [] [0, 2, 3, 4, 6, 7] (sp []) (by kernel_rfl) (by kernel_rfl) (by kernel_rfl) (by kernel_rfl) (fun _ _ _ h => h) (sp_st _) ?_
      refine aw rfl rfl rfl rfl rfl (fun w' hw' => Zf fd_Entry_3 rfl)<|aw rfl rfl rfl rfl rfl (fun w' hw' => ld_r one_int rfl (cellE ((H.later hw').ent (i := 1) rfl) rfl))<|aw rfl rfl rfl rfl rfl (fun w' hw' => Yp rfl)<|aw rfl rfl rfl rfl rfl (fun w' hw' => nck_r rfl)<|aw rfl rfl rfl rfl rfl (fun w' hw' => Zf fd_producer_1 rfl)<|aw rfl rfl rfl rfl rfl (fun w' hw' => ld_r one_int rfl (cellE ((H.later hw').ent (i := 0) rfl) rfl))<|aw rfl rfl rfl rfl rfl (fun w' hw' => add_r rfl rfl (by omega) (by omega)) ?_
      refine awD rfl rfl rfl rfl rfl (fun w' hw' => gtr_r rfl rfl) (fun h95 => ?_) (fun h95 => ?_)
      ·
       refine aw_nil ?_
       intro w16 hw' hF
       replace H := H.later hw'; clear hw' hF
       refine Zn<|ZT rfl<|Zs<|Zr<|Zl (Wi rfl)<|Zl (Wi rfl)<|Zn<|Zt ?_
       replace h95 : 0 < x.seq := by omega
       have hv : vchk es x = (0, 11) := by
        unfold vchk; rw [if_neg h11, ← hp]; unfold vchkP; simp [h30, h34, h84, h95]
       exact fin2 (v := .int .i64 (0)) (v2 := .int .i64 11) rfl rfl rfl ⟨by rw [hv], H.below⟩
      ·
       refine aw_nil ?_
       intro w17 hw' hF
       replace H := H.later hw'; clear hw' hF
       refine Zn<|ZF rfl<|Zk<|Zs<|Zs ?_
             
       refine cw_draw mixed [0, 1, 2, 3, 4, 5, 6, 7] [] [] [0, 2, 3, 4, 6, 7] (sp []) (by kernel_rfl) (by kernel_rfl) (by kernel_rfl) (by kernel_rfl) (fun _ _ _ h => h) (sp_st _) ?_
       refine aw rfl rfl rfl rfl rfl (fun w' hw' => Zf fd_Entry_3 rfl)<|aw rfl rfl rfl rfl rfl (fun w' hw' => ld_r one_int rfl (cellE ((H.later hw').ent (i := 1) rfl) rfl))<|aw rfl rfl rfl rfl rfl (fun w' hw' => Yp rfl)<|aw rfl rfl rfl rfl rfl (fun w' hw' => nck_r rfl)<|aw rfl rfl rfl rfl rfl (fun w' hw' => Zf fd_producer_1 rfl)<|aw rfl rfl rfl rfl rfl (fun w' hw' => ld_r one_int rfl (cellE ((H.later hw').ent (i := 0) rfl) rfl))<|aw rfl rfl rfl rfl rfl (fun w' hw' => add_r rfl rfl (by omega) (by omega)) ?_
       refine awD rfl rfl rfl rfl rfl (fun w' hw' => eql_r rfl rfl) (fun h103 => ?_) (fun h103 => ?_)
       ·
        refine aw_nil ?_
        intro w18 hw' hF
        replace H := H.later hw'; clear hw' hF
        refine Zn<|ZT rfl<|Zs<|Zr<|Zl (Wi rfl)<|Zl (Wi rfl)<|Zn<|Zt ?_
        replace h95 : ¬ 0 < x.seq := by omega
        replace h103 : x.seq = 0 := by omega
        have hv : vchk es x = (-1, 0) := by
         unfold vchk; rw [if_neg h11, ← hp]; unfold vchkP; simp [h30, h34, h84, h95, h103]
        exact fin2 (v := .int .i64 (-1)) (v2 := .int .i64 0) rfl rfl rfl ⟨by rw [hv], H.below⟩
       ·
        refine aw_nil ?_
        intro w19 hw' hF
        replace H := H.later hw'; clear hw' hF
        refine Zn<|ZF rfl<|Zk<|Zs<|Zs<|Zr<|Zl (Ys rfl)<|Zl (lenS_r len_LEntry rfl)<|Zl (Yi rfl)<|Zn<|Zb ?_
        refine cw_loop (τ := Nat) [4, 5, 7, 8, 106, 107, 108, 109, 110, 111, 112, 113, 114, 115, 116, 117, 118, 119, 120, 121, 122, 123, 124, 125, 126, 127, 128, 129, 130, 131, 132, 133, 134, 135, 136] (fun i => [(106, .int .i64 (i : Nat))]) (fun i w' => i ≤ es.length ∧ (∀ j e, j < i → es[j]? = some e → isDup x e = false) ∧ Hp w w' ((b, .cells #[.int .i64 pv_, .int .i64 (-1), .int .i64 po, .int .i64 pm] T_producer (0, 0)) :: (b3, .cells (Ent.c x).toArray T_Entry (0, 0)) :: K) [FRd entL 0 w.heap.size A es]) (fun i => es.length - i) 0 ⟨by omega, by intro j e hj; omega, H⟩ (sl1 rfl) ?_
        rintro i ρ3 w20 ⟨hi, hno, H⟩
        show CW _ _ _ _ (updL (ovr _ _ ρ3) [(106, .int .i64 (i : Nat))]) w20
        refine Zs<|Zr ?_
        refine lwD (lss_r rfl rfl) rfl rfl rfl (fun h107 => ?_) (fun h107 => ?_)
        ·
         refine Zn<|Zs<|ZT rfl<|Zk<|Zs<|Zb<|Zs<|Zr<|Zl (Yi rfl)<|ixF H 0 rfl sl_LEntry rfl rfl (by omega) (by omega) rfl fun b21 o21 x21 e21 =>Zl (ldA_r (xs := Ent.c x21) agg_Entry rfl rfl e21.cl)<|alo H z_Entry rfl fun w22 b8 H =>Zl (Wi rfl)<|stW H 0 siz_Entry rfl rfl rfl rfl rfl rfl fun w23 H => ?_
         refine Zn<|Zs<|Zr<|Zl (Zf fd_Entry_4 rfl)<|Zl (Zd one_int H 0 rfl rfl rfl) ?_
         refine lwD (eql_r rfl rfl) rfl rfl rfl (fun h113 => ?_) (fun h113 => ?_)
         ·
          refine Zl (Yb rfl)<|ZG<|Zl (Zf fd_Entry_1 rfl)<|ZG<|Zl (Zd one_int H 0 rfl rfl rfl)<|ZG<|Zl (Zf fd_Entry_1 rfl)<|ZG<|Zl (Zd one_int H 2 rfl rfl rfl)<|ZG ?_
          refine lwD (eql_r rfl rfl) rfl rfl rfl (fun h119 => ?_) (fun h119 => ?_)
          ·
           refine Zl (Kt rfl rfl)<|Zl (Yb rfl)<|ZG<|Zl (Zf fd_Entry_2 rfl)<|ZG<|Zl (Zd one_int H 0 rfl rfl rfl)<|ZG<|Zl (Zf fd_Entry_2 rfl)<|ZG<|Zl (Zd one_int H 2 rfl rfl rfl)<|ZG ?_
           refine lwD (eql_r rfl rfl) rfl rfl rfl (fun h126 => ?_) (fun h126 => ?_)
           ·
            refine Zl (Kt rfl rfl)<|Zl (Yb rfl)<|ZG<|Zl (Zf fd_Entry_3 rfl)<|ZG<|Zl (Zd one_int H 0 rfl rfl rfl)<|ZG<|Zl (Zf fd_Entry_3 rfl)<|ZG<|Zl (Zd one_int H 2 rfl rfl rfl)<|ZG ?_
            refine lwD (eql_r rfl rfl) rfl rfl rfl (fun h133 => ?_) (fun h133 => ?_)
            ·
             refine Zl (Kt rfl rfl)<|Zn<|ZT rfl<|Zs<|Zr<|Zl (Yi rfl)<|Zl (Wi rfl)<|Zl (Wi rfl)<|Zn<|Zt ?_
             replace h95 : ¬ 0 < x.seq := by omega
             replace h103 : ¬ x.seq = 0 := by omega
             have hdup := dup_some e21.at_ (by simp [isDup, h113, h119, h126, h133]) hno
             have hv : vchk es x = ((i : Int), 0) := by
              unfold vchk; rw [if_neg h11, ← hp]; unfold vchkP; simp [h30, h34, h84, h95, h103, hdup]
             exact fin2 (v := .int .i64 ((i : Int))) (v2 := .int .i64 0) rfl rfl rfl ⟨by rw [hv], H.below⟩
            ·
             refine Zl (Kt rfl rfl)<|Zn<|ZF rfl<|Zk<|Zr<|Zl (add_r rfl rfl (by omega) (by omega))<|Zl (Yi rfl)<|Zn ?_
             refine ⟨i + 1, ⟨by omega, fun j e hj he => ?_, H.forget (List.sublist_cons_self _ _) (fun _ h => h)⟩, sl1 rfl, by repeat (first | exact Agr.refl _ _ | exact agr_ovr | refine agr_upd rfl ?_ | refine agr_updL _ rfl ?_ | refine agr_ovr2 rfl ?_), by show es.length - (i + 1) < es.length - i; omega⟩
             by_cases hji : j < i
             ·
              exact hno j e hji he
             ·
              have : j = i := by omega
              subst this; have he2 := e21.at_; rw [he] at he2; injection he2 with he2; subst he2
              simp [isDup, h113, h119, h126, h133]
           ·
            refine Zl (Kt rfl rfl)<|Zl (Yb rfl)<|ZN<|ZN<|ZN<|ZN<|ZN<|Zl (Kf rfl rfl)<|Zn<|ZF rfl<|Zk<|Zr<|Zl (add_r rfl rfl (by omega) (by omega))<|Zl (Yi rfl) ?_
            refine Zn ?_
            refine ⟨i + 1, ⟨by omega, fun j e hj he => ?_, H.forget (List.sublist_cons_self _ _) (fun _ h => h)⟩, sl1 rfl, by repeat (first | exact Agr.refl _ _ | exact agr_ovr | refine agr_upd rfl ?_ | refine agr_updL _ rfl ?_ | refine agr_ovr2 rfl ?_), by show es.length - (i + 1) < es.length - i; omega⟩
            by_cases hji : j < i
            ·
             exact hno j e hji he
            ·
             have : j = i := by omega
             subst this; have he2 := e21.at_; rw [he] at he2; injection he2 with he2; subst he2
             simp [isDup, h113, h119, h126]
          ·
           refine Zl (Kt rfl rfl)<|Zl (Yb rfl)<|ZN<|ZN<|ZN<|ZN<|ZN<|Zl (Kf rfl rfl)<|Zl (Yb rfl)<|ZN<|ZN<|ZN<|ZN<|ZN ?_
           refine Zl (Kf rfl rfl)<|Zn<|ZF rfl<|Zk<|Zr<|Zl (add_r rfl rfl (by omega) (by omega))<|Zl (Yi rfl)<|Zn ?_
           refine ⟨i + 1, ⟨by omega, fun j e hj he => ?_, H.forget (List.sublist_cons_self _ _) (fun _ h => h)⟩, sl1 rfl, by repeat (first | exact Agr.refl _ _ | exact agr_ovr | refine agr_upd rfl ?_ | refine agr_updL _ rfl ?_ | refine agr_ovr2 rfl ?_), by show es.length - (i + 1) < es.length - i; omega⟩
           by_cases hji : j < i
           ·
            exact hno j e hji he
           ·
            have : j = i := by omega
            subst this; have he2 := e21.at_; rw [he] at he2; injection he2 with he2; subst he2
            simp [isDup, h113, h119]
         ·
          refine Zl (Yb rfl)<|ZN<|ZN<|ZN<|ZN<|ZN<|Zl (Kf rfl rfl)<|Zl (Yb rfl)<|ZN<|ZN<|ZN<|ZN<|ZN<|Zl (Kf rfl rfl) ?_
          refine Zl (Yb rfl)<|ZN<|ZN<|ZN<|ZN<|ZN<|Zl (Kf rfl rfl)<|Zn<|ZF rfl<|Zk<|Zr<|Zl (add_r rfl rfl (by omega) (by omega))<|Zl (Yi rfl)<|Zn ?_
          refine ⟨i + 1, ⟨by omega, fun j e hj he => ?_, H.forget (List.sublist_cons_self _ _) (fun _ h => h)⟩, sl1 rfl, by repeat (first | exact Agr.refl _ _ | exact agr_ovr | refine agr_upd rfl ?_ | refine agr_updL _ rfl ?_ | refine agr_ovr2 rfl ?_), by show es.length - (i + 1) < es.length - i; omega⟩
          by_cases hji : j < i
          ·
           exact hno j e hji he
          ·
           have : j = i := by omega
           subst this; have he2 := e21.at_; rw [he] at he2; injection he2 with he2; subst he2
           simp [isDup, h113]
        ·
         refine Zn<|Zs<|ZF rfl<|Zx<|Zs<|Zr<|Zl (Wi rfl)<|Zl (Wi rfl)<|Zn<|Zt ?_
         replace h95 : ¬ 0 < x.seq := by omega
         replace h103 : ¬ x.seq = 0 := by omega
         have hdup := dup_none (x := x) (es := es) (fun j e hj he => hno j e (by omega) he)
         have hv : vchk es x = (0, 11) := by
          unfold vchk; rw [if_neg h11, ← hp]; unfold vchkP; simp [h30, h34, h84, h95, h103, hdup]
         exact fin2 (v := .int .i64 (0)) (v2 := .int .i64 11) rfl rfl rfl ⟨by rw [hv], H.below⟩
     ·
      refine aw rfl rfl rfl rfl rfl (fun w' hw' => Wb rfl)<|aw_nil ?_
      intro w24 hw' hF
      replace H := H.later hw'; clear hw' hF
      refine Zn<|ZF rfl<|Zk<|Zs<|Zs ?_
           
      refine cw_draw mixed [0, 1, 2, 3, 4, 5, 6, 7] [] [] [0, 2, 3, 4, 6, 7] (sp []) (by kernel_rfl) (by kernel_rfl) (by kernel_rfl) (by kernel_rfl) (fun _ _ _ h => h) (sp_st _) ?_
      refine aw rfl rfl rfl rfl rfl (fun w' hw' => Zf fd_Entry_3 rfl)<|aw rfl rfl rfl rfl rfl (fun w' hw' => ld_r one_int rfl (cellE ((H.later hw').ent (i := 1) rfl) rfl))<|aw rfl rfl rfl rfl rfl (fun w' hw' => Yp rfl)<|aw rfl rfl rfl rfl rfl (fun w' hw' => nck_r rfl)<|aw rfl rfl rfl rfl rfl (fun w' hw' => Zf fd_producer_1 rfl)<|aw rfl rfl rfl rfl rfl (fun w' hw' => ld_r one_int rfl (cellE ((H.later hw').ent (i := 0) rfl) rfl))<|aw rfl rfl rfl rfl rfl (fun w' hw' => add_r rfl rfl (by omega) (by omega)) ?_
      refine awD rfl rfl rfl rfl rfl (fun w' hw' => gtr_r rfl rfl) (fun h95 => ?_) (fun h95 => ?_)
      ·
       refine aw_nil ?_
       intro w25 hw' hF
       replace H := H.later hw'; clear hw' hF
       refine Zn<|ZT rfl<|Zs<|Zr<|Zl (Wi rfl)<|Zl (Wi rfl)<|Zn<|Zt ?_
       have hv : vchk es x = (0, 11) := by
        unfold vchk; rw [if_neg h11, ← hp]; unfold vchkP; simp [h30, h34, h84, h95]
       exact fin2 (v := .int .i64 (0)) (v2 := .int .i64 11) rfl rfl rfl ⟨by rw [hv], H.below⟩
      ·
       refine aw_nil ?_
       intro w26 hw' hF
       replace H := H.later hw'; clear hw' hF
       refine Zn<|ZF rfl<|Zk<|Zs<|Zs ?_
             
       refine cw_draw mixed [0, 1, 2, 3, 4, 5, 6, 7] [] [] [0, 2, 3, 4, 6, 7] (sp []) (by kernel_rfl) (by kernel_rfl) (by kernel_rfl) (by kernel_rfl) (fun _ _ _ h => h) (sp_st _) ?_
       refine aw rfl rfl rfl rfl rfl (fun w' hw' => Zf fd_Entry_3 rfl)<|aw rfl rfl rfl rfl rfl (fun w' hw' => ld_r one_int rfl (cellE ((H.later hw').ent (i := 1) rfl) rfl))<|aw rfl rfl rfl rfl rfl (fun w' hw' => Yp rfl)<|aw rfl rfl rfl rfl rfl (fun w' hw' => nck_r rfl)<|aw rfl rfl rfl rfl rfl (fun w' hw' => Zf fd_producer_1 rfl)<|aw rfl rfl rfl rfl rfl (fun w' hw' => ld_r one_int rfl (cellE ((H.later hw').ent (i := 0) rfl) rfl))<|aw rfl rfl rfl rfl rfl (fun w' hw' => add_r rfl rfl (by omega) (by omega)) ?_
       refine awD rfl rfl rfl rfl rfl (fun w' hw' => eql_r rfl rfl) (fun h103 => ?_) (fun h103 => ?_)
       ·
        refine aw_nil ?_
        intro w27 hw' hF
        replace H := H.later hw'; clear hw' hF
        refine Zn<|ZT rfl<|Zs<|Zr<|Zl (Wi rfl)<|Zl (Wi rfl)<|Zn<|Zt ?_
        have hv : vchk es x = (-1, 0) := by
         unfold vchk; rw [if_neg h11, ← hp]; unfold vchkP; simp [h30, h34, h84, h95, h103]
        exact fin2 (v := .int .i64 (-1)) (v2 := .int .i64 0) rfl rfl rfl ⟨by rw [hv], H.below⟩
       ·
        refine aw_nil ?_
        intro w28 hw' hF
        replace H := H.later hw'; clear hw' hF
        refine Zn<|ZF rfl<|Zk<|Zs<|Zs<|Zr<|Zl (Ys rfl)<|Zl (lenS_r len_LEntry rfl)<|Zl (Yi rfl)<|Zn<|Zb ?_
        refine cw_loop (τ := Nat) [4, 5, 7, 8, 106, 107, 108, 109, 110, 111, 112, 113, 114, 115, 116, 117, 118, 119, 120, 121, 122, 123, 124, 125, 126, 127, 128, 129, 130, 131, 132, 133, 134, 135, 136] (fun i => [(106, .int .i64 (i : Nat))]) (fun i w' => i ≤ es.length ∧ (∀ j e, j < i → es[j]? = some e → isDup x e = false) ∧ Hp w w' ((b, .cells #[.int .i64 pv_, .int .i64 ps, .int .i64 po, .int .i64 pm] T_producer (0, 0)) :: (b3, .cells (Ent.c x).toArray T_Entry (0, 0)) :: K) [FRd entL 0 w.heap.size A es]) (fun i => es.length - i) 0 ⟨by omega, by intro j e hj; omega, H⟩ (sl1 rfl) ?_
        rintro i ρ3 w29 ⟨hi, hno, H⟩
        show CW _ _ _ _ (updL (ovr _ _ ρ3) [(106, .int .i64 (i : Nat))]) w29
        refine Zs<|Zr ?_
        refine lwD (lss_r rfl rfl) rfl rfl rfl (fun h107 => ?_) (fun h107 => ?_)
        ·
         refine Zn<|Zs<|ZT rfl<|Zk<|Zs<|Zb<|Zs<|Zr<|Zl (Yi rfl)<|ixF H 0 rfl sl_LEntry rfl rfl (by omega) (by omega) rfl fun b30 o30 x30 e30 =>Zl (ldA_r (xs := Ent.c x30) agg_Entry rfl rfl e30.cl)<|alo H z_Entry rfl fun w31 b8 H =>Zl (Wi rfl)<|stW H 0 siz_Entry rfl rfl rfl rfl rfl rfl fun w32 H => ?_
         refine Zn<|Zs<|Zr<|Zl (Zf fd_Entry_4 rfl)<|Zl (Zd one_int H 0 rfl rfl rfl) ?_
         refine lwD (eql_r rfl rfl) rfl rfl rfl (fun h113 => ?_) (fun h113 => ?_)
         ·
          refine Zl (Yb rfl)<|ZG<|Zl (Zf fd_Entry_1 rfl)<|ZG<|Zl (Zd one_int H 0 rfl rfl rfl)<|ZG<|Zl (Zf fd_Entry_1 rfl)<|ZG<|Zl (Zd one_int H 2 rfl rfl rfl)<|ZG ?_
          refine lwD (eql_r rfl rfl) rfl rfl rfl (fun h119 => ?_) (fun h119 => ?_)
          ·
           refine Zl (Kt rfl rfl)<|Zl (Yb rfl)<|ZG<|Zl (Zf fd_Entry_2 rfl)<|ZG<|Zl (Zd one_int H 0 rfl rfl rfl)<|ZG<|Zl (Zf fd_Entry_2 rfl)<|ZG<|Zl (Zd one_int H 2 rfl rfl rfl)<|ZG ?_
           refine lwD (eql_r rfl rfl) rfl rfl rfl (fun h126 => ?_) (fun h126 => ?_)
           ·
            refine Zl (Kt rfl rfl)<|Zl (Yb rfl)<|ZG<|Zl (Zf fd_Entry_3 rfl)<|ZG<|Zl (Zd one_int H 0 rfl rfl rfl)<|ZG<|Zl (Zf fd_Entry_3 rfl)<|ZG<|Zl (Zd one_int H 2 rfl rfl rfl)<|ZG ?_
            refine lwD (eql_r rfl rfl) rfl rfl rfl (fun h133 => ?_) (fun h133 => ?_)
            ·
             refine Zl (Kt rfl rfl)<|Zn<|ZT rfl<|Zs<|Zr<|Zl (Yi rfl)<|Zl (Wi rfl)<|Zl (Wi rfl)<|Zn<|Zt ?_
             have hdup := dup_some e30.at_ (by simp [isDup, h113, h119, h126, h133]) hno
             have hv : vchk es x = ((i : Int), 0) := by
              unfold vchk; rw [if_neg h11, ← hp]; unfold vchkP; simp [h30, h34, h84, h95, h103, hdup]
             exact fin2 (v := .int .i64 ((i : Int))) (v2 := .int .i64 0) rfl rfl rfl ⟨by rw [hv], H.below⟩
            ·
             refine Zl (Kt rfl rfl)<|Zn<|ZF rfl<|Zk<|Zr<|Zl (add_r rfl rfl (by omega) (by omega))<|Zl (Yi rfl)<|Zn ?_
             refine ⟨i + 1, ⟨by omega, fun j e hj he => ?_, H.forget (List.sublist_cons_self _ _) (fun _ h => h)⟩, sl1 rfl, by repeat (first | exact Agr.refl _ _ | exact agr_ovr | refine agr_upd rfl ?_ | refine agr_updL _ rfl ?_ | refine agr_ovr2 rfl ?_), by show es.length - (i + 1) < es.length - i; omega⟩
             by_cases hji : j < i
             ·
              exact hno j e hji he
             ·
              have : j = i := by omega
              subst this; have he2 := e30.at_; rw [he] at he2; injection he2 with he2; subst he2
              simp [isDup, h113, h119, h126, h133]
           ·
            refine Zl (Kt rfl rfl)<|Zl (Yb rfl)<|ZN<|ZN<|ZN<|ZN<|ZN<|Zl (Kf rfl rfl)<|Zn<|ZF rfl<|Zk<|Zr<|Zl (add_r rfl rfl (by omega) (by omega))<|Zl (Yi rfl) ?_
            refine Zn ?_
            refine ⟨i + 1, ⟨by omega, fun j e hj he => ?_, H.forget (List.sublist_cons_self _ _) (fun _ h => h)⟩, sl1 rfl, by repeat (first | exact Agr.refl _ _ | exact agr_ovr | refine agr_upd rfl ?_ | refine agr_updL _ rfl ?_ | refine agr_ovr2 rfl ?_), by show es.length - (i + 1) < es.length - i; omega⟩
            by_cases hji : j < i
            ·
             exact hno j e hji he
            ·
             have : j = i := by omega
             subst this; have he2 := e30.at_; rw [he] at he2; injection he2 with he2; subst he2
             simp [isDup, h113, h119, h126]
          ·
           refine Zl (Kt rfl rfl)<|Zl (Yb rfl)<|ZN<|ZN<|ZN<|ZN<|ZN<|Zl (Kf rfl rfl)<|Zl (Yb rfl)<|ZN<|ZN<|ZN<|ZN<|ZN ?_
           refine Zl (Kf rfl rfl)<|Zn<|ZF rfl<|Zk<|Zr<|Zl (add_r rfl rfl (by omega) (by omega))<|Zl (Yi rfl)<|Zn ?_
           refine ⟨i + 1, ⟨by omega, fun j e hj he => ?_, H.forget (List.sublist_cons_self _ _) (fun _ h => h)⟩, sl1 rfl, by repeat (first | exact Agr.refl _ _ | exact agr_ovr | refine agr_upd rfl ?_ | refine agr_updL _ rfl ?_ | refine agr_ovr2 rfl ?_), by show es.length - (i + 1) < es.length - i; omega⟩
           by_cases hji : j < i
           ·
            exact hno j e hji he
           ·
            have : j = i := by omega
            subst this; have he2 := e30.at_; rw [he] at he2; injection he2 with he2; subst he2
            simp [isDup, h113, h119]
         ·
          refine Zl (Yb rfl)<|ZN<|ZN<|ZN<|ZN<|ZN<|Zl (Kf rfl rfl)<|Zl (Yb rfl)<|ZN<|ZN<|ZN<|ZN<|ZN<|Zl (Kf rfl rfl) ?_
          refine Zl (Yb rfl)<|ZN<|ZN<|ZN<|ZN<|ZN<|Zl (Kf rfl rfl)<|Zn<|ZF rfl<|Zk<|Zr<|Zl (add_r rfl rfl (by omega) (by omega))<|Zl (Yi rfl)<|Zn ?_
          refine ⟨i + 1, ⟨by omega, fun j e hj he => ?_, H.forget (List.sublist_cons_self _ _) (fun _ h => h)⟩, sl1 rfl, by repeat (first | exact Agr.refl _ _ | exact agr_ovr | refine agr_upd rfl ?_ | refine agr_updL _ rfl ?_ | refine agr_ovr2 rfl ?_), by show es.length - (i + 1) < es.length - i; omega⟩
          by_cases hji : j < i
          ·
           exact hno j e hji he
          ·
           have : j = i := by omega
           subst this; have he2 := e30.at_; rw [he] at he2; injection he2 with he2; subst he2
           simp [isDup, h113]
        ·
         refine Zn<|Zs<|ZF rfl<|Zx<|Zs<|Zr<|Zl (Wi rfl)<|Zl (Wi rfl)<|Zn<|Zt ?_
         have hdup := dup_none (x := x) (es := es) (fun j e hj he => hno j e (by omega) he)
         have hv : vchk es x = (0, 11) := by
          unfold vchk; rw [if_neg h11, ← hp]; unfold vchkP; simp [h30, h34, h84, h95, h103, hdup]
         exact fin2 (v := .int .i64 (0)) (v2 := .int .i64 11) rfl rfl rfl ⟨by rw [hv], H.below⟩
  ·
   refine Zl (lkS_r mp_prods z_Pproducer rfl rfl (H.ent (i := 0) rfl) (by rw [pmap_keys]; exact hS.1) (pmap_get hj))<|Zl (Wp rfl)<|Zn<|Zs ?_
   refine cw_cut (τ := Nat × Int × Int × Int × Int × List (Nat × Obj)) [6, 17, 18, 19, 20, 21, 22] (fun (b, _, _, _, _, _) => [(6, pval b)]) (fun (b, pv_, ps, po, pm, K) w' => (⟨pv_, ps, po, pm⟩ : Prod) = (prodF es x.pid).getD ⟨x.ver, -1, -1, -1⟩ ∧ Hp w w' ((b, .cells #[.int .i64 pv_, .int .i64 ps, .int .i64 po, .int .i64 pm] T_producer (0, 0)) :: (b3, .cells (Ent.c x).toArray T_Entry (0, 0)) :: K) [FRd entL 0 w.heap.size A es]) ?_ ?_
   ·
    skip
    refine Zs<|Zr<|Zl (Yp rfl)<|Zl (peqS_r ptr_Pproducer rfl)<|Zn<|ZF rfl<|Zk ?_
    have hP := out_perm hj
    refine ⟨(b, p.ver, p.seq, p.open_, p.mark, (bm, mapO (pmap S)) :: (S.eraseIdx j).map pblk), ⟨by rw [← hS.2, look_some hS.1 hj]; rfl, H.perm ?_⟩, sl1 rfl, by repeat (first | exact Agr.refl _ _ | exact agr_ovr | refine agr_upd rfl ?_ | refine agr_updL _ rfl ?_ | refine agr_ovr2 rfl ?_)⟩
    exact (List.perm_middle (l₁ := [_, _])).symm.trans (((hP.cons _).cons _).trans (List.perm_append_singleton _ _).symm)
   rintro ⟨b, pv_, ps, po, pm, K⟩ ρ2 w33 ⟨hp, H⟩
   show CW _ _ _ _ (updL (ovr _ _ ρ2) [(6, pval b)]) w33
   obtain ⟨hmark, hsq1, hsq2⟩ := prod_bounds hq hp
   dsimp only at hsq1 hsq2
   refine Zs<|Zb<|Zs ?_
     
   refine cw_draw mixed [0, 1, 2, 3, 4, 5, 6, 7] [] [] [0, 2, 3, 4, 6, 7] (sp []) (by kernel_rfl) (by kernel_rfl) (by kernel_rfl) (by kernel_rfl) (fun _ _ _ h => h) (sp_st _) ?_
   refine aw rfl rfl rfl rfl rfl (fun w' hw' => Zf fd_Entry_2 rfl)<|aw rfl rfl rfl rfl rfl (fun w' hw' => ld_r one_int rfl (cellE ((H.later hw').ent (i := 1) rfl) rfl))<|aw rfl rfl rfl rfl rfl (fun w' hw' => Yp rfl)<|aw rfl rfl rfl rfl rfl (fun w' hw' => nck_r rfl)<|aw rfl rfl rfl rfl rfl (fun w' hw' => Zf fd_producer_0 rfl)<|aw rfl rfl rfl rfl rfl (fun w' hw' => ld_r one_int rfl (cellE ((H.later hw').ent (i := 0) rfl) rfl)) ?_
   refine awD rfl rfl rfl rfl rfl (fun w' hw' => lss_r rfl rfl) (fun h30 => ?_) (fun h30 => ?_)
   ·
    refine aw rfl rfl rfl rfl rfl (fun w' hw' => Wb rfl)<|aw_nil ?_
    intro w34 hw' hF
    replace H := H.later hw'; clear hw' hF
    refine Zn<|ZT rfl<|Zs<|Zr<|Zl (Wi rfl)<|Zl (Wi rfl)<|Zn<|Zt ?_
    have hv : vchk es x = (0, 10) := by
     unfold vchk; rw [if_neg h11, ← hp]; unfold vchkP; simp [h30]
    exact fin2 (v := .int .i64 (0)) (v2 := .int .i64 10) rfl rfl rfl ⟨by rw [hv], H.below⟩
   ·
    refine aw rfl rfl rfl rfl rfl (fun w' hw' => Wb rfl)<|aw_nil ?_
    intro w35 hw' hF
    replace H := H.later hw'; clear hw' hF
    refine Zn<|ZF rfl<|Zs<|Zr<|Zl (Zf fd_Entry_4 rfl)<|Zl (Zd one_int H 1 rfl rfl rfl) ?_
    refine lwND (neq_r rfl rfl) rfl rfl rfl (fun h34 => ?_) (fun h34 => ?_)
    ·
     refine Zl (Wb rfl)<|Zn<|ZT rfl<|Zs<|Zs ?_
         
     refine cw_draw mixed [0, 1, 2, 3, 4, 5, 6, 7, 8, 9, 10, 11, 12, 13, 14, 15, 16, 17, 18, 19, 20, 21, 22, 23, 24, 25, 26, 27, 28, 29, 30, 31, 32, 33, 34, 35, 36, 37] [] [] [0, 1, 2, 4, 5, 6, 7, 8, 10, 11, 12, 13, 14, 15, 16, 18, 19, 21, 23, 24, 25, 26, 27, 28, 29, 31, 32, 34, 36, 37] (sp []) (by kernel_rfl) (by kernel_rfl) (by kernel_rfl) (by kernel_rfl) (fun _ _ _ h => h) (sp_st _) ?_
     refine aw rfl rfl rfl rfl rfl (fun w' hw' => Yp rfl)<|aw rfl rfl rfl rfl rfl (fun w' hw' => nck_r rfl)<|aw rfl rfl rfl rfl rfl (fun w' hw' => Zf fd_producer_2 rfl)<|aw rfl rfl rfl rfl rfl (fun w' hw' => ld_r one_int rfl (cellE ((H.later hw').ent (i := 0) rfl) rfl)) ?_
     refine awD rfl rfl rfl rfl rfl (fun w' hw' => lss_r rfl rfl) (fun h39 => ?_) (fun h39 => ?_)
     ·
      refine aw rfl rfl rfl rfl rfl (fun w' hw' => Yb rfl)<|aw rfl rfl rfl rfl rfl (fun w' hw' => Yp rfl)<|aw rfl rfl rfl rfl rfl (fun w' hw' => nck_r rfl)<|aw rfl rfl rfl rfl rfl (fun w' hw' => Zf fd_producer_3 rfl)<|aw rfl rfl rfl rfl rfl (fun w' hw' => ld_r one_int rfl (cellE ((H.later hw').ent (i := 0) rfl) rfl)) ?_
      refine awD rfl rfl rfl rfl rfl (fun w' hw' => geq_r rfl rfl) (fun h45 => ?_) (fun h45 => ?_)
      ·
       rcases hmark with hm1 | ⟨k, y, hmk, hyk⟩
       ·
        exfalso; dsimp only at hm1 h45; omega
       dsimp only at hmk
       subst hmk
       have hkl := (getE hyk).1
       refine aw rfl rfl rfl rfl rfl (fun w' hw' => Kt rfl rfl)<|aw rfl rfl rfl rfl rfl (fun w' hw' => Yb rfl)<|aw rfl rfl rfl rfl rfl (fun w' hw' => Ys rfl)<|aw rfl rfl rfl rfl rfl (fun w' hw' => Yp rfl)<|aw rfl rfl rfl rfl rfl (fun w' hw' => nck_r rfl)<|aw rfl rfl rfl rfl rfl (fun w' hw' => Zf fd_producer_3 rfl)<|aw rfl rfl rfl rfl rfl (fun w' hw' => ld_r one_int rfl (cellE ((H.later hw').ent (i := 0) rfl) rfl))<|awIxF H 0 rfl rfl rfl rfl rfl sl_LEntry rfl rfl (by omega) (by omega) fun b36 o36 x36 e36 => ?_
       obtain rfl : y = x36 := by have := e36.at_; rw [hyk] at this; injection this
       refine aw rfl rfl rfl rfl rfl (fun w' hw' => Zf fd_Entry_4 rfl)<|aw rfl rfl rfl rfl rfl (fun w' hw' => ld_r one_int rfl (e36.later hw' 4 _ rfl))<|aw rfl rfl rfl rfl rfl (fun w' hw' => Zf fd_Entry_4 rfl)<|aw rfl rfl rfl rfl rfl (fun w' hw' => ld_r one_int rfl (cellE ((H.later hw').ent (i := 1) rfl) rfl)) ?_
       refine awD rfl rfl rfl rfl rfl (fun w' hw' => eql_r rfl rfl) (fun h58 => ?_) (fun h58 => ?_)
       ·
        refine aw rfl rfl rfl rfl rfl (fun w' hw' => Kt rfl rfl)<|aw rfl rfl rfl rfl rfl (fun w' hw' => Yb rfl)<|aw rfl rfl rfl rfl rfl (fun w' hw' => Ys rfl)<|aw rfl rfl rfl rfl rfl (fun w' hw' => Yp rfl)<|aw rfl rfl rfl rfl rfl (fun w' hw' => nck_r rfl)<|aw rfl rfl rfl rfl rfl (fun w' hw' => Zf fd_producer_3 rfl)<|aw rfl rfl rfl rfl rfl (fun w' hw' => ld_r one_int rfl (cellE ((H.later hw').ent (i := 0) rfl) rfl))<|awIxF H 0 rfl rfl rfl rfl rfl sl_LEntry rfl rfl (by omega) (by omega) fun b37 o37 x37 e37 => ?_
        obtain rfl : y = x37 := by have := e37.at_; rw [hyk] at this; injection this
        refine aw rfl rfl rfl rfl rfl (fun w' hw' => Zf fd_Entry_2 rfl)<|aw rfl rfl rfl rfl rfl (fun w' hw' => ld_r one_int rfl (e37.later hw' 2 _ rfl))<|aw rfl rfl rfl rfl rfl (fun w' hw' => Zf fd_Entry_2 rfl)<|aw rfl rfl rfl rfl rfl (fun w' hw' => ld_r one_int rfl (cellE ((H.later hw').ent (i := 1) rfl) rfl)) ?_
        refine awD rfl rfl rfl rfl rfl (fun w' hw' => eql_r rfl rfl) (fun h71 => ?_) (fun h71 => ?_)
        ·
         refine aw rfl rfl rfl rfl rfl (fun w' hw' => Kt rfl rfl)<|aw_nil ?_
         intro w38 hw' hF
         replace H := H.later hw'; clear hw' hF
         refine Zn<|ZT rfl<|Zs<|Zr<|Zl (Yp rfl)<|Zl (nck_r rfl)<|Zl (Zf fd_producer_3 rfl)<|Zl (Zd one_int H 0 rfl rfl rfl)<|Zl (Wi rfl)<|Zl (Wi rfl)<|Zn<|Zt ?_
         have hmk : markIs es (k : Nat) x = true := by
          unfold markIs; rw [show ((k : Nat) : Int).toNat = k from rfl, hyk]; simp [h58, h71]
         have hv : vchk es x = ((k : Int), 0) := by
          unfold vchk; rw [if_neg h11, ← hp]; unfold vchkP; simp [h30, h34, h39, h45, h58, h71, hmk]
         exact fin2 (v := .int .i64 ((k : Int))) (v2 := .int .i64 0) rfl rfl rfl ⟨by rw [hv], H.below⟩
        ·
         refine aw rfl rfl rfl rfl rfl (fun w' hw' => Kt rfl rfl)<|aw_nil ?_
         intro w39 hw' hF
         replace H := H.later hw'; clear hw' hF
         refine Zn<|ZF rfl<|Zk<|Zs<|Zr<|Zl (Wi rfl)<|Zl (Wi rfl)<|Zn<|Zt ?_
         have hmk : markIs es (k : Nat) x = false := by
          unfold markIs; rw [show ((k : Nat) : Int).toNat = k from rfl, hyk]; simp [h58, h71]
         have hv : vchk es x = (-1, 0) := by
          unfold vchk; rw [if_neg h11, ← hp]; unfold vchkP; simp [h30, h34, h39, h45, h58, h71, hmk]
         exact fin2 (v := .int .i64 (-1)) (v2 := .int .i64 0) rfl rfl rfl ⟨by rw [hv], H.below⟩
       ·
        refine aw rfl rfl rfl rfl rfl (fun w' hw' => Kt rfl rfl)<|aw rfl rfl rfl rfl rfl (fun w' hw' => Yb rfl)<|awN rfl rfl rfl rfl<|awN rfl rfl rfl rfl<|awN rfl rfl rfl rfl<|awN rfl rfl rfl rfl<|awN rfl rfl rfl rfl<|awN rfl rfl rfl rfl<|awN rfl rfl rfl rfl<|awN rfl rfl rfl rfl<|awN rfl rfl rfl rfl<|awN rfl rfl rfl rfl<|awN rfl rfl rfl rfl<|aw rfl rfl rfl rfl rfl (fun w' hw' => Kf rfl rfl) ?_
        refine aw_nil ?_
        intro w40 hw' hF
        replace H := H.later hw'; clear hw' hF
        refine Zn<|ZF rfl<|Zk<|Zs<|Zr<|Zl (Wi rfl)<|Zl (Wi rfl)<|Zn<|Zt ?_
        have hmk : markIs es (k : Nat) x = false := by
         unfold markIs; rw [show ((k : Nat) : Int).toNat = k from rfl, hyk]; simp [h58]
        have hv : vchk es x = (-1, 0) := by
         unfold vchk; rw [if_neg h11, ← hp]; unfold vchkP; simp [h30, h34, h39, h45, h58, hmk]
        exact fin2 (v := .int .i64 (-1)) (v2 := .int .i64 0) rfl rfl rfl ⟨by rw [hv], H.below⟩
      ·
       refine aw rfl rfl rfl rfl rfl (fun w' hw' => Kt rfl rfl)<|aw rfl rfl rfl rfl rfl (fun w' hw' => Yb rfl)<|awN rfl rfl rfl rfl<|awN rfl rfl rfl rfl<|awN rfl rfl rfl rfl<|awN rfl rfl rfl rfl<|awN rfl rfl rfl rfl<|awN rfl rfl rfl rfl<|awN rfl rfl rfl rfl<|awN rfl rfl rfl rfl<|awN rfl rfl rfl rfl<|awN rfl rfl rfl rfl<|awN rfl rfl rfl rfl<|aw rfl rfl rfl rfl rfl (fun w' hw' => Kf rfl rfl) ?_
       refine aw rfl rfl rfl rfl rfl (fun w' hw' => Yb rfl)<|awN rfl rfl rfl rfl<|awN rfl rfl rfl rfl<|awN rfl rfl rfl rfl<|awN rfl rfl rfl rfl<|awN rfl rfl rfl rfl<|awN rfl rfl rfl rfl<|awN rfl rfl rfl rfl<|awN rfl rfl rfl rfl<|awN rfl rfl rfl rfl<|awN rfl rfl rfl rfl<|awN rfl rfl rfl rfl<|aw rfl rfl rfl rfl rfl (fun w' hw' => Kf rfl rfl)<|aw_nil ?_
       intro w41 hw' hF
       replace H := H.later hw'; clear hw' hF
       refine Zn<|ZF rfl<|Zk<|Zs<|Zr<|Zl (Wi rfl)<|Zl (Wi rfl)<|Zn<|Zt ?_
       have hv : vchk es x = (-1, 0) := by
        unfold vchk; rw [if_neg h11, ← hp]; unfold vchkP; simp [h30, h34, h39, h45]
       exact fin2 (v := .int .i64 (-1)) (v2 := .int .i64 0) rfl rfl rfl ⟨by rw [hv], H.below⟩
     ·
      refine aw rfl rfl rfl rfl rfl (fun w' hw' => Yb rfl)<|awN rfl rfl rfl rfl<|awN rfl rfl rfl rfl<|awN rfl rfl rfl rfl<|awN rfl rfl rfl rfl<|awN rfl rfl rfl rfl<|aw rfl rfl rfl rfl rfl (fun w' hw' => Kf rfl rfl)<|aw rfl rfl rfl rfl rfl (fun w' hw' => Yb rfl)<|awN rfl rfl rfl rfl<|awN rfl rfl rfl rfl<|awN rfl rfl rfl rfl<|awN rfl rfl rfl rfl<|awN rfl rfl rfl rfl<|awN rfl rfl rfl rfl ?_
      refine awN rfl rfl rfl rfl<|awN rfl rfl rfl rfl<|awN rfl rfl rfl rfl<|awN rfl rfl rfl rfl<|awN rfl rfl rfl rfl<|aw rfl rfl rfl rfl rfl (fun w' hw' => Kf rfl rfl)<|aw rfl rfl rfl rfl rfl (fun w' hw' => Yb rfl)<|awN rfl rfl rfl rfl<|awN rfl rfl rfl rfl<|awN rfl rfl rfl rfl<|awN rfl rfl rfl rfl<|awN rfl rfl rfl rfl<|awN rfl rfl rfl rfl<|awN rfl rfl rfl rfl ?_
      refine awN rfl rfl rfl rfl<|awN rfl rfl rfl rfl<|awN rfl rfl rfl rfl<|awN rfl rfl rfl rfl<|aw rfl rfl rfl rfl rfl (fun w' hw' => Kf rfl rfl)<|aw_nil ?_
      intro w42 hw' hF
      replace H := H.later hw'; clear hw' hF
      refine Zn<|ZF rfl<|Zk<|Zs<|Zr<|Zl (Wi rfl)<|Zl (Wi rfl)<|Zn<|Zt ?_
      have hv : vchk es x = (-1, 0) := by
       unfold vchk; rw [if_neg h11, ← hp]; unfold vchkP; simp [h30, h34, h39]
      exact fin2 (v := .int .i64 (-1)) (v2 := .int .i64 0) rfl rfl rfl ⟨by rw [hv], H.below⟩
    ·
     refine Zl (Wb rfl)<|Zn<|ZF rfl<|Zs ?_
         
     refine cw_draw mixed [0, 1, 2, 3, 4, 5, 6, 7] [] [] [0, 2, 3, 4, 6, 7] (sp []) (by kernel_rfl) (by kernel_rfl) (by kernel_rfl) (by kernel_rfl) (fun _ _ _ h => h) (sp_st _) ?_
     refine aw rfl rfl rfl rfl rfl (fun w' hw' => Zf fd_Entry_2 rfl)<|aw rfl rfl rfl rfl rfl (fun w' hw' => ld_r one_int rfl (cellE ((H.later hw').ent (i := 1) rfl) rfl))<|aw rfl rfl rfl rfl rfl (fun w' hw' => Yp rfl)<|aw rfl rfl rfl rfl rfl (fun w' hw' => nck_r rfl)<|aw rfl rfl rfl rfl rfl (fun w' hw' => Zf fd_producer_0 rfl)<|aw rfl rfl rfl rfl rfl (fun w' hw' => ld_r one_int rfl (cellE ((H.later hw').ent (i := 0) rfl) rfl)) ?_
     refine awD rfl rfl rfl rfl rfl (fun w' hw' => gtr_r rfl rfl) (fun h84 => ?_) (fun h84 => ?_)
     ·
      refine aw rfl rfl rfl rfl rfl (fun w' hw' => Wb rfl)<|aw_nil ?_
      intro w43 hw' hF
      replace H := H.later hw'; clear hw' hF
      refine Zn<|ZT rfl<|Zr<|Zl (Yp rfl)<|Zl (nck_r rfl)<|Zl (Zf fd_producer_1 rfl)<|stN H 0 (#[.int .i64 pv_, .int .i64 (-1), .int .i64 po, .int .i64 pm]) siz_int rfl rfl rfl rfl rfl (by kernel_rfl) (by kernel_rfl) fun w44 H =>Zn<|Zs<|Zs ?_
           
      refine cw_draw mixed [0, 1, 2, 3, 4, 5, 6, 7] [] [] [0, 2, 3, 4, 6, 7] (sp []) (by kernel_rfl) (by kernel_rfl) (by kernel_rfl) (by kernel_rfl) (fun _ _ _ h => h) (sp_st _) ?_
      refine aw rfl rfl rfl rfl rfl (fun w' hw' => Zf fd_Entry_3 rfl)<|aw rfl rfl rfl rfl rfl (fun w' hw' => ld_r one_int rfl (cellE ((H.later hw').ent (i := 1) rfl) rfl))<|aw rfl rfl rfl rfl rfl (fun w' hw' => Yp rfl)<|aw rfl rfl rfl rfl rfl (fun w' hw' => nck_r rfl)<|aw rfl rfl rfl rfl rfl (fun w' hw' => Zf fd_producer_1 rfl)<|aw rfl rfl rfl rfl rfl (fun w' hw' => ld_r one_int rfl (cellE ((H.later hw').ent (i := 0) rfl) rfl))<|aw rfl rfl rfl rfl rfl (fun w' hw' => add_r rfl rfl (by omega) (by omega)) ?_
      refine awD rfl rfl rfl rfl rfl (fun w' hw' => gtr_r rfl rfl) (fun h95 => ?_) (fun h95 => ?_)
      ·
       refine aw_nil ?_
       intro w45 hw' hF
       replace H := H.later hw'; clear hw' hF
       refine Zn<|ZT rfl<|Zs<|Zr<|Zl (Wi rfl)<|Zl (Wi rfl)<|Zn<|Zt ?_
       replace h95 : 0 < x.seq := by omega
       have hv : vchk es x = (0, 11) := by
        unfold vchk; rw [if_neg h11, ← hp]; unfold vchkP; simp [h30, h34, h84, h95]
       exact fin2 (v := .int .i64 (0)) (v2 := .int .i64 11) rfl rfl rfl ⟨by rw [hv], H.below⟩
      ·
       refine aw_nil ?_
       intro w46 hw' hF
       replace H := H.later hw'; clear hw' hF
       refine Zn<|ZF rfl<|Zk<|Zs<|Zs ?_
             
       refine cw_draw mixed [0, 1, 2, 3, 4, 5, 6, 7] [] [] [0, 2, 3, 4, 6, 7] (sp []) (by kernel_rfl) (by kernel_rfl) (by kernel_rfl) (by kernel_rfl) (fun _ _ _ h => h) (sp_st _) ?_
       refine aw rfl rfl rfl rfl rfl (fun w' hw' => Zf fd_Entry_3 rfl)<|aw rfl rfl rfl rfl rfl (fun w' hw' => ld_r one_int rfl (cellE ((H.later hw').ent (i := 1) rfl) rfl))<|aw rfl rfl rfl rfl rfl (fun w' hw' => Yp rfl)<|aw rfl rfl rfl rfl rfl (fun w' hw' => nck_r rfl)<|aw rfl rfl rfl rfl rfl (fun w' hw' => Zf fd_producer_1 rfl)<|aw rfl rfl rfl rfl rfl (fun w' hw' => ld_r one_int rfl (cellE ((H.later hw').ent (i := 0) rfl) rfl))<|aw rfl rfl rfl rfl rfl (fun w' hw' => add_r rfl rfl (by omega) (by omega)) ?_
       refine awD rfl rfl rfl rfl rfl (fun w' hw' => eql_r rfl rfl) (fun h103 => ?_) (fun h103 => ?_)
       ·
        refine aw_nil ?_
        intro w47 hw' hF
        replace H := H.later hw'; clear hw' hF
        refine Zn<|ZT rfl<|Zs<|Zr<|Zl (Wi rfl)<|Zl (Wi rfl)<|Zn<|Zt ?_
        replace h95 : ¬ 0 < x.seq := by omega
        replace h103 : x.seq = 0 := by omega
        have hv : vchk es x = (-1, 0) := by
         unfold vchk; rw [if_neg h11, ← hp]; unfold vchkP; simp [h30, h34, h84, h95, h103]
        exact fin2 (v := .int .i64 (-1)) (v2 := .int .i64 0) rfl rfl rfl ⟨by rw [hv], H.below⟩
       ·
        refine aw_nil ?_
        intro w48 hw' hF
        replace H := H.later hw'; clear hw' hF
        refine Zn<|ZF rfl<|Zk<|Zs<|Zs<|Zr<|Zl (Ys rfl)<|Zl (lenS_r len_LEntry rfl)<|Zl (Yi rfl)<|Zn<|Zb ?_
        refine cw_loop (τ := Nat) [4, 5, 7, 8, 106, 107, 108, 109, 110, 111, 112, 113, 114, 115, 116, 117, 118, 119, 120, 121, 122, 123, 124, 125, 126, 127, 128, 129, 130, 131, 132, 133, 134, 135, 136] (fun i => [(106, .int .i64 (i : Nat))]) (fun i w' => i ≤ es.length ∧ (∀ j e, j < i → es[j]? = some e → isDup x e = false) ∧ Hp w w' ((b, .cells #[.int .i64 pv_, .int .i64 (-1), .int .i64 po, .int .i64 pm] T_producer (0, 0)) :: (b3, .cells (Ent.c x).toArray T_Entry (0, 0)) :: K) [FRd entL 0 w.heap.size A es]) (fun i => es.length - i) 0 ⟨by omega, by intro j e hj; omega, H⟩ (sl1 rfl) ?_
        rintro i ρ3 w49 ⟨hi, hno, H⟩
        show CW _ _ _ _ (updL (ovr _ _ ρ3) [(106, .int .i64 (i : Nat))]) w49
        refine Zs<|Zr ?_
        refine lwD (lss_r rfl rfl) rfl rfl rfl (fun h107 => ?_) (fun h107 => ?_)
        ·
         refine Zn<|Zs<|ZT rfl<|Zk<|Zs<|Zb<|Zs<|Zr<|Zl (Yi rfl)<|ixF H 0 rfl sl_LEntry rfl rfl (by omega) (by omega) rfl fun b50 o50 x50 e50 =>Zl (ldA_r (xs := Ent.c x50) agg_Entry rfl rfl e50.cl)<|alo H z_Entry rfl fun w51 b8 H =>Zl (Wi rfl)<|stW H 0 siz_Entry rfl rfl rfl rfl rfl rfl fun w52 H => ?_
         refine Zn<|Zs<|Zr<|Zl (Zf fd_Entry_4 rfl)<|Zl (Zd one_int H 0 rfl rfl rfl) ?_
         refine lwD (eql_r rfl rfl) rfl rfl rfl (fun h113 => ?_) (fun h113 => ?_)
         ·
          refine Zl (Yb rfl)<|ZG<|Zl (Zf fd_Entry_1 rfl)<|ZG<|Zl (Zd one_int H 0 rfl rfl rfl)<|ZG<|Zl (Zf fd_Entry_1 rfl)<|ZG<|Zl (Zd one_int H 2 rfl rfl rfl)<|ZG ?_
          refine lwD (eql_r rfl rfl) rfl rfl rfl (fun h119 => ?_) (fun h119 => ?_)
          ·
           refine Zl (Kt rfl rfl)<|Zl (Yb rfl)<|ZG<|Zl (Zf fd_Entry_2 rfl)<|ZG<|Zl (Zd one_int H 0 rfl rfl rfl)<|ZG<|Zl (Zf fd_Entry_2 rfl)<|ZG<|Zl (Zd one_int H 2 rfl rfl rfl)<|ZG ?_
           refine lwD (eql_r rfl rfl) rfl rfl rfl (fun h126 => ?_) (fun h126 => ?_)
           ·
            refine Zl (Kt rfl rfl)<|Zl (Yb rfl)<|ZG<|Zl (Zf fd_Entry_3 rfl)<|ZG<|Zl (Zd one_int H 0 rfl rfl rfl)<|ZG<|Zl (Zf fd_Entry_3 rfl)<|ZG<|Zl (Zd one_int H 2 rfl rfl rfl)<|ZG ?_
            refine lwD (eql_r rfl rfl) rfl rfl rfl (fun h133 => ?_) (fun h133 => ?_)
            ·
             refine Zl (Kt rfl rfl)<|Zn<|ZT rfl<|Zs<|Zr<|Zl (Yi rfl)<|Zl (Wi rfl)<|Zl (Wi rfl)<|Zn<|Zt ?_
             replace h95 : ¬ 0 < x.seq := by omega
             replace h103 : ¬ x.seq = 0 := by omega
             have hdup := dup_some e50.at_ (by simp [isDup, h113, h119, h126, h133]) hno
             have hv : vchk es x = ((i : Int), 0) := by
              unfold vchk; rw [if_neg h11, ← hp]; unfold vchkP; simp [h30, h34, h84, h95, h103, hdup]
             exact fin2 (v := .int .i64 ((i : Int))) (v2 := .int .i64 0) rfl rfl rfl ⟨by rw [hv], H.below⟩
            ·
             refine Zl (Kt rfl rfl)<|Zn<|ZF rfl<|Zk<|Zr<|Zl (add_r rfl rfl (by omega) (by omega))<|Zl (Yi rfl)<|Zn ?_
             refine ⟨i + 1, ⟨by omega, fun j e hj he => ?_, H.forget (List.sublist_cons_self _ _) (fun _ h => h)⟩, sl1 rfl, by repeat (first | exact Agr.refl _ _ | exact agr_ovr | refine agr_upd rfl ?_ | refine agr_updL _ rfl ?_ | refine agr_ovr2 rfl ?_), by show es.length - (i + 1) < es.length - i; omega⟩
             by_cases hji : j < i
             ·
              exact hno j e hji he
             ·
              have : j = i := by omega
              subst this; have he2 := e50.at_; rw [he] at he2; injection he2 with he2; subst he2
              simp [isDup, h113, h119, h126, h133]
           ·
            refine Zl (Kt rfl rfl)<|Zl (Yb rfl)<|ZN<|ZN<|ZN<|ZN<|ZN<|Zl (Kf rfl rfl)<|Zn<|ZF rfl<|Zk<|Zr<|Zl (add_r rfl rfl (by omega) (by omega))<|Zl (Yi rfl) ?_
            refine Zn ?_
            refine ⟨i + 1, ⟨by omega, fun j e hj he => ?_, H.forget (List.sublist_cons_self _ _) (fun _ h => h)⟩, sl1 rfl, by repeat (first | exact Agr.refl _ _ | exact agr_ovr | refine agr_upd rfl ?_ | refine agr_updL _ rfl ?_ | refine agr_ovr2 rfl ?_), by show es.length - (i + 1) < es.length - i; omega⟩
            by_cases hji : j < i
            ·
             exact hno j e hji he
            ·
             have : j = i := by omega
             subst this; have he2 := e50.at_; rw [he] at he2; injection he2 with he2; subst he2
             simp [isDup, h113, h119, h126]
          ·
           refine Zl (Kt rfl rfl)<|Zl (Yb rfl)<|ZN<|ZN<|ZN<|ZN<|ZN<|Zl (Kf rfl rfl)<|Zl (Yb rfl)<|ZN<|ZN<|ZN<|ZN<|ZN ?_
           refine Zl (Kf rfl rfl)<|Zn<|ZF rfl<|Zk<|Zr<|Zl (add_r rfl rfl (by omega) (by omega))<|Zl (Yi rfl)<|Zn ?_
           refine ⟨i + 1, ⟨by omega, fun j e hj he => ?_, H.forget (List.sublist_cons_self _ _) (fun _ h => h)⟩, sl1 rfl, by repeat (first | exact Agr.refl _ _ | exact agr_ovr | refine agr_upd rfl ?_ | refine agr_updL _ rfl ?_ | refine agr_ovr2 rfl ?_), by show es.length - (i + 1) < es.length - i; omega⟩
           by_cases hji : j < i
           ·
            exact hno j e hji he
           ·
            have : j = i := by omega
            subst this; have he2 := e50.at_; rw [he] at he2; injection he2 with he2; subst he2
            simp [isDup, h113, h119]
         ·
          refine Zl (Yb rfl)<|ZN<|ZN<|ZN<|ZN<|ZN<|Zl (Kf rfl rfl)<|Zl (Yb rfl)<|ZN<|ZN<|ZN<|ZN<|ZN<|Zl (Kf rfl rfl) ?_
          refine Zl (Yb rfl)<|ZN<|ZN<|ZN<|ZN<|ZN<|Zl (Kf rfl rfl)<|Zn<|ZF rfl<|Zk<|Zr<|Zl (add_r rfl rfl (by omega) (by omega))<|Zl (Yi rfl)<|Zn ?_
          refine ⟨i + 1, ⟨by omega, fun j e hj he => ?_, H.forget (List.sublist_cons_self _ _) (fun _ h => h)⟩, sl1 rfl, by repeat (first | exact Agr.refl _ _ | exact agr_ovr | refine agr_upd rfl ?_ | refine agr_updL _ rfl ?_ | refine agr_ovr2 rfl ?_), by show es.length - (i + 1) < es.length - i; omega⟩
          by_cases hji : j < i
          ·
           exact hno j e hji he
          ·
           have : j = i := by omega
           subst this; have he2 := e50.at_; rw [he] at he2; injection he2 with he2; subst he2
           simp [isDup, h113]
        ·
         refine Zn<|Zs<|ZF rfl<|Zx<|Zs<|Zr<|Zl (Wi rfl)<|Zl (Wi rfl)<|Zn<|Zt ?_
         replace h95 : ¬ 0 < x.seq := by omega
         replace h103 : ¬ x.seq = 0 := by omega
         have hdup := dup_none (x := x) (es := es) (fun j e hj he => hno j e (by omega) he)
         have hv : vchk es x = (0, 11) := by
          unfold vchk; rw [if_neg h11, ← hp]; unfold vchkP; simp [h30, h34, h84, h95, h103, hdup]
         exact fin2 (v := .int .i64 (0)) (v2 := .int .i64 11) rfl rfl rfl ⟨by rw [hv], H.below⟩
     ·
      refine aw rfl rfl rfl rfl rfl (fun w' hw' => Wb rfl)<|aw_nil ?_
      intro w53 hw' hF
      replace H := H.later hw'; clear hw' hF
      refine Zn<|ZF rfl<|Zk<|Zs<|Zs ?_
           
      refine cw_draw mixed [0, 1, 2, 3, 4, 5, 6, 7] [] [] [0, 2, 3, 4, 6, 7] (sp []) (by kernel_rfl) (by kernel_rfl) (by kernel_rfl) (by kernel_rfl) (fun _ _ _ h => h) (sp_st _) ?_
      refine aw rfl rfl rfl rfl rfl (fun w' hw' => Zf fd_Entry_3 rfl)<|aw rfl rfl rfl rfl rfl (fun w' hw' => ld_r one_int rfl (cellE ((H.later hw').ent (i := 1) rfl) rfl))<|aw rfl rfl rfl rfl rfl (fun w' hw' => Yp rfl)<|aw rfl rfl rfl rfl rfl (fun w' hw' => nck_r rfl)<|aw rfl rfl rfl rfl rfl (fun w' hw' => Zf fd_producer_1 rfl)<|aw rfl rfl rfl rfl rfl (fun w' hw' => ld_r one_int rfl (cellE ((H.later hw').ent (i := 0) rfl) rfl))<|aw rfl rfl rfl rfl rfl (fun w' hw' => add_r rfl rfl (by omega) (by omega)) ?_
      refine awD rfl rfl rfl rfl rfl (fun w' hw' => gtr_r rfl rfl) (fun h95 => ?_) (fun h95 => ?_)
      ·
       refine aw_nil ?_
       intro w54 hw' hF
       replace H := H.later hw'; clear hw' hF
       refine Zn<|ZT rfl<|Zs<|Zr<|Zl (Wi rfl)<|Zl (Wi rfl)<|Zn<|Zt ?_
       have hv : vchk es x = (0, 11) := by
        unfold vchk; rw [if_neg h11, ← hp]; unfold vchkP; simp [h30, h34, h84, h95]
       exact fin2 (v := .int .i64 (0)) (v2 := .int .i64 11) rfl rfl rfl ⟨by rw [hv], H.below⟩
      ·
       refine aw_nil ?_
       intro w55 hw' hF
       replace H := H.later hw'; clear hw' hF
       refine Zn<|ZF rfl<|Zk<|Zs<|Zs ?_
             
       refine cw_draw mixed [0, 1, 2, 3, 4, 5, 6, 7] [] [] [0, 2, 3, 4, 6, 7] (sp []) (by kernel_rfl) (by kernel_rfl) (by kernel_rfl) (by kernel_rfl) (fun _ _ _ h => h) (sp_st _) ?_
       refine aw rfl rfl rfl rfl rfl (fun w' hw' => Zf fd_Entry_3 rfl)<|aw rfl rfl rfl rfl rfl (fun w' hw' => ld_r one_int rfl (cellE ((H.later hw').ent (i := 1) rfl) rfl))<|aw rfl rfl rfl rfl rfl (fun w' hw' => Yp rfl)<|aw rfl rfl rfl rfl rfl (fun w' hw' => nck_r rfl)<|aw rfl rfl rfl rfl rfl (fun w' hw' => Zf fd_producer_1 rfl)<|aw rfl rfl rfl rfl rfl (fun w' hw' => ld_r one_int rfl (cellE ((H.later hw').ent (i := 0) rfl) rfl))<|aw rfl rfl rfl rfl rfl (fun w' hw' => add_r rfl rfl (by omega) (by omega)) ?_
       refine awD rfl rfl rfl rfl rfl (fun w' hw' => eql_r rfl rfl) (fun h103 => ?_) (fun h103 => ?_)
       ·
        refine aw_nil ?_
        intro w56 hw' hF
        replace H := H.later hw'; clear hw' hF
        refine Zn<|ZT rfl<|Zs<|Zr<|Zl (Wi rfl)<|Zl (Wi rfl)<|Zn<|Zt ?_
        have hv : vchk es x = (-1, 0) := by
         unfold vchk; rw [if_neg h11, ← hp]; unfold vchkP; simp [h30, h34, h84, h95, h103]
        exact fin2 (v := .int .i64 (-1)) (v2 := .int .i64 0) rfl rfl rfl ⟨by rw [hv], H.below⟩
       ·
        refine aw_nil ?_
        intro w57 hw' hF
        replace H := H.later hw'; clear hw' hF
        refine Zn<|ZF rfl<|Zk<|Zs<|Zs<|Zr<|Zl (Ys rfl)<|Zl (lenS_r len_LEntry rfl)<|Zl (Yi rfl)<|Zn<|Zb ?_
        refine cw_loop (τ := Nat) [4, 5, 7, 8, 106, 107, 108, 109, 110, 111, 112, 113, 114, 115, 116, 117, 118, 119, 120, 121, 122, 123, 124, 125, 126, 127, 128, 129, 130, 131, 132, 133, 134, 135, 136] (fun i => [(106, .int .i64 (i : Nat))]) (fun i w' => i ≤ es.length ∧ (∀ j e, j < i → es[j]? = some e → isDup x e = false) ∧ Hp w w' ((b, .cells #[.int .i64 pv_, .int .i64 ps, .int .i64 po, .int .i64 pm] T_producer (0, 0)) :: (b3, .cells (Ent.c x).toArray T_Entry (0, 0)) :: K) [FRd entL 0 w.heap.size A es]) (fun i => es.length - i) 0 ⟨by omega, by intro j e hj; omega, H⟩ (sl1 rfl) ?_
        rintro i ρ3 w58 ⟨hi, hno, H⟩
        show CW _ _ _ _ (updL (ovr _ _ ρ3) [(106, .int .i64 (i : Nat))]) w58
        refine Zs<|Zr ?_
        refine lwD (lss_r rfl rfl) rfl rfl rfl (fun h107 => ?_) (fun h107 => ?_)
        ·
         refine Zn<|Zs<|ZT rfl<|Zk<|Zs<|Zb<|Zs<|Zr<|Zl (Yi rfl)<|ixF H 0 rfl sl_LEntry rfl rfl (by omega) (by omega) rfl fun b59 o59 x59 e59 =>Zl (ldA_r (xs := Ent.c x59) agg_Entry rfl rfl e59.cl)<|alo H z_Entry rfl fun w60 b8 H =>Zl (Wi rfl)<|stW H 0 siz_Entry rfl rfl rfl rfl rfl rfl fun w61 H => ?_
         refine Zn<|Zs<|Zr<|Zl (Zf fd_Entry_4 rfl)<|Zl (Zd one_int H 0 rfl rfl rfl) ?_
         refine lwD (eql_r rfl rfl) rfl rfl rfl (fun h113 => ?_) (fun h113 => ?_)
         ·
          refine Zl (Yb rfl)<|ZG<|Zl (Zf fd_Entry_1 rfl)<|ZG<|Zl (Zd one_int H 0 rfl rfl rfl)<|ZG<|Zl (Zf fd_Entry_1 rfl)<|ZG<|Zl (Zd one_int H 2 rfl rfl rfl)<|ZG ?_
          refine lwD (eql_r rfl rfl) rfl rfl rfl (fun h119 => ?_) (fun h119 => ?_)
          ·
           refine Zl (Kt rfl rfl)<|Zl (Yb rfl)<|ZG<|Zl (Zf fd_Entry_2 rfl)<|ZG<|Zl (Zd one_int H 0 rfl rfl rfl)<|ZG<|Zl (Zf fd_Entry_2 rfl)<|ZG<|Zl (Zd one_int H 2 rfl rfl rfl)<|ZG ?_
           refine lwD (eql_r rfl rfl) rfl rfl rfl (fun h126 => ?_) (fun h126 => ?_)
           ·
            refine Zl (Kt rfl rfl)<|Zl (Yb rfl)<|ZG<|Zl (Zf fd_Entry_3 rfl)<|ZG<|Zl (Zd one_int H 0 rfl rfl rfl)<|ZG<|Zl (Zf fd_Entry_3 rfl)<|ZG<|Zl (Zd one_int H 2 rfl rfl rfl)<|ZG ?_
            refine lwD (eql_r rfl rfl) rfl rfl rfl (fun h133 => ?_) (fun h133 => ?_)
            ·
             refine Zl (Kt rfl rfl)<|Zn<|ZT rfl<|Zs<|Zr<|Zl (Yi rfl)<|Zl (Wi rfl)<|Zl (Wi rfl)<|Zn<|Zt ?_
             have hdup := dup_some e59.at_ (by simp [isDup, h113, h119, h126, h133]) hno
             have hv : vchk es x = ((i : Int), 0) := by
              unfold vchk; rw [if_neg h11, ← hp]; unfold vchkP; simp [h30, h34, h84, h95, h103, hdup]
             exact fin2 (v := .int .i64 ((i : Int))) (v2 := .int .i64 0) rfl rfl rfl ⟨by rw [hv], H.below⟩
            ·
             refine Zl (Kt rfl rfl)<|Zn<|ZF rfl<|Zk<|Zr<|Zl (add_r rfl rfl (by omega) (by omega))<|Zl (Yi rfl)<|Zn ?_
             refine ⟨i + 1, ⟨by omega, fun j e hj he => ?_, H.forget (List.sublist_cons_self _ _) (fun _ h => h)⟩, sl1 rfl, by repeat (first | exact Agr.refl _ _ | exact agr_ovr | refine agr_upd rfl ?_ | refine agr_updL _ rfl ?_ | refine agr_ovr2 rfl ?_), by show es.length - (i + 1) < es.length - i; omega⟩
             by_cases hji : j < i
             ·
              exact hno j e hji he
             ·
              have : j = i := by omega
              subst this; have he2 := e59.at_; rw [he] at he2; injection he2 with he2; subst he2
              simp [isDup, h113, h119, h126, h133]
           ·
            refine Zl (Kt rfl rfl)<|Zl (Yb rfl)<|ZN<|ZN<|ZN<|ZN<|ZN<|Zl (Kf rfl rfl)<|Zn<|ZF rfl<|Zk<|Zr<|Zl (add_r rfl rfl (by omega) (by omega))<|Zl (Yi rfl) ?_
            refine Zn ?_
            refine ⟨i + 1, ⟨by omega, fun j e hj he => ?_, H.forget (List.sublist_cons_self _ _) (fun _ h => h)⟩, sl1 rfl, by repeat (first | exact Agr.refl _ _ | exact agr_ovr | refine agr_upd rfl ?_ | refine agr_updL _ rfl ?_ | refine agr_ovr2 rfl ?_), by show es.length - (i + 1) < es.length - i; omega⟩
            by_cases hji : j < i
            ·
             exact hno j e hji he
            ·
             have : j = i := by omega
             subst this; have he2 := e59.at_; rw [he] at he2; injection he2 with he2; subst he2
             simp [isDup, h113, h119, h126]
          ·
           refine Zl (Kt rfl rfl)<|Zl (Yb rfl)<|ZN<|ZN<|ZN<|ZN<|ZN<|Zl (Kf rfl rfl)<|Zl (Yb rfl)<|ZN<|ZN<|ZN<|ZN<|ZN ?_
           refine Zl (Kf rfl rfl)<|Zn<|ZF rfl<|Zk<|Zr<|Zl (add_r rfl rfl (by omega) (by omega))<|Zl (Yi rfl)<|Zn ?_
           refine ⟨i + 1, ⟨by omega, fun j e hj he => ?_, H.forget (List.sublist_cons_self _ _) (fun _ h => h)⟩, sl1 rfl, by repeat (first | exact Agr.refl _ _ | exact agr_ovr | refine agr_upd rfl ?_ | refine agr_updL _ rfl ?_ | refine agr_ovr2 rfl ?_), by show es.length - (i + 1) < es.length - i; omega⟩
           by_cases hji : j < i
           ·
            exact hno j e hji he
           ·
            have : j = i := by omega
            subst this; have he2 := e59.at_; rw [he] at he2; injection he2 with he2; subst he2
            simp [isDup, h113, h119]
         ·
          refine Zl (Yb rfl)<|ZN<|ZN<|ZN<|ZN<|ZN<|Zl (Kf rfl rfl)<|Zl (Yb rfl)<|ZN<|ZN<|ZN<|ZN<|ZN<|Zl (Kf rfl rfl) ?_
          refine Zl (Yb rfl)<|ZN<|ZN<|ZN<|ZN<|ZN<|Zl (Kf rfl rfl)<|Zn<|ZF rfl<|Zk<|Zr<|Zl (add_r rfl rfl (by omega) (by omega))<|Zl (Yi rfl)<|Zn ?_
          refine ⟨i + 1, ⟨by omega, fun j e hj he => ?_, H.forget (List.sublist_cons_self _ _) (fun _ h => h)⟩, sl1 rfl, by repeat (first | exact Agr.refl _ _ | exact agr_ovr | refine agr_upd rfl ?_ | refine agr_updL _ rfl ?_ | refine agr_ovr2 rfl ?_), by show es.length - (i + 1) < es.length - i; omega⟩
          by_cases hji : j < i
          ·
           exact hno j e hji he
          ·
           have : j = i := by omega
           subst this; have he2 := e59.at_; rw [he] at he2; injection he2 with he2; subst he2
           simp [isDup, h113]
        ·
         refine Zn<|Zs<|ZF rfl<|Zx<|Zs<|Zr<|Zl (Wi rfl)<|Zl (Wi rfl)<|Zn<|Zt ?_
         have hdup := dup_none (x := x) (es := es) (fun j e hj he => hno j e (by omega) he)
         have hv : vchk es x = (0, 11) := by
          unfold vchk; rw [if_neg h11, ← hp]; unfold vchkP; simp [h30, h34, h84, h95, h103, hdup]
         exact fin2 (v := .int .i64 (0)) (v2 := .int .i64 11) rfl rfl rfl ⟨by rw [hv], H.below⟩
end Go.Proofs.Ytemnchkebhclpaa
