/- GV: a part of the proofs over this seat: what stands in its theorems holds for every input that they name. -/
import Derived.Test.YtemnchkebhclpaaGX
import Derived.Test.YtemnchkebhclpaaGB
import Derived.Test.YtemnchkebhclpaaEngZ
open Go.Eng renaming lw_nil → Zn, cw_seq → Zs, cw_region → Zr, cw_skip → Zk, cw_ret → Zt, cw_block → Zb, cw_exit → Zx, mvI_r → Yi, mvB_r → Yb, mvS_r → Ys, mvP_r → Yp, mvT_r → Yt, mvU_r → Yu, mvA_r → Ya, asI_r → Wi, asB_r → Wb, asS_r → Ws, asP_r → Wp, asT_r → Wt, fad_r → Zf, exI_r → Xi, exA_r → Xa, exB_r → Xb, exS_r → Xs, pkTB_r → Kt, pkFB_r → Kf, cw_true → ZT, cw_false → ZF
section
namespace Go.Proofs.Ytemnchkebhclpaa
open Go Go.Eng Go.RowKit
set_option linter.unusedSimpArgs false
structure Prod where
 ver : Int
 seq : Int
 open_ : Int
 mark : Int
def Prod.c (p : Prod) : List Value := [.int .i64 p.ver, .int .i64 p.seq, .int .i64 p.open_, .int .i64 p.mark]
def p0 : Prod := ⟨0, -1, -1, -1⟩
abbrev T_prods : TypeId := 138
theorem mp_prods : mapB Try.prog T_prods T_int T_Pproducer = true := by kernel_rfl

/-- what is known of a producer, an entry more -/
def pv (e : Ent) (p : Prod) : Prod := if e.ver ≠ p.ver then ⟨e.ver, -1, p.open_, p.mark⟩ else p
def stepP (i : Nat) (e : Ent) (p : Prod) : Prod :=
 if e.kind ≠ 1 then ⟨(pv e p).ver, (pv e p).seq, -1, i⟩
 else if e.txn = true ∧ (pv e p).open_ < 0 then ⟨(pv e p).ver, e.seq, i, (pv e p).mark⟩
 else ⟨(pv e p).ver, e.seq, (pv e p).open_, (pv e p).mark⟩
def prodF (es : List Ent) (pid : Int) : Option Prod :=
 es.zipIdx.foldl (fun a q => if q.1.pid ≠ 0 ∧ q.1.pid = pid then some (stepP q.2 q.1 (a.getD p0)) else a) none
theorem prodF_nil (pid : Int) : prodF [] pid = none := rfl
theorem prodF_snoc (es : List Ent) (e : Ent) (pid : Int) : prodF (es ++ [e]) pid = if e.pid ≠ 0 ∧ e.pid = pid then some (stepP es.length e ((prodF es pid).getD p0)) else prodF es pid := by
 unfold prodF
 rw [List.zipIdx_append, List.foldl_append]
 simp
theorem take_snoc {α : Type} {l : List α} {k : Nat} {e : α} (h : l[k]? = some e) : l.take (k + 1) = l.take k ++ [e] := by
 obtain ⟨hk, rfl⟩ := getE h
 exact List.take_succ_eq_append_getElem hk
theorem prodF_take {es : List Ent} {k : Nat} {e : Ent} (h : es[k]? = some e) (pid : Int) : prodF (es.take (k + 1)) pid = if e.pid ≠ 0 ∧ e.pid = pid then some (stepP k e ((prodF (es.take k) pid).getD p0)) else prodF (es.take k) pid := by
 obtain ⟨hk, -⟩ := getE h
 rw [take_snoc h, prodF_snoc, List.length_take, Nat.min_eq_left (by omega)]
abbrev PB := Int × Nat × Prod
abbrev pval (b : Nat) : Value := .pointer (some ⟨b, 0, none⟩)
def pmap (S : List PB) : List (Int × Value) := S.map fun q => (q.1, pval q.2.1)
def pblk (q : PB) : Nat × Obj := (q.2.1, .cells q.2.2.c.toArray T_producer (0, 0))
def ploc (bm : Nat) (S : List PB) : List (Nat × Obj) := (bm, mapO (pmap S)) :: S.map pblk
def look (S : List PB) (pid : Int) : Option Prod := (S.find? (fun q => decide (q.1 = pid))).map (·.2.2)
theorem pmap_keys (S : List PB) : (pmap S).map (·.1) = S.map (·.1) := by simp [pmap]
theorem pmap_get {S : List PB} {j : Nat} {pid : Int} {b : Nat} {p : Prod} (h : S[j]? = some (pid, b, p)) : (pmap S)[j]? = some (pid, pval b) := by simp [pmap, h]
theorem pmap_set {S : List PB} {j : Nat} {pid : Int} {b : Nat} {p p' : Prod} (h : S[j]? = some (pid, b, p)) : pmap (S.set j (pid, b, p')) = pmap S := by
 unfold pmap
 apply List.ext_getElem?
 intro i
 rw [List.getElem?_map, List.getElem?_map, List.getElem?_set]
 split
 ·
  rename_i hij; subst hij
  obtain ⟨hlt, hg⟩ := getE h
  simp [hlt, hg]
 ·
  rfl
theorem keys_set {S : List PB} {j : Nat} {pid : Int} {b : Nat} {p p' : Prod} (h : S[j]? = some (pid, b, p)) : (S.set j (pid, b, p')).map (·.1) = S.map (·.1) := by
 rw [← pmap_keys, pmap_set h, pmap_keys]
theorem out_perm {S : List PB} {j : Nat} {q : PB} (h : S[j]? = some q) : (pblk q :: (S.eraseIdx j).map pblk).Perm (S.map pblk) := by
 obtain ⟨hlt, rfl⟩ := getE h
 have := Go.ChangeMaps.set_perm S j hlt S[j]
 rw [List.set_getElem_self] at this
 exact (this.map pblk).symm
theorem in_perm {S : List PB} {j : Nat} {q q' : PB} (h : S[j]? = some q) : ((S.set j q').map pblk).Perm (pblk q' :: (S.eraseIdx j).map pblk) := by
 obtain ⟨hlt, -⟩ := getE h
 exact (Go.ChangeMaps.set_perm S j hlt q').map pblk
theorem look_none {S : List PB} {pid : Int} (h : ∀ q ∈ S, q.1 ≠ pid) : look S pid = none := by
 unfold look
 rw [List.find?_eq_none.2 (fun q hq => by simpa using h q hq)]; rfl
theorem look_some {S : List PB} (hn : (S.map (·.1)).Nodup) {j : Nat} {pid : Int} {b : Nat} {p : Prod} (h : S[j]? = some (pid, b, p)) : look S pid = some p := by
 unfold look
 induction S generalizing j with
 | nil => simp at h
 | cons q r ih =>
  simp only [List.map_cons, List.nodup_cons] at hn
  cases j with
  | zero => simp at h; subst h; simp
  | succ j =>
   simp only [List.getElem?_cons_succ] at h
   have hne : ¬ q.1 = pid := fun e => hn.1 (List.mem_map.2 ⟨_, List.mem_of_getElem? h, e.symm⟩)
   rw [List.find?_cons_of_neg (by simpa using hne)]
   exact ih hn.2 h
theorem look_cases (S : List PB) (pid : Int) : (∀ q ∈ S, q.1 ≠ pid) ∨ ∃ (j b : Nat) (p : Prod), S[j]? = some (pid, b, p) := by
 by_cases h : ∃ q ∈ S, q.1 = pid
 ·
  obtain ⟨⟨a, b, p⟩, hq, rfl⟩ := h
  obtain ⟨j, hj⟩ := List.mem_iff_getElem?.1 hq
  exact .inr ⟨j, b, p, hj⟩
 ·
  exact .inl fun q hq e => h ⟨q, hq, e⟩
theorem look_app (S : List PB) (q : PB) {pid : Int} (h : q.1 ≠ pid) : look (S ++ [q]) pid = look S pid := by
 unfold look
 rw [List.find?_append, List.find?_cons_of_neg (by simpa using h)]
 simp
theorem look_set {S : List PB} {j : Nat} {k : Int} {b : Nat} {p p' : Prod} (h : S[j]? = some (k, b, p)) {pid : Int} (hp : k ≠ pid) : look (S.set j (k, b, p')) pid = look S pid := by
 unfold look
 induction S generalizing j with
 | nil => simp at h
 | cons q r ih =>
  cases j with
  | zero =>
   simp at h; subst h
   simp only [List.set_cons_zero]
   rw [List.find?_cons_of_neg (by simpa using hp), List.find?_cons_of_neg (by simpa using hp)]
  | succ j =>
   simp only [List.getElem?_cons_succ] at h
   simp only [List.set_cons_succ, List.find?_cons]
   split
   ·
    rfl
   ·
    exact ih h
/-- the producers that a replay finds -/
def PS (S : List PB) (es : List Ent) : Prop := (S.map (·.1)).Nodup ∧ ∀ pid, look S pid = prodF es pid
theorem ps_skip {S : List PB} {es : List Ent} {k : Nat} {e : Ent} (h : es[k]? = some e) (h0 : e.pid = 0) (hs : PS S (es.take k)) : PS S (es.take (k + 1)) :=
 ⟨hs.1, fun pid => by rw [prodF_take h, if_neg (fun x => x.1 h0)]; exact hs.2 pid⟩
theorem ps_set {S : List PB} {es : List Ent} {k j : Nat} {e : Ent} {b : Nat} {p : Prod} (h : es[k]? = some e) (h0 : e.pid ≠ 0) (hn : (S.map (·.1)).Nodup) (hj : S[j]? = some (e.pid, b, p)) (hp : p = (prodF (es.take k) e.pid).getD p0) (ho : ∀ pid, pid ≠ e.pid → look S pid = prodF (es.take k) pid) {p' : Prod} (hp' : p' = stepP k e p) :
  PS (S.set j (e.pid, b, p')) (es.take (k + 1)) := by
 have hn' : ((S.set j (e.pid, b, p')).map (·.1)).Nodup := by rw [keys_set hj]; exact hn
 refine ⟨hn', fun pid => ?_⟩
 rw [prodF_take h]
 by_cases hpid : e.pid = pid
 ·
  subst hpid
  obtain ⟨hlt, -⟩ := getE hj
  rw [if_pos ⟨h0, rfl⟩, look_some hn' (List.getElem?_set_self hlt), hp', ← hp]
 ·
  rw [if_neg (fun x => hpid x.2), look_set hj hpid]
  exact ho pid (Ne.symm hpid)
set_option maxHeartbeats 4000000 in
set_option maxRecDepth 10000 in
theorem replay_ok (es : List Ent) (A : Option Addr) (c : Nat) (w : World) (hr : Rd entL 0 w.heap.size A es w) (hb : es.length ≤ 1000000) :
  Ret Try.prog i_view_replay [.slice A es.length c] w fun v w2 => ∃ S bm, v = .map (some bm) ∧ PS S es ∧ Hp w w2 (ploc bm S) [] := by
 refine ret_of fn_view_replay rfl rfl ?_
 have H := Hp.startRd hr
 refine Zs<|Zr<|Zl (asM_r rfl)<|Zn<|Zs<|Zr<|mkm H rfl fun w1 bm H =>Zl (asM_r rfl)<|Zn<|Zs<|Zs<|Zr<|Zl (Ys rfl)<|Zl (lenS_r len_LEntry rfl) ?_
 refine Zl (Yi rfl)<|Zn<|Zb ?_
 refine cw_loop (τ := Nat × List PB) [4, 5, 6, 10, 11, 12, 13, 14, 15, 16, 17, 18, 19, 20, 21, 22, 23, 24, 25, 26, 27, 28, 29, 30, 31, 32, 33, 34, 35, 36, 37, 38, 39, 40, 41, 42, 43, 44, 45, 46, 47, 48, 49, 50, 51, 52, 53, 54, 55, 56, 57, 58, 59, 60, 61, 62, 63, 64, 65, 66, 67, 68, 69, 70, 71, 72, 73, 74] (fun (k, S) => [(10, .int .i64 (k : Nat))]) (fun (k, S) w' => k ≤ es.length ∧ PS S (es.take k) ∧ Hp w w' (ploc bm S) [FRd entL 0 w.heap.size A es]) (fun (k, _) => es.length - k) (0, []) ⟨by omega, ⟨List.nodup_nil, fun pid => rfl⟩, H⟩ (sl1 rfl) ?_
 rintro ⟨k, S⟩ ρ1 w2 ⟨hk, hS, H⟩
 show CW _ _ _ _ (updL (ovr _ _ ρ1) [(10, .int .i64 (k : Nat))]) w2
 refine Zs<|Zr ?_
 refine lwD (lss_r rfl rfl) rfl rfl rfl (fun h11 => ?_) (fun h11 => ?_)
 ·
  refine Zn<|Zs<|ZT rfl<|Zk<|Zs<|Zb<|Zs<|Zr<|Zl (Yi rfl)<|ixF H 0 rfl sl_LEntry rfl rfl (by omega) (by omega) rfl fun b3 o3 x3 e3 =>Zl (ldA_r (xs := Ent.c x3) agg_Entry rfl rfl e3.cl)<|alo H z_Entry rfl fun w4 b5 H =>Zl (Wi rfl)<|stW H 0 siz_Entry rfl rfl rfl rfl rfl rfl fun w5 H => ?_
  refine Zn<|Zs<|Zs<|Zr<|Zl (Zf fd_Entry_1 rfl)<|Zl (Zd one_int H 0 rfl rfl rfl) ?_
  refine lwD (eql_r rfl rfl) rfl rfl rfl (fun h17 => ?_) (fun h17 => ?_)
  ·
   refine Zn<|ZT rfl<|Zx<|Zr<|Zl (add_r rfl rfl (by omega) (by omega))<|Zl (Yi rfl)<|Zn ?_
   refine ⟨(k + 1, S), ⟨by have := (getE e3.at_).1; omega, ps_skip e3.at_ h17 hS, H.forget (List.sublist_cons_self _ _) (fun _ h => h)⟩, sl1 rfl, by repeat (first | exact Agr.refl _ _ | exact agr_ovr | refine agr_upd rfl ?_ | refine agr_updL _ rfl ?_ | refine agr_ovr2 rfl ?_), by show es.length - (k + 1) < es.length - k; omega⟩
  ·
   refine Zn<|ZF rfl<|Zk<|Zs<|Zr<|Zl (mvM_r rfl)<|Zl (Zf fd_Entry_1 rfl)<|Zl (Zd one_int H 0 rfl rfl rfl) ?_
   rcases look_cases S x3.pid with hno | ⟨j, b, p, hj⟩
   ·
    refine Zl (lkN_r mp_prods z_Pproducer rfl rfl (H.ent (i := 1) rfl) (by intro q hq; obtain ⟨a, ha, rfl⟩ := List.mem_map.1 hq; exact hno a ha))<|Zl (Wp rfl)<|Zn<|Zs ?_
    refine cw_cut (τ := List PB × Nat × Nat × Prod) [6, 22, 23, 24, 25, 26, 27, 28, 29] (fun (S1, j, b, p) => [(6, pval b)]) (fun (S1, j, b, p) w' => (S1.map (·.1)).Nodup ∧ S1[j]? = some (x3.pid, b, p) ∧ p = (prodF (es.take k) x3.pid).getD p0 ∧ (∀ pid, pid ≠ x3.pid → look S1 pid = prodF (es.take k) pid) ∧ Hp w w' ((b, .cells p.c.toArray T_producer (0, 0)) :: (b5, .cells (Ent.c x3).toArray T_Entry (0, 0)) :: (bm, mapO (pmap S1)) :: (S1.eraseIdx j).map pblk) [FRd entL 0 w.heap.size A es]) ?_ ?_
    ·
     skip
     refine Zs<|Zr<|Zl (Yp rfl)<|Zl (peqN_r ptr_Pproducer rfl)<|Zn<|ZT rfl<|Zs<|Zr<|Zl (bld_r (cs := (Prod.c p0).toArray) st_producer z_producer (by kernel_rfl))<|bxA H rfl rfl fun w6 b25 H =>Zl (Wp rfl)<|Zn<|Zr<|Zl (mvM_r rfl) ?_
     refine Zl (Zf fd_Entry_1 rfl)<|Zl (Zd one_int H 1 rfl rfl rfl)<|Zl (Yp rfl)<|mup H 2 mp_prods rfl rfl rfl rfl (by intro q hq; obtain ⟨a, ha, rfl⟩ := List.mem_map.1 hq; exact hno a ha) fun w7 H =>Zn ?_
     have hj : (S ++ [(x3.pid, b25, p0)])[S.length]? = some (x3.pid, b25, p0) := by simp
     have hkn : look S x3.pid = none := look_none hno
     rw [hS.2] at hkn
     refine ⟨(S ++ [(x3.pid, b25, p0)], S.length, b25, p0), ⟨?_, hj, by rw [hkn]; rfl, fun pid hpid => by rw [look_app _ _ (Ne.symm hpid)]; exact hS.2 pid, ?_⟩, sl1 rfl, by repeat (first | exact Agr.refl _ _ | exact agr_ovr | refine agr_upd rfl ?_ | refine agr_updL _ rfl ?_ | refine agr_ovr2 rfl ?_)⟩
     ·
      rw [List.map_append]; exact List.nodup_append.2 ⟨hS.1, by simp, by intro a ha c hc; simp at hc; subst hc; obtain ⟨q, hq, rfl⟩ := List.mem_map.1 ha; exact hno q hq⟩
     ·
      have hmm : pmap (S ++ [(x3.pid, b25, p0)]) = pmap S ++ [(x3.pid, pval b25)] := by simp [pmap]
      have hee : (S ++ [(x3.pid, b25, p0)]).eraseIdx S.length = S := by rw [List.eraseIdx_append_of_length_le (Nat.le_refl _)]; simp
      rw [hmm, hee]; exact H
    rintro ⟨S1, j, b, p⟩ ρ2 w8 ⟨hn, hj, hp, ho, H⟩
    show CW _ _ _ _ (updL (ovr _ _ ρ2) [(6, pval b)]) w8
    refine Zs<|Zs ?_
       
    refine cw_draw mixed [0, 1, 2, 3, 4, 5, 6] [] [] [0, 2, 3, 4, 6] (sp []) (by kernel_rfl) (by kernel_rfl) (by kernel_rfl) (by kernel_rfl) (fun _ _ _ h => h) (sp_st _) ?_
    refine aw rfl rfl rfl rfl rfl (fun w' hw' => Zf fd_Entry_2 rfl)<|aw rfl rfl rfl rfl rfl (fun w' hw' => ld_r one_int rfl (cellE ((H.later hw').ent (i := 1) rfl) rfl))<|aw rfl rfl rfl rfl rfl (fun w' hw' => Yp rfl)<|aw rfl rfl rfl rfl rfl (fun w' hw' => nck_r rfl)<|aw rfl rfl rfl rfl rfl (fun w' hw' => Zf fd_producer_0 rfl)<|aw rfl rfl rfl rfl rfl (fun w' hw' => ld_r one_int rfl (cellE ((H.later hw').ent (i := 0) rfl) rfl)) ?_
    refine awND rfl rfl rfl rfl rfl (fun w' hw' => neq_r rfl rfl) (fun h36 => ?_) (fun h36 => ?_)
    ·
     refine aw_nil ?_
     intro w9 hw' hF
     replace H := H.later hw'; clear hw' hF
     refine Zn<|ZT rfl<|Zr<|Zl (Yp rfl)<|Zl (Yp rfl)<|Zl (Zf fd_Entry_2 rfl)<|Zl (Zd one_int H 1 rfl rfl rfl)<|Zl (nck_r rfl)<|Zl (Zf fd_producer_0 rfl)<|stN H 0 ((Prod.c ⟨x3.ver, p.seq, p.open_, p.mark⟩).toArray) siz_int rfl rfl rfl rfl rfl (by kernel_rfl) (by kernel_rfl) fun w10 H =>Zl (nck_r rfl)<|Zl (Zf fd_producer_1 rfl)<|stN H 0 ((Prod.c ⟨x3.ver, -1, p.open_, p.mark⟩).toArray) siz_int rfl rfl rfl rfl rfl (by kernel_rfl) (by kernel_rfl) fun w11 H =>Zn ?_
     refine Zb<|Zs<|Zr<|Zl (Zf fd_Entry_4 rfl)<|Zl (Zd one_int H 1 rfl rfl rfl) ?_
     refine lwND (neq_r rfl rfl) rfl rfl rfl (fun h66 => ?_) (fun h66 => ?_)
     ·
      refine Zl (Wb rfl)<|Zn<|ZT rfl<|Zr<|Zl (Yp rfl)<|Zl (Yp rfl)<|Zl (Yi rfl)<|Zl (nck_r rfl)<|Zl (Zf fd_producer_2 rfl)<|stN H 0 ((Prod.c ⟨x3.ver, -1, -1, p.mark⟩).toArray) siz_int rfl rfl rfl rfl rfl (by kernel_rfl) (by kernel_rfl) fun w12 H =>Zl (nck_r rfl)<|Zl (Zf fd_producer_3 rfl)<|stN H 0 ((Prod.c ⟨x3.ver, -1, -1, k⟩).toArray) siz_int rfl rfl rfl rfl rfl (by kernel_rfl) (by kernel_rfl) fun w13 H =>Zn ?_
      refine Zr<|Zl (add_r rfl rfl (by omega) (by omega))<|Zl (Yi rfl)<|Zn ?_
      have hst : (⟨x3.ver, -1, -1, k⟩ : Prod) = stepP k x3 p := by
       simp [stepP, pv, h36, h66]
      have hP := in_perm (q' := (x3.pid, b, (⟨x3.ver, -1, -1, k⟩ : Prod))) hj
      refine ⟨(k + 1, S1.set j (x3.pid, b, (⟨x3.ver, -1, -1, k⟩ : Prod))), ⟨by omega, ps_set e3.at_ h17 hn hj hp ho hst, (H.perm (L' := (b5, _) :: ploc bm (S1.set j (x3.pid, b, _))) (by unfold ploc; rw [pmap_set hj]; exact ((hP.cons _).cons _).trans (((List.Perm.swap _ _ _).cons _).trans (List.Perm.swap _ _ _)))).forget (List.sublist_cons_self _ _) (fun _ h => h)⟩, sl1 rfl, by repeat (first | exact Agr.refl _ _ | exact agr_ovr | refine agr_upd rfl ?_ | refine agr_updL _ rfl ?_ | refine agr_ovr2 rfl ?_), by show es.length - (k + 1) < es.length - k; omega⟩
     ·
      refine Zl (Wb rfl)<|Zn<|ZF rfl<|Zs<|Zr<|Zl (Yp rfl)<|Zl (Zf fd_Entry_3 rfl)<|Zl (Zd one_int H 1 rfl rfl rfl)<|Zl (nck_r rfl)<|Zl (Zf fd_producer_1 rfl)<|stN H 0 ((Prod.c ⟨x3.ver, x3.seq, p.open_, p.mark⟩).toArray) siz_int rfl rfl rfl rfl rfl (by kernel_rfl) (by kernel_rfl) fun w14 H =>Zn<|Zs<|Zr ?_
      refine Zl (Zf fd_Entry_5 rfl) ?_
      refine lwB (ld_r one_bool rfl (cellE (H.ent (i := 1) rfl) rfl)) rfl rfl rfl (fun h51 => ?_) (fun h51 => ?_)
      ·
       refine Zl (Yb rfl)<|ZG<|Zl (Yp rfl)<|ZG<|Zl (nck_r rfl)<|ZG<|Zl (Zf fd_producer_2 rfl)<|ZG<|Zl (Zd one_int H 0 rfl rfl rfl)<|ZG ?_
       refine lwD (lss_r rfl rfl) rfl rfl rfl (fun h57 => ?_) (fun h57 => ?_)
       ·
        refine Zl (Kt rfl rfl)<|Zn<|ZT rfl<|Zr<|Zl (Yp rfl)<|Zl (Yi rfl)<|Zl (nck_r rfl)<|Zl (Zf fd_producer_2 rfl)<|stN H 0 ((Prod.c ⟨x3.ver, x3.seq, k, p.mark⟩).toArray) siz_int rfl rfl rfl rfl rfl (by kernel_rfl) (by kernel_rfl) fun w15 H =>Zn<|Zr<|Zl (add_r rfl rfl (by omega) (by omega))<|Zl (Yi rfl)<|Zn ?_
        replace h57 : p.open_ < 0 := h57
        have hst : (⟨x3.ver, x3.seq, k, p.mark⟩ : Prod) = stepP k x3 p := by
         simp [stepP, pv, h36, h66, h51, h57]
        have hP := in_perm (q' := (x3.pid, b, (⟨x3.ver, x3.seq, k, p.mark⟩ : Prod))) hj
        refine ⟨(k + 1, S1.set j (x3.pid, b, (⟨x3.ver, x3.seq, k, p.mark⟩ : Prod))), ⟨by omega, ps_set e3.at_ h17 hn hj hp ho hst, (H.perm (L' := (b5, _) :: ploc bm (S1.set j (x3.pid, b, _))) (by unfold ploc; rw [pmap_set hj]; exact ((hP.cons _).cons _).trans (((List.Perm.swap _ _ _).cons _).trans (List.Perm.swap _ _ _)))).forget (List.sublist_cons_self _ _) (fun _ h => h)⟩, sl1 rfl, by repeat (first | exact Agr.refl _ _ | exact agr_ovr | refine agr_upd rfl ?_ | refine agr_updL _ rfl ?_ | refine agr_ovr2 rfl ?_), by show es.length - (k + 1) < es.length - k; omega⟩
       ·
        refine Zl (Kt rfl rfl)<|Zn<|ZF rfl<|Zk<|Zr<|Zl (add_r rfl rfl (by omega) (by omega))<|Zl (Yi rfl)<|Zn ?_
        replace h57 : ¬ p.open_ < 0 := h57
        have hst : (⟨x3.ver, x3.seq, p.open_, p.mark⟩ : Prod) = stepP k x3 p := by
         simp [stepP, pv, h36, h66, h51, h57]
        have hP := in_perm (q' := (x3.pid, b, (⟨x3.ver, x3.seq, p.open_, p.mark⟩ : Prod))) hj
        refine ⟨(k + 1, S1.set j (x3.pid, b, (⟨x3.ver, x3.seq, p.open_, p.mark⟩ : Prod))), ⟨by omega, ps_set e3.at_ h17 hn hj hp ho hst, (H.perm (L' := (b5, _) :: ploc bm (S1.set j (x3.pid, b, _))) (by unfold ploc; rw [pmap_set hj]; exact ((hP.cons _).cons _).trans (((List.Perm.swap _ _ _).cons _).trans (List.Perm.swap _ _ _)))).forget (List.sublist_cons_self _ _) (fun _ h => h)⟩, sl1 rfl, by repeat (first | exact Agr.refl _ _ | exact agr_ovr | refine agr_upd rfl ?_ | refine agr_updL _ rfl ?_ | refine agr_ovr2 rfl ?_), by show es.length - (k + 1) < es.length - k; omega⟩
      ·
       refine Zl (Yb rfl)<|ZN<|ZN<|ZN<|ZN<|ZN<|Zl (Kf rfl rfl)<|Zn<|ZF rfl<|Zk<|Zr<|Zl (add_r rfl rfl (by omega) (by omega))<|Zl (Yi rfl)<|Zn ?_
       have hst : (⟨x3.ver, x3.seq, p.open_, p.mark⟩ : Prod) = stepP k x3 p := by
        simp [stepP, pv, h36, h66, h51]
       have hP := in_perm (q' := (x3.pid, b, (⟨x3.ver, x3.seq, p.open_, p.mark⟩ : Prod))) hj
       refine ⟨(k + 1, S1.set j (x3.pid, b, (⟨x3.ver, x3.seq, p.open_, p.mark⟩ : Prod))), ⟨by omega, ps_set e3.at_ h17 hn hj hp ho hst, (H.perm (L' := (b5, _) :: ploc bm (S1.set j (x3.pid, b, _))) (by unfold ploc; rw [pmap_set hj]; exact ((hP.cons _).cons _).trans (((List.Perm.swap _ _ _).cons _).trans (List.Perm.swap _ _ _)))).forget (List.sublist_cons_self _ _) (fun _ h => h)⟩, sl1 rfl, by repeat (first | exact Agr.refl _ _ | exact agr_ovr | refine agr_upd rfl ?_ | refine agr_updL _ rfl ?_ | refine agr_ovr2 rfl ?_), by show es.length - (k + 1) < es.length - k; omega⟩
    ·
     refine aw_nil ?_
     intro w16 hw' hF
     replace H := H.later hw'; clear hw' hF
     refine Zn<|ZF rfl<|Zk<|Zb<|Zs<|Zr<|Zl (Zf fd_Entry_4 rfl)<|Zl (Zd one_int H 1 rfl rfl rfl) ?_
     refine lwND (neq_r rfl rfl) rfl rfl rfl (fun h66 => ?_) (fun h66 => ?_)
     ·
      refine Zl (Wb rfl)<|Zn<|ZT rfl<|Zr<|Zl (Yp rfl)<|Zl (Yp rfl)<|Zl (Yi rfl)<|Zl (nck_r rfl)<|Zl (Zf fd_producer_2 rfl)<|stN H 0 ((Prod.c ⟨p.ver, p.seq, -1, p.mark⟩).toArray) siz_int rfl rfl rfl rfl rfl (by kernel_rfl) (by kernel_rfl) fun w17 H =>Zl (nck_r rfl)<|Zl (Zf fd_producer_3 rfl)<|stN H 0 ((Prod.c ⟨p.ver, p.seq, -1, k⟩).toArray) siz_int rfl rfl rfl rfl rfl (by kernel_rfl) (by kernel_rfl) fun w18 H =>Zn ?_
      refine Zr<|Zl (add_r rfl rfl (by omega) (by omega))<|Zl (Yi rfl)<|Zn ?_
      have hst : (⟨p.ver, p.seq, -1, k⟩ : Prod) = stepP k x3 p := by
       simp [stepP, pv, h36, h66]
      have hP := in_perm (q' := (x3.pid, b, (⟨p.ver, p.seq, -1, k⟩ : Prod))) hj
      refine ⟨(k + 1, S1.set j (x3.pid, b, (⟨p.ver, p.seq, -1, k⟩ : Prod))), ⟨by omega, ps_set e3.at_ h17 hn hj hp ho hst, (H.perm (L' := (b5, _) :: ploc bm (S1.set j (x3.pid, b, _))) (by unfold ploc; rw [pmap_set hj]; exact ((hP.cons _).cons _).trans (((List.Perm.swap _ _ _).cons _).trans (List.Perm.swap _ _ _)))).forget (List.sublist_cons_self _ _) (fun _ h => h)⟩, sl1 rfl, by repeat (first | exact Agr.refl _ _ | exact agr_ovr | refine agr_upd rfl ?_ | refine agr_updL _ rfl ?_ | refine agr_ovr2 rfl ?_), by show es.length - (k + 1) < es.length - k; omega⟩
     ·
      refine Zl (Wb rfl)<|Zn<|ZF rfl<|Zs<|Zr<|Zl (Yp rfl)<|Zl (Zf fd_Entry_3 rfl)<|Zl (Zd one_int H 1 rfl rfl rfl)<|Zl (nck_r rfl)<|Zl (Zf fd_producer_1 rfl)<|stN H 0 ((Prod.c ⟨p.ver, x3.seq, p.open_, p.mark⟩).toArray) siz_int rfl rfl rfl rfl rfl (by kernel_rfl) (by kernel_rfl) fun w19 H =>Zn<|Zs<|Zr ?_
      refine Zl (Zf fd_Entry_5 rfl) ?_
      refine lwB (ld_r one_bool rfl (cellE (H.ent (i := 1) rfl) rfl)) rfl rfl rfl (fun h51 => ?_) (fun h51 => ?_)
      ·
       refine Zl (Yb rfl)<|ZG<|Zl (Yp rfl)<|ZG<|Zl (nck_r rfl)<|ZG<|Zl (Zf fd_producer_2 rfl)<|ZG<|Zl (Zd one_int H 0 rfl rfl rfl)<|ZG ?_
       refine lwD (lss_r rfl rfl) rfl rfl rfl (fun h57 => ?_) (fun h57 => ?_)
       ·
        refine Zl (Kt rfl rfl)<|Zn<|ZT rfl<|Zr<|Zl (Yp rfl)<|Zl (Yi rfl)<|Zl (nck_r rfl)<|Zl (Zf fd_producer_2 rfl)<|stN H 0 ((Prod.c ⟨p.ver, x3.seq, k, p.mark⟩).toArray) siz_int rfl rfl rfl rfl rfl (by kernel_rfl) (by kernel_rfl) fun w20 H =>Zn<|Zr<|Zl (add_r rfl rfl (by omega) (by omega))<|Zl (Yi rfl)<|Zn ?_
        replace h57 : p.open_ < 0 := h57
        have hst : (⟨p.ver, x3.seq, k, p.mark⟩ : Prod) = stepP k x3 p := by
         simp [stepP, pv, h36, h66, h51, h57]
        have hP := in_perm (q' := (x3.pid, b, (⟨p.ver, x3.seq, k, p.mark⟩ : Prod))) hj
        refine ⟨(k + 1, S1.set j (x3.pid, b, (⟨p.ver, x3.seq, k, p.mark⟩ : Prod))), ⟨by omega, ps_set e3.at_ h17 hn hj hp ho hst, (H.perm (L' := (b5, _) :: ploc bm (S1.set j (x3.pid, b, _))) (by unfold ploc; rw [pmap_set hj]; exact ((hP.cons _).cons _).trans (((List.Perm.swap _ _ _).cons _).trans (List.Perm.swap _ _ _)))).forget (List.sublist_cons_self _ _) (fun _ h => h)⟩, sl1 rfl, by repeat (first | exact Agr.refl _ _ | exact agr_ovr | refine agr_upd rfl ?_ | refine agr_updL _ rfl ?_ | refine agr_ovr2 rfl ?_), by show es.length - (k + 1) < es.length - k; omega⟩
       ·
        refine Zl (Kt rfl rfl)<|Zn<|ZF rfl<|Zk<|Zr<|Zl (add_r rfl rfl (by omega) (by omega))<|Zl (Yi rfl)<|Zn ?_
        replace h57 : ¬ p.open_ < 0 := h57
        have hst : (⟨p.ver, x3.seq, p.open_, p.mark⟩ : Prod) = stepP k x3 p := by
         simp [stepP, pv, h36, h66, h51, h57]
        have hP := in_perm (q' := (x3.pid, b, (⟨p.ver, x3.seq, p.open_, p.mark⟩ : Prod))) hj
        refine ⟨(k + 1, S1.set j (x3.pid, b, (⟨p.ver, x3.seq, p.open_, p.mark⟩ : Prod))), ⟨by omega, ps_set e3.at_ h17 hn hj hp ho hst, (H.perm (L' := (b5, _) :: ploc bm (S1.set j (x3.pid, b, _))) (by unfold ploc; rw [pmap_set hj]; exact ((hP.cons _).cons _).trans (((List.Perm.swap _ _ _).cons _).trans (List.Perm.swap _ _ _)))).forget (List.sublist_cons_self _ _) (fun _ h => h)⟩, sl1 rfl, by repeat (first | exact Agr.refl _ _ | exact agr_ovr | refine agr_upd rfl ?_ | refine agr_updL _ rfl ?_ | refine agr_ovr2 rfl ?_), by show es.length - (k + 1) < es.length - k; omega⟩
      ·
       refine Zl (Yb rfl)<|ZN<|ZN<|ZN<|ZN<|ZN<|Zl (Kf rfl rfl)<|Zn<|ZF rfl<|Zk<|Zr<|Zl (add_r rfl rfl (by omega) (by omega))<|Zl (Yi rfl)<|Zn ?_
       have hst : (⟨p.ver, x3.seq, p.open_, p.mark⟩ : Prod) = stepP k x3 p := by
        simp [stepP, pv, h36, h66, h51]
       have hP := in_perm (q' := (x3.pid, b, (⟨p.ver, x3.seq, p.open_, p.mark⟩ : Prod))) hj
       refine ⟨(k + 1, S1.set j (x3.pid, b, (⟨p.ver, x3.seq, p.open_, p.mark⟩ : Prod))), ⟨by omega, ps_set e3.at_ h17 hn hj hp ho hst, (H.perm (L' := (b5, _) :: ploc bm (S1.set j (x3.pid, b, _))) (by unfold ploc; rw [pmap_set hj]; exact ((hP.cons _).cons _).trans (((List.Perm.swap _ _ _).cons _).trans (List.Perm.swap _ _ _)))).forget (List.sublist_cons_self _ _) (fun _ h => h)⟩, sl1 rfl, by repeat (first | exact Agr.refl _ _ | exact agr_ovr | refine agr_upd rfl ?_ | refine agr_updL _ rfl ?_ | refine agr_ovr2 rfl ?_), by show es.length - (k + 1) < es.length - k; omega⟩
   ·
    refine Zl (lkS_r mp_prods z_Pproducer rfl rfl (H.ent (i := 1) rfl) (by rw [pmap_keys]; exact hS.1) (pmap_get hj))<|Zl (Wp rfl)<|Zn<|Zs ?_
    refine cw_cut (τ := List PB × Nat × Nat × Prod) [6, 22, 23, 24, 25, 26, 27, 28, 29] (fun (S1, j, b, p) => [(6, pval b)]) (fun (S1, j, b, p) w' => (S1.map (·.1)).Nodup ∧ S1[j]? = some (x3.pid, b, p) ∧ p = (prodF (es.take k) x3.pid).getD p0 ∧ (∀ pid, pid ≠ x3.pid → look S1 pid = prodF (es.take k) pid) ∧ Hp w w' ((b, .cells p.c.toArray T_producer (0, 0)) :: (b5, .cells (Ent.c x3).toArray T_Entry (0, 0)) :: (bm, mapO (pmap S1)) :: (S1.eraseIdx j).map pblk) [FRd entL 0 w.heap.size A es]) ?_ ?_
    ·
     skip
     refine Zs<|Zr<|Zl (Yp rfl)<|Zl (peqS_r ptr_Pproducer rfl)<|Zn<|ZF rfl<|Zk ?_
     refine ⟨(S, j, b, p), ⟨hS.1, hj, by rw [← hS.2, look_some hS.1 hj]; rfl, fun pid _ => hS.2 pid, H.perm ?_⟩, sl1 rfl, by repeat (first | exact Agr.refl _ _ | exact agr_ovr | refine agr_upd rfl ?_ | refine agr_updL _ rfl ?_ | refine agr_ovr2 rfl ?_)⟩
     have hP := out_perm hj
     exact ((List.Perm.swap _ _ _).trans ((List.Perm.swap _ _ _).cons _)).trans ((hP.cons _).cons _)
    rintro ⟨S1, j, b, p⟩ ρ2 w21 ⟨hn, hj, hp, ho, H⟩
    show CW _ _ _ _ (updL (ovr _ _ ρ2) [(6, pval b)]) w21
    refine Zs<|Zs ?_
       
    refine cw_draw mixed [0, 1, 2, 3, 4, 5, 6] [] [] [0, 2, 3, 4, 6] (sp []) (by kernel_rfl) (by kernel_rfl) (by kernel_rfl) (by kernel_rfl) (fun _ _ _ h => h) (sp_st _) ?_
    refine aw rfl rfl rfl rfl rfl (fun w' hw' => Zf fd_Entry_2 rfl)<|aw rfl rfl rfl rfl rfl (fun w' hw' => ld_r one_int rfl (cellE ((H.later hw').ent (i := 1) rfl) rfl))<|aw rfl rfl rfl rfl rfl (fun w' hw' => Yp rfl)<|aw rfl rfl rfl rfl rfl (fun w' hw' => nck_r rfl)<|aw rfl rfl rfl rfl rfl (fun w' hw' => Zf fd_producer_0 rfl)<|aw rfl rfl rfl rfl rfl (fun w' hw' => ld_r one_int rfl (cellE ((H.later hw').ent (i := 0) rfl) rfl)) ?_
    refine awND rfl rfl rfl rfl rfl (fun w' hw' => neq_r rfl rfl) (fun h36 => ?_) (fun h36 => ?_)
    ·
     refine aw_nil ?_
     intro w22 hw' hF
     replace H := H.later hw'; clear hw' hF
     refine Zn<|ZT rfl<|Zr<|Zl (Yp rfl)<|Zl (Yp rfl)<|Zl (Zf fd_Entry_2 rfl)<|Zl (Zd one_int H 1 rfl rfl rfl)<|Zl (nck_r rfl)<|Zl (Zf fd_producer_0 rfl)<|stN H 0 ((Prod.c ⟨x3.ver, p.seq, p.open_, p.mark⟩).toArray) siz_int rfl rfl rfl rfl rfl (by kernel_rfl) (by kernel_rfl) fun w23 H =>Zl (nck_r rfl)<|Zl (Zf fd_producer_1 rfl)<|stN H 0 ((Prod.c ⟨x3.ver, -1, p.open_, p.mark⟩).toArray) siz_int rfl rfl rfl rfl rfl (by kernel_rfl) (by kernel_rfl) fun w24 H =>Zn ?_
     refine Zb<|Zs<|Zr<|Zl (Zf fd_Entry_4 rfl)<|Zl (Zd one_int H 1 rfl rfl rfl) ?_
     refine lwND (neq_r rfl rfl) rfl rfl rfl (fun h66 => ?_) (fun h66 => ?_)
     ·
      refine Zl (Wb rfl)<|Zn<|ZT rfl<|Zr<|Zl (Yp rfl)<|Zl (Yp rfl)<|Zl (Yi rfl)<|Zl (nck_r rfl)<|Zl (Zf fd_producer_2 rfl)<|stN H 0 ((Prod.c ⟨x3.ver, -1, -1, p.mark⟩).toArray) siz_int rfl rfl rfl rfl rfl (by kernel_rfl) (by kernel_rfl) fun w25 H =>Zl (nck_r rfl)<|Zl (Zf fd_producer_3 rfl)<|stN H 0 ((Prod.c ⟨x3.ver, -1, -1, k⟩).toArray) siz_int rfl rfl rfl rfl rfl (by kernel_rfl) (by kernel_rfl) fun w26 H =>Zn ?_
      refine Zr<|Zl (add_r rfl rfl (by omega) (by omega))<|Zl (Yi rfl)<|Zn ?_
      have hst : (⟨x3.ver, -1, -1, k⟩ : Prod) = stepP k x3 p := by
       simp [stepP, pv, h36, h66]
      have hP := in_perm (q' := (x3.pid, b, (⟨x3.ver, -1, -1, k⟩ : Prod))) hj
      refine ⟨(k + 1, S1.set j (x3.pid, b, (⟨x3.ver, -1, -1, k⟩ : Prod))), ⟨by omega, ps_set e3.at_ h17 hn hj hp ho hst, (H.perm (L' := (b5, _) :: ploc bm (S1.set j (x3.pid, b, _))) (by unfold ploc; rw [pmap_set hj]; exact ((hP.cons _).cons _).trans (((List.Perm.swap _ _ _).cons _).trans (List.Perm.swap _ _ _)))).forget (List.sublist_cons_self _ _) (fun _ h => h)⟩, sl1 rfl, by repeat (first | exact Agr.refl _ _ | exact agr_ovr | refine agr_upd rfl ?_ | refine agr_updL _ rfl ?_ | refine agr_ovr2 rfl ?_), by show es.length - (k + 1) < es.length - k; omega⟩
     ·
      refine Zl (Wb rfl)<|Zn<|ZF rfl<|Zs<|Zr<|Zl (Yp rfl)<|Zl (Zf fd_Entry_3 rfl)<|Zl (Zd one_int H 1 rfl rfl rfl)<|Zl (nck_r rfl)<|Zl (Zf fd_producer_1 rfl)<|stN H 0 ((Prod.c ⟨x3.ver, x3.seq, p.open_, p.mark⟩).toArray) siz_int rfl rfl rfl rfl rfl (by kernel_rfl) (by kernel_rfl) fun w27 H =>Zn<|Zs<|Zr ?_
      refine Zl (Zf fd_Entry_5 rfl) ?_
      refine lwB (ld_r one_bool rfl (cellE (H.ent (i := 1) rfl) rfl)) rfl rfl rfl (fun h51 => ?_) (fun h51 => ?_)
      ·
       refine Zl (Yb rfl)<|ZG<|Zl (Yp rfl)<|ZG<|Zl (nck_r rfl)<|ZG<|Zl (Zf fd_producer_2 rfl)<|ZG<|Zl (Zd one_int H 0 rfl rfl rfl)<|ZG ?_
       refine lwD (lss_r rfl rfl) rfl rfl rfl (fun h57 => ?_) (fun h57 => ?_)
       ·
        refine Zl (Kt rfl rfl)<|Zn<|ZT rfl<|Zr<|Zl (Yp rfl)<|Zl (Yi rfl)<|Zl (nck_r rfl)<|Zl (Zf fd_producer_2 rfl)<|stN H 0 ((Prod.c ⟨x3.ver, x3.seq, k, p.mark⟩).toArray) siz_int rfl rfl rfl rfl rfl (by kernel_rfl) (by kernel_rfl) fun w28 H =>Zn<|Zr<|Zl (add_r rfl rfl (by omega) (by omega))<|Zl (Yi rfl)<|Zn ?_
        replace h57 : p.open_ < 0 := h57
        have hst : (⟨x3.ver, x3.seq, k, p.mark⟩ : Prod) = stepP k x3 p := by
         simp [stepP, pv, h36, h66, h51, h57]
        have hP := in_perm (q' := (x3.pid, b, (⟨x3.ver, x3.seq, k, p.mark⟩ : Prod))) hj
        refine ⟨(k + 1, S1.set j (x3.pid, b, (⟨x3.ver, x3.seq, k, p.mark⟩ : Prod))), ⟨by omega, ps_set e3.at_ h17 hn hj hp ho hst, (H.perm (L' := (b5, _) :: ploc bm (S1.set j (x3.pid, b, _))) (by unfold ploc; rw [pmap_set hj]; exact ((hP.cons _).cons _).trans (((List.Perm.swap _ _ _).cons _).trans (List.Perm.swap _ _ _)))).forget (List.sublist_cons_self _ _) (fun _ h => h)⟩, sl1 rfl, by repeat (first | exact Agr.refl _ _ | exact agr_ovr | refine agr_upd rfl ?_ | refine agr_updL _ rfl ?_ | refine agr_ovr2 rfl ?_), by show es.length - (k + 1) < es.length - k; omega⟩
       ·
        refine Zl (Kt rfl rfl)<|Zn<|ZF rfl<|Zk<|Zr<|Zl (add_r rfl rfl (by omega) (by omega))<|Zl (Yi rfl)<|Zn ?_
        replace h57 : ¬ p.open_ < 0 := h57
        have hst : (⟨x3.ver, x3.seq, p.open_, p.mark⟩ : Prod) = stepP k x3 p := by
         simp [stepP, pv, h36, h66, h51, h57]
        have hP := in_perm (q' := (x3.pid, b, (⟨x3.ver, x3.seq, p.open_, p.mark⟩ : Prod))) hj
        refine ⟨(k + 1, S1.set j (x3.pid, b, (⟨x3.ver, x3.seq, p.open_, p.mark⟩ : Prod))), ⟨by omega, ps_set e3.at_ h17 hn hj hp ho hst, (H.perm (L' := (b5, _) :: ploc bm (S1.set j (x3.pid, b, _))) (by unfold ploc; rw [pmap_set hj]; exact ((hP.cons _).cons _).trans (((List.Perm.swap _ _ _).cons _).trans (List.Perm.swap _ _ _)))).forget (List.sublist_cons_self _ _) (fun _ h => h)⟩, sl1 rfl, by repeat (first | exact Agr.refl _ _ | exact agr_ovr | refine agr_upd rfl ?_ | refine agr_updL _ rfl ?_ | refine agr_ovr2 rfl ?_), by show es.length - (k + 1) < es.length - k; omega⟩
      ·
       refine Zl (Yb rfl)<|ZN<|ZN<|ZN<|ZN<|ZN<|Zl (Kf rfl rfl)<|Zn<|ZF rfl<|Zk<|Zr<|Zl (add_r rfl rfl (by omega) (by omega))<|Zl (Yi rfl)<|Zn ?_
       have hst : (⟨x3.ver, x3.seq, p.open_, p.mark⟩ : Prod) = stepP k x3 p := by
        simp [stepP, pv, h36, h66, h51]
       have hP := in_perm (q' := (x3.pid, b, (⟨x3.ver, x3.seq, p.open_, p.mark⟩ : Prod))) hj
       refine ⟨(k + 1, S1.set j (x3.pid, b, (⟨x3.ver, x3.seq, p.open_, p.mark⟩ : Prod))), ⟨by omega, ps_set e3.at_ h17 hn hj hp ho hst, (H.perm (L' := (b5, _) :: ploc bm (S1.set j (x3.pid, b, _))) (by unfold ploc; rw [pmap_set hj]; exact ((hP.cons _).cons _).trans (((List.Perm.swap _ _ _).cons _).trans (List.Perm.swap _ _ _)))).forget (List.sublist_cons_self _ _) (fun _ h => h)⟩, sl1 rfl, by repeat (first | exact Agr.refl _ _ | exact agr_ovr | refine agr_upd rfl ?_ | refine agr_updL _ rfl ?_ | refine agr_ovr2 rfl ?_), by show es.length - (k + 1) < es.length - k; omega⟩
    ·
     refine aw_nil ?_
     intro w29 hw' hF
     replace H := H.later hw'; clear hw' hF
     refine Zn<|ZF rfl<|Zk<|Zb<|Zs<|Zr<|Zl (Zf fd_Entry_4 rfl)<|Zl (Zd one_int H 1 rfl rfl rfl) ?_
     refine lwND (neq_r rfl rfl) rfl rfl rfl (fun h66 => ?_) (fun h66 => ?_)
     ·
      refine Zl (Wb rfl)<|Zn<|ZT rfl<|Zr<|Zl (Yp rfl)<|Zl (Yp rfl)<|Zl (Yi rfl)<|Zl (nck_r rfl)<|Zl (Zf fd_producer_2 rfl)<|stN H 0 ((Prod.c ⟨p.ver, p.seq, -1, p.mark⟩).toArray) siz_int rfl rfl rfl rfl rfl (by kernel_rfl) (by kernel_rfl) fun w30 H =>Zl (nck_r rfl)<|Zl (Zf fd_producer_3 rfl)<|stN H 0 ((Prod.c ⟨p.ver, p.seq, -1, k⟩).toArray) siz_int rfl rfl rfl rfl rfl (by kernel_rfl) (by kernel_rfl) fun w31 H =>Zn ?_
      refine Zr<|Zl (add_r rfl rfl (by omega) (by omega))<|Zl (Yi rfl)<|Zn ?_
      have hst : (⟨p.ver, p.seq, -1, k⟩ : Prod) = stepP k x3 p := by
       simp [stepP, pv, h36, h66]
      have hP := in_perm (q' := (x3.pid, b, (⟨p.ver, p.seq, -1, k⟩ : Prod))) hj
      refine ⟨(k + 1, S1.set j (x3.pid, b, (⟨p.ver, p.seq, -1, k⟩ : Prod))), ⟨by omega, ps_set e3.at_ h17 hn hj hp ho hst, (H.perm (L' := (b5, _) :: ploc bm (S1.set j (x3.pid, b, _))) (by unfold ploc; rw [pmap_set hj]; exact ((hP.cons _).cons _).trans (((List.Perm.swap _ _ _).cons _).trans (List.Perm.swap _ _ _)))).forget (List.sublist_cons_self _ _) (fun _ h => h)⟩, sl1 rfl, by repeat (first | exact Agr.refl _ _ | exact agr_ovr | refine agr_upd rfl ?_ | refine agr_updL _ rfl ?_ | refine agr_ovr2 rfl ?_), by show es.length - (k + 1) < es.length - k; omega⟩
     ·
      refine Zl (Wb rfl)<|Zn<|ZF rfl<|Zs<|Zr<|Zl (Yp rfl)<|Zl (Zf fd_Entry_3 rfl)<|Zl (Zd one_int H 1 rfl rfl rfl)<|Zl (nck_r rfl)<|Zl (Zf fd_producer_1 rfl)<|stN H 0 ((Prod.c ⟨p.ver, x3.seq, p.open_, p.mark⟩).toArray) siz_int rfl rfl rfl rfl rfl (by kernel_rfl) (by kernel_rfl) fun w32 H =>Zn<|Zs<|Zr ?_
      refine Zl (Zf fd_Entry_5 rfl) ?_
      refine lwB (ld_r one_bool rfl (cellE (H.ent (i := 1) rfl) rfl)) rfl rfl rfl (fun h51 => ?_) (fun h51 => ?_)
      ·
       refine Zl (Yb rfl)<|ZG<|Zl (Yp rfl)<|ZG<|Zl (nck_r rfl)<|ZG<|Zl (Zf fd_producer_2 rfl)<|ZG<|Zl (Zd one_int H 0 rfl rfl rfl)<|ZG ?_
       refine lwD (lss_r rfl rfl) rfl rfl rfl (fun h57 => ?_) (fun h57 => ?_)
       ·
        refine Zl (Kt rfl rfl)<|Zn<|ZT rfl<|Zr<|Zl (Yp rfl)<|Zl (Yi rfl)<|Zl (nck_r rfl)<|Zl (Zf fd_producer_2 rfl)<|stN H 0 ((Prod.c ⟨p.ver, x3.seq, k, p.mark⟩).toArray) siz_int rfl rfl rfl rfl rfl (by kernel_rfl) (by kernel_rfl) fun w33 H =>Zn<|Zr<|Zl (add_r rfl rfl (by omega) (by omega))<|Zl (Yi rfl)<|Zn ?_
        replace h57 : p.open_ < 0 := h57
        have hst : (⟨p.ver, x3.seq, k, p.mark⟩ : Prod) = stepP k x3 p := by
         simp [stepP, pv, h36, h66, h51, h57]
        have hP := in_perm (q' := (x3.pid, b, (⟨p.ver, x3.seq, k, p.mark⟩ : Prod))) hj
        refine ⟨(k + 1, S1.set j (x3.pid, b, (⟨p.ver, x3.seq, k, p.mark⟩ : Prod))), ⟨by omega, ps_set e3.at_ h17 hn hj hp ho hst, (H.perm (L' := (b5, _) :: ploc bm (S1.set j (x3.pid, b, _))) (by unfold ploc; rw [pmap_set hj]; exact ((hP.cons _).cons _).trans (((List.Perm.swap _ _ _).cons _).trans (List.Perm.swap _ _ _)))).forget (List.sublist_cons_self _ _) (fun _ h => h)⟩, sl1 rfl, by repeat (first | exact Agr.refl _ _ | exact agr_ovr | refine agr_upd rfl ?_ | refine agr_updL _ rfl ?_ | refine agr_ovr2 rfl ?_), by show es.length - (k + 1) < es.length - k; omega⟩
       ·
        refine Zl (Kt rfl rfl)<|Zn<|ZF rfl<|Zk<|Zr<|Zl (add_r rfl rfl (by omega) (by omega))<|Zl (Yi rfl)<|Zn ?_
        replace h57 : ¬ p.open_ < 0 := h57
        have hst : (⟨p.ver, x3.seq, p.open_, p.mark⟩ : Prod) = stepP k x3 p := by
         simp [stepP, pv, h36, h66, h51, h57]
        have hP := in_perm (q' := (x3.pid, b, (⟨p.ver, x3.seq, p.open_, p.mark⟩ : Prod))) hj
        refine ⟨(k + 1, S1.set j (x3.pid, b, (⟨p.ver, x3.seq, p.open_, p.mark⟩ : Prod))), ⟨by omega, ps_set e3.at_ h17 hn hj hp ho hst, (H.perm (L' := (b5, _) :: ploc bm (S1.set j (x3.pid, b, _))) (by unfold ploc; rw [pmap_set hj]; exact ((hP.cons _).cons _).trans (((List.Perm.swap _ _ _).cons _).trans (List.Perm.swap _ _ _)))).forget (List.sublist_cons_self _ _) (fun _ h => h)⟩, sl1 rfl, by repeat (first | exact Agr.refl _ _ | exact agr_ovr | refine agr_upd rfl ?_ | refine agr_updL _ rfl ?_ | refine agr_ovr2 rfl ?_), by show es.length - (k + 1) < es.length - k; omega⟩
      ·
       refine Zl (Yb rfl)<|ZN<|ZN<|ZN<|ZN<|ZN<|Zl (Kf rfl rfl)<|Zn<|ZF rfl<|Zk<|Zr<|Zl (add_r rfl rfl (by omega) (by omega))<|Zl (Yi rfl)<|Zn ?_
       have hst : (⟨p.ver, x3.seq, p.open_, p.mark⟩ : Prod) = stepP k x3 p := by
        simp [stepP, pv, h36, h66, h51]
       have hP := in_perm (q' := (x3.pid, b, (⟨p.ver, x3.seq, p.open_, p.mark⟩ : Prod))) hj
       refine ⟨(k + 1, S1.set j (x3.pid, b, (⟨p.ver, x3.seq, p.open_, p.mark⟩ : Prod))), ⟨by omega, ps_set e3.at_ h17 hn hj hp ho hst, (H.perm (L' := (b5, _) :: ploc bm (S1.set j (x3.pid, b, _))) (by unfold ploc; rw [pmap_set hj]; exact ((hP.cons _).cons _).trans (((List.Perm.swap _ _ _).cons _).trans (List.Perm.swap _ _ _)))).forget (List.sublist_cons_self _ _) (fun _ h => h)⟩, sl1 rfl, by repeat (first | exact Agr.refl _ _ | exact agr_ovr | refine agr_upd rfl ?_ | refine agr_updL _ rfl ?_ | refine agr_ovr2 rfl ?_), by show es.length - (k + 1) < es.length - k; omega⟩
 ·
  refine Zn<|Zs<|ZF rfl<|Zx<|Zs<|Zr<|Zl (mvM_r rfl)<|Zl (asM_r rfl)<|Zn<|Zt ?_
  have hke : k = es.length := by omega
  subst hke
  rw [List.take_length] at hS
  exact fin1 (v := .map (some bm)) rfl rfl ⟨S, bm, rfl, hS, H.forget (List.Sublist.refl _) (by simp)⟩
end Go.Proofs.Ytemnchkebhclpaa
end

section
namespace Go.Proofs.Ytemnchkebhclpaa
open Go Go.Eng Go.RowKit
set_option linter.unusedSimpArgs false
/-- an entry of a transaction that has no end yet -/
def openAt (es : List Ent) (k : Nat) (pid : Int) : Prop := ∃ e, es[k]? = some e ∧ e.kind = 1 ∧ e.txn = true ∧ e.pid = pid ∧ pid ≠ 0 ∧ ∀ j f, k < j → es[j]? = some f → f.pid = pid → f.kind = 1
theorem openAt_snoc {es : List Ent} {x : Ent} {k : Nat} {pid : Int} : openAt (es ++ [x]) k pid ↔ (k < es.length ∧ openAt es k pid ∧ (x.pid = pid → x.kind = 1)) ∨ (k = es.length ∧ x.kind = 1 ∧ x.txn = true ∧ x.pid = pid ∧ pid ≠ 0) := by
 constructor
 ·
  rintro ⟨e, h1, h2, h3, h4, h5, h6⟩
  have hk := (List.getElem?_eq_some_iff.1 h1).1
  simp at hk
  by_cases hkl : k < es.length
  ·
   left
   rw [List.getElem?_append_left hkl] at h1
   refine ⟨hkl, ⟨e, h1, h2, h3, h4, h5, fun j f hj hf hp => h6 j f hj (by rw [List.getElem?_append_left (List.getElem?_eq_some_iff.1 hf).1]; exact hf) hp⟩, fun hp => h6 es.length x hkl (by simp) hp⟩
  ·
   right
   have : k = es.length := by omega
   subst this
   simp at h1
   subst h1
   exact ⟨rfl, h2, h3, h4, h5⟩
 ·
  rintro (⟨hk, ⟨e, h1, h2, h3, h4, h5, h6⟩, hx⟩ | ⟨rfl, h2, h3, h4, h5⟩)
  ·
   refine ⟨e, by rw [List.getElem?_append_left hk]; exact h1, h2, h3, h4, h5, fun j f hj hf hp => ?_⟩
   by_cases hjl : j < es.length
   ·
    rw [List.getElem?_append_left hjl] at hf; exact h6 j f hj hf hp
   ·
    have hj2 := (List.getElem?_eq_some_iff.1 hf).1
    simp at hj2
    have : j = es.length := by omega
    subst this
    simp at hf
    subst hf
    exact hx hp
  ·
   refine ⟨x, by simp, h2, h3, h4, h5, fun j f hj hf _ => ?_⟩
   have hj2 := (List.getElem?_eq_some_iff.1 hf).1
   simp at hj2
   omega
structure PInv (es : List Ent) (pid : Int) (p : Prod) : Prop where
 opn : p.open_ = -1 ∨ ∃ k : Nat, p.open_ = k ∧ openAt es k pid
 least : ∀ k, openAt es k pid → 0 ≤ p.open_ ∧ p.open_ ≤ k
 mark : p.mark = -1 ∨ ∃ (k : Nat) (e : Ent), p.mark = k ∧ es[k]? = some e ∧ e.pid = pid ∧ e.kind ≠ 1
 seq : p.seq = -1 ∨ ∃ e ∈ es, e.pid = pid ∧ e.kind = 1 ∧ p.seq = e.seq ∧ p.ver = e.ver
 ver : ∃ e ∈ es, e.pid = pid ∧ p.ver = e.ver
theorem pinv_step {es : List Ent} {x : Ent} {p : Prod} (h0 : x.pid ≠ 0) (h : p = p0 ∧ (∀ k, ¬ openAt es k x.pid) ∨ PInv es x.pid p) : PInv (es ++ [x]) x.pid (stepP es.length x p) := by
 have hpv : (pv x p).ver = x.ver ∧ (pv x p).open_ = p.open_ ∧ (pv x p).mark = p.mark ∧ ((pv x p).seq = -1 ∨ ((pv x p).seq = p.seq ∧ p.ver = x.ver)) := by
  unfold pv
  split
  ·
   exact ⟨rfl, rfl, rfl, .inl rfl⟩
  ·
   rename_i hv
   have hv' : x.ver = p.ver := Classical.not_not.1 hv
   exact ⟨hv'.symm, rfl, rfl, .inr ⟨rfl, hv'.symm⟩⟩
 obtain ⟨v1, v2, v3, v4⟩ := hpv
 have hxm : x ∈ es ++ [x] := by simp
 have hmark : p.mark = -1 ∨ ∃ (k : Nat) (e : Ent), p.mark = k ∧ (es ++ [x])[k]? = some e ∧ e.pid = x.pid ∧ e.kind ≠ 1 := by
  rcases h with ⟨rfl, _⟩ | h
  ·
   exact .inl rfl
  ·
   rcases h.mark with h | ⟨k, e, h1, h2, h3, h4⟩
   ·
    exact .inl h
   ·
    exact .inr ⟨k, e, h1, by rw [List.getElem?_append_left (List.getElem?_eq_some_iff.1 h2).1]; exact h2, h3, h4⟩
 have hseq : (pv x p).seq = -1 ∨ ∃ e ∈ es ++ [x], e.pid = x.pid ∧ e.kind = 1 ∧ (pv x p).seq = e.seq ∧ x.ver = e.ver := by
  rcases v4 with h1 | ⟨h1, h2⟩
  ·
   exact .inl h1
  ·
   rcases h with ⟨rfl, _⟩ | h
   ·
    exact .inl h1
   ·
    rcases h.seq with h | ⟨e, he, a1, a2, a3, a4⟩
    ·
     exact .inl (h1.trans h)
    ·
     exact .inr ⟨e, List.mem_append_left _ he, a1, a2, h1.trans a3, h2.symm.trans a4⟩
 unfold stepP
 split
 ·
  rename_i hk
  refine ⟨.inl rfl, fun k hok => ?_, .inr ⟨es.length, x, rfl, by simp, rfl, hk⟩, ?_, ⟨x, hxm, rfl, v1⟩⟩
  ·
   rcases openAt_snoc.1 hok with ⟨_, _, h⟩ | ⟨_, h, _⟩
   ·
    exact absurd (h rfl) hk
   ·
    exact absurd h hk
  ·
   rcases hseq with h | ⟨e, he, a1, a2, a3, a4⟩
   ·
    exact .inl h
   ·
    exact .inr ⟨e, he, a1, a2, a3, v1.trans a4⟩
 ·
  rename_i hk
  have hk1 : x.kind = 1 := Classical.not_not.1 hk
  have hold : ∀ k, openAt es k x.pid → openAt (es ++ [x]) k x.pid := fun k hok => openAt_snoc.2 (.inl ⟨by obtain ⟨e, h, _⟩ := hok; exact (List.getElem?_eq_some_iff.1 h).1, hok, fun _ => hk1⟩)
  split
  ·
   rename_i ht
   rw [v2] at ht
   refine ⟨.inr ⟨es.length, rfl, openAt_snoc.2 (.inr ⟨rfl, hk1, ht.1, rfl, h0⟩)⟩, fun k hok => ?_, by rw [v3]; exact hmark, .inr ⟨x, hxm, rfl, hk1, rfl, v1⟩, ⟨x, hxm, rfl, v1⟩⟩
   rcases openAt_snoc.1 hok with ⟨_, h1, _⟩ | ⟨rfl, _⟩
   ·
    rcases h with ⟨_, hn⟩ | h
    ·
     exact absurd h1 (hn k)
    ·
     have := h.least k h1; omega
   ·
    exact ⟨by simp, Int.le_refl _⟩
  ·
   rename_i ht
   rw [v2] at ht
   refine ⟨?_, fun k hok => ?_, by rw [v3]; exact hmark, .inr ⟨x, hxm, rfl, hk1, rfl, v1⟩, ⟨x, hxm, rfl, v1⟩⟩
   ·
    rw [v2]
    rcases h with ⟨rfl, _⟩ | h
    ·
     exact .inl rfl
    ·
     rcases h.opn with h | ⟨k, h1, h2⟩
     ·
      exact .inl h
     ·
      exact .inr ⟨k, h1, hold k h2⟩
   ·
    rw [v2]
    rcases openAt_snoc.1 hok with ⟨_, h1, _⟩ | ⟨rfl, _, h2, _⟩
    ·
     rcases h with ⟨_, hn⟩ | h
     ·
      exact absurd h1 (hn k)
     ·
      exact h.least k h1
    ·
     rcases h with ⟨rfl, _⟩ | h
     ·
      exact absurd ⟨h2, by decide⟩ ht
     ·
      rcases h.opn with h | ⟨k, h1, hok2⟩
      ·
       exact absurd ⟨h2, by omega⟩ ht
      ·
       obtain ⟨_, hok3, _⟩ := hok2
       have := (List.getElem?_eq_some_iff.1 hok3).1
       omega
theorem pinv_keep {es : List Ent} {x : Ent} {pid : Int} {p : Prod} (h0 : x.pid ≠ pid) (h : PInv es pid p) : PInv (es ++ [x]) pid p := by
 have hold : ∀ k, openAt (es ++ [x]) k pid ↔ openAt es k pid := fun k => by
  rw [openAt_snoc]
  constructor
  ·
   rintro (⟨_, h, _⟩ | ⟨_, _, _, h, _⟩)
   ·
    exact h
   ·
    exact absurd h h0
  ·
   intro h
   exact .inl ⟨by obtain ⟨e, h, _⟩ := h; exact (List.getElem?_eq_some_iff.1 h).1, h, fun h => absurd h h0⟩
 refine ⟨?_, fun k hk => h.least k ((hold k).1 hk), ?_, ?_, ?_⟩
 ·
  rcases h.opn with h | ⟨k, h1, h2⟩
  ·
   exact .inl h
  ·
   exact .inr ⟨k, h1, (hold k).2 h2⟩
 ·
  rcases h.mark with h | ⟨k, e, h1, h2, h3⟩
  ·
   exact .inl h
  ·
   exact .inr ⟨k, e, h1, by rw [List.getElem?_append_left (List.getElem?_eq_some_iff.1 h2).1]; exact h2, h3⟩
 ·
  rcases h.seq with h | ⟨e, he, h⟩
  ·
   exact .inl h
  ·
   exact .inr ⟨e, List.mem_append_left _ he, h⟩
 ·
  obtain ⟨e, he, h⟩ := h.ver
  exact ⟨e, List.mem_append_left _ he, h⟩
theorem prodF_inv (es : List Ent) (pid : Int) : (∀ p, prodF es pid = some p → PInv es pid p) ∧ (prodF es pid = none → ∀ e ∈ es, e.pid = pid → pid = 0) := by
 induction es using snoc_ind with
 | h0 => exact ⟨fun p h => by simp [prodF_nil] at h, fun _ e he => by cases he⟩
 | h1 es x ih =>
  obtain ⟨ih1, ih2⟩ := ih
  rw [prodF_snoc]
  by_cases hc : x.pid ≠ 0 ∧ x.pid = pid
  ·
   obtain ⟨h0, rfl⟩ := hc
   rw [if_pos ⟨h0, rfl⟩]
   refine ⟨fun p hp => ?_, fun h => by cases h⟩
   injection hp with hp
   subst hp
   cases hq : prodF es x.pid with
   | none =>
    refine pinv_step h0 (.inl ⟨rfl, fun k hok => ?_⟩)
    obtain ⟨e, h1, _, _, h4, h5, _⟩ := hok
    exact h5 (ih2 hq e (List.mem_of_getElem? h1) h4)
   | some q => exact pinv_step h0 (.inr (ih1 q hq))
  ·
   rw [if_neg hc]
   refine ⟨fun p hp => ?_, fun h e he hpe => ?_⟩
   ·
    by_cases hx : x.pid = pid
    ·
     have h0 : x.pid = 0 := Classical.byContradiction fun h => hc ⟨h, hx⟩
     obtain ⟨e, he, h1, h1v⟩ := (ih1 p hp).ver
     have h := ih1 p hp
     have hz : pid = 0 := hx ▸ h0
     have hnone : ∀ l k, ¬ openAt l k pid := fun l k ⟨_, _, _, _, _, h, _⟩ => h hz
     refine ⟨?_, fun k hk => absurd hk (hnone _ k), ?_, ?_, ?_⟩
     ·
      rcases h.opn with h | ⟨k, _, h2⟩
      ·
       exact .inl h
      ·
       exact absurd h2 (hnone _ k)
     ·
      rcases h.mark with h | ⟨k, e, h1, h2, h3⟩
      ·
       exact .inl h
      ·
       exact .inr ⟨k, e, h1, by rw [List.getElem?_append_left (List.getElem?_eq_some_iff.1 h2).1]; exact h2, h3⟩
     ·
      rcases h.seq with h | ⟨e, he, h⟩
      ·
       exact .inl h
      ·
       exact .inr ⟨e, List.mem_append_left _ he, h⟩
     ·
      exact ⟨e, List.mem_append_left _ he, h1, h1v⟩
    ·
     exact pinv_keep hx (ih1 p hp)
   ·
    rcases List.mem_append.1 he with he | he
    ·
     exact ih2 h e he hpe
    ·
     rw [List.mem_singleton.1 he] at hpe
     exact Classical.byContradiction fun h0 => hc ⟨fun h => h0 (hpe ▸ h), hpe⟩
/-- so many entries are ahead of all open transactions -/
def isStab (es : List Ent) (n : Nat) : Prop := n ≤ es.length ∧ (∀ k pid, openAt es k pid → n ≤ k) ∧ (n = es.length ∨ ∃ pid, openAt es n pid)
theorem isStab_fun {es : List Ent} {n m : Nat} (h : isStab es n) (h' : isStab es m) : n = m := by
 obtain ⟨a1, a2, a3⟩ := h
 obtain ⟨b1, b2, b3⟩ := h'
 have h1 : n ≤ m := by
  rcases b3 with h | ⟨pid, h⟩
  ·
   omega
  ·
   exact a2 _ _ h
 have h2 : m ≤ n := by
  rcases a3 with h | ⟨pid, h⟩
  ·
   omega
  ·
   exact b2 _ _ h
 omega
theorem isStab_of {es : List Ent} {S : List PB} (hS : PS S es) {out : Int} (h1 : out ≤ es.length) (h2 : ∀ q ∈ S, 0 ≤ q.2.2.open_ → out ≤ q.2.2.open_) (h3 : out = es.length ∨ ∃ q ∈ S, 0 ≤ q.2.2.open_ ∧ out = q.2.2.open_) : ∃ n : Nat, out = n ∧ isStab es n := by
 have hq : ∀ q ∈ S, PInv es q.1 q.2.2 := fun q hq => by
  obtain ⟨a, b, p⟩ := q
  obtain ⟨j, hj⟩ := List.mem_iff_getElem?.1 hq
  have := look_some hS.1 hj
  rw [hS.2] at this
  exact (prodF_inv es a).1 p this
 have h4 : ∀ k pid, openAt es k pid → out ≤ k := fun k pid hok => by
  cases hp : prodF es pid with
  | none =>
   obtain ⟨e, e1, _, _, e4, e5, _⟩ := hok
   exact absurd ((prodF_inv es pid).2 hp e (List.mem_of_getElem? e1) e4) e5
  | some p =>
   have hl := (((prodF_inv es pid).1 p hp).least k hok)
   have hlk := hS.2 pid
   rw [hp] at hlk
   unfold look at hlk
   cases hf : S.find? (fun q => decide (q.1 = pid)) with
   | none => rw [hf] at hlk; cases hlk
   | some q =>
    rw [hf] at hlk
    simp at hlk
    have hm := List.mem_of_find?_eq_some hf
    have := h2 q hm (by rw [hlk]; exact hl.1)
    rw [hlk] at this
    omega
 rcases h3 with rfl | ⟨q, hqm, q0, rfl⟩
 ·
  exact ⟨es.length, rfl, Nat.le_refl _, fun k pid h => by have := h4 k pid h; omega, .inl rfl⟩
 ·
  rcases (hq q hqm).opn with h | ⟨k, hk, hok⟩
  ·
   omega
  ·
   refine ⟨k, hk, by omega, fun j pid h => by have := h4 j pid h; omega, .inr ⟨_, hok⟩⟩
/-- the end of a transaction, if it has one behind a place: was it done? -/
def keptAt (es : List Ent) (p : Int) : Bool :=
 match es.find? (fun e => !decide (e.kind = 1) && decide (e.pid = p)) with
 | some e => decide (e.kind = 2)
 | none => false
def keptE (es : List Ent) (i : Nat) (e : Ent) : Bool := !e.txn || keptAt (es.drop (i + 1)) e.pid
theorem keptAt_cons (e : Ent) (es : List Ent) (p : Int) : keptAt (e :: es) p = if ¬ e.kind = 1 ∧ e.pid = p then decide (e.kind = 2) else keptAt es p := by
 unfold keptAt
 rw [List.find?_cons]
 by_cases h1 : e.kind = 1 <;> by_cases h2 : e.pid = p <;> simp [h1, h2]
end Go.Proofs.Ytemnchkebhclpaa
end

section
namespace Go.Proofs.Ytemnchkebhclpaa
open Go Go.Eng Go.RowKit
set_option linter.unusedSimpArgs false
theorem take_drop_step {α : Type} {l : List α} {k : Nat} {e : α} (h : l[k]? = some e) : l.drop k = e :: l.drop (k + 1) := by
 obtain ⟨hk, rfl⟩ := getE h
 exact List.drop_eq_getElem_cons hk
set_option maxHeartbeats 4000000 in
set_option maxRecDepth 10000 in
theorem kept_ok (es : List Ent) (A : Option Addr) (c i : Nat) (x : Ent) (w : World) (hr : Rd entL 0 w.heap.size A es w) (hi : es[i]? = some x) (hc : es.length ≤ c) (hb : es.length ≤ 1000000) :
  Ret Try.prog i_view_kept [.slice A es.length c, .int .i64 (i : Nat)] w fun v w2 => v = .bool (keptE es i x) ∧ Below w.heap.size w w2 := by
 refine ret_of fn_view_kept rfl rfl ?_
 have H := Hp.startRd hr
 have hil := (getE hi).1
 refine Zs<|Zr<|Zl (Wb rfl)<|Zn<|Zs<|Zs<|Zr<|Zl (Ys rfl)<|Zl (Yi rfl)<|ixF H 0 rfl sl_LEntry rfl rfl (by omega) (by omega) rfl fun b1 o1 x1 e1 => ?_
 obtain rfl : x = x1 := by have := e1.at_; rw [hi] at this; injection this
 refine Zl (Zf fd_Entry_5 rfl) ?_
 refine lwB (ld_r one_bool rfl (e1.cl 5 _ rfl)) rfl rfl rfl (fun h11 => ?_) (fun h11 => ?_)
 ·
  refine Zl (not_r rfl)<|Zn<|ZF rfl<|Zk<|Zs<|Zs<|Zr<|Zl (Ys rfl)<|Zl (Yi rfl)<|Zl (add_r rfl rfl (by omega) (by omega)) ?_
  have h15 : (i : Int) + 1 = ((i + 1 : Nat) : Int) := by omega
  rw [h15]
  refine sliLoF (k := i + 1) H 0 rfl sl_LEntry rfl rfl rfl hc (by omega) rfl fun A16 H => ?_
  generalize hds : es.drop (i + 1) = ds at H
  have hdl : es.length - (i + 1) = ds.length := by rw [← hds]; simp
  rw [hdl]
  refine Zl (lenS_r len_LEntry rfl)<|Zl (Yi rfl)<|Zn<|Zb ?_
  refine cw_loop (τ := Nat) [4, 6, 18, 19, 20, 21, 22, 23, 24, 25, 26, 27, 28, 29, 30, 31, 32, 33, 34, 35, 36, 37, 38] (fun k => [(18, .int .i64 (k : Nat))]) (fun k w' => k ≤ ds.length ∧ keptAt ds x.pid = keptAt (ds.drop k) x.pid ∧ Hp w w' [] [FRd entL 0 w.heap.size A16 ds, FRd entL 0 w.heap.size A es]) (fun k => ds.length - k) 0 ⟨by omega, rfl, H⟩ (sl1 rfl) ?_
  rintro k ρ1 w2 ⟨hk, hkp, H⟩
  show CW _ _ _ _ (updL (ovr _ _ ρ1) [(18, .int .i64 (k : Nat))]) w2
  refine Zs<|Zr ?_
  refine lwD (lss_r rfl rfl) rfl rfl rfl (fun h19 => ?_) (fun h19 => ?_)
  ·
   refine Zn<|Zs<|ZT rfl<|Zk<|Zs<|Zb<|Zs<|Zr<|ixF H 0 rfl sl_LEntry rfl rfl (by omega) (by omega) rfl fun b3 o3 x3 e3 =>Zl (ldA_r (xs := Ent.c x3) agg_Entry rfl rfl e3.cl)<|alo H z_Entry rfl fun w4 b6 H =>stW H 0 siz_Entry rfl rfl rfl rfl rfl rfl fun w5 H =>Zn<|Zs ?_
     
   refine cw_draw mixed [0, 1, 2, 3, 4, 5, 6, 7, 8, 9, 10, 11, 12] [] [] [0, 2, 3, 4, 6, 7, 8, 9, 11, 12] (sp []) (by kernel_rfl) (by kernel_rfl) (by kernel_rfl) (by kernel_rfl) (fun _ _ _ h => h) (sp_st _) ?_
   refine aw rfl rfl rfl rfl rfl (fun w' hw' => Zf fd_Entry_4 rfl)<|aw rfl rfl rfl rfl rfl (fun w' hw' => ld_r one_int rfl (cellE ((H.later hw').ent (i := 0) rfl) rfl)) ?_
   refine awND rfl rfl rfl rfl rfl (fun w' hw' => neq_r rfl rfl) (fun h24 => ?_) (fun h24 => ?_)
   ·
    refine aw rfl rfl rfl rfl rfl (fun w' hw' => Yb rfl)<|aw rfl rfl rfl rfl rfl (fun w' hw' => Zf fd_Entry_1 rfl)<|aw rfl rfl rfl rfl rfl (fun w' hw' => ld_r one_int rfl (cellE ((H.later hw').ent (i := 0) rfl) rfl))<|aw rfl rfl rfl rfl rfl (fun w' hw' => Ys rfl)<|aw rfl rfl rfl rfl rfl (fun w' hw' => Yi rfl)<|awIxF H 1 rfl rfl rfl rfl rfl sl_LEntry rfl rfl (by omega) (by omega) fun b6 o6 x6 e6 => ?_
    obtain rfl : x = x6 := by have := e6.at_; rw [hi] at this; injection this
    refine aw rfl rfl rfl rfl rfl (fun w' hw' => Zf fd_Entry_1 rfl)<|aw rfl rfl rfl rfl rfl (fun w' hw' => ld_r one_int rfl (e6.later hw' 1 _ rfl)) ?_
    refine awD rfl rfl rfl rfl rfl (fun w' hw' => eql_r rfl rfl) (fun h33 => ?_) (fun h33 => ?_)
    ·
     refine aw rfl rfl rfl rfl rfl (fun w' hw' => Kt rfl rfl)<|aw_nil ?_
     intro w7 hw' hF
     replace H := H.later hw'; clear hw' hF
     refine Zn<|ZT rfl<|Zs<|Zr<|Zl (Zf fd_Entry_4 rfl)<|Zl (Zd one_int H 0 rfl rfl rfl)<|Zl (eql_r rfl rfl)<|Zl (Wb rfl)<|Zn<|Zt ?_
     have hdk := take_drop_step e3.at_
     have hx : keptE es i x = decide (x3.kind = 2) := by
      unfold keptE; rw [h11, hds, hkp, hdk, keptAt_cons, if_pos ⟨h24, h33⟩]; rfl
     exact fin1 (v := .bool (decide (x3.kind = 2))) rfl rfl ⟨by rw [hx], H.below⟩
    ·
     refine aw rfl rfl rfl rfl rfl (fun w' hw' => Kt rfl rfl)<|aw_nil ?_
     intro w8 hw' hF
     replace H := H.later hw'; clear hw' hF
     refine Zn<|ZF rfl<|Zk<|Zr<|Zl (add_r rfl rfl (by omega) (by omega))<|Zl (Yi rfl)<|Zn ?_
     have hdk := take_drop_step e3.at_
     rw [hdk, keptAt_cons] at hkp
     rw [if_neg (by rintro ⟨a, b⟩; first | exact a h24 | exact h33 b)] at hkp
     refine ⟨k + 1, ⟨by omega, hkp, H.forget (by simp) (fun _ h => h)⟩, sl1 rfl, by repeat (first | exact Agr.refl _ _ | exact agr_ovr | refine agr_upd rfl ?_ | refine agr_updL _ rfl ?_ | refine agr_ovr2 rfl ?_), by show ds.length - (k + 1) < ds.length - k; omega⟩
   ·
    refine aw rfl rfl rfl rfl rfl (fun w' hw' => Yb rfl)<|awN rfl rfl rfl rfl<|awN rfl rfl rfl rfl<|awN rfl rfl rfl rfl<|awN rfl rfl rfl rfl<|awN rfl rfl rfl rfl<|awN rfl rfl rfl rfl<|awN rfl rfl rfl rfl<|awN rfl rfl rfl rfl<|aw rfl rfl rfl rfl rfl (fun w' hw' => Kf rfl rfl)<|aw_nil ?_
    intro w9 hw' hF
    replace H := H.later hw'; clear hw' hF
    refine Zn<|ZF rfl<|Zk<|Zr<|Zl (add_r rfl rfl (by omega) (by omega))<|Zl (Yi rfl)<|Zn ?_
    have hdk := take_drop_step e3.at_
    rw [hdk, keptAt_cons] at hkp
    rw [if_neg (by rintro ⟨a, b⟩; first | exact a h24 | exact h33 b)] at hkp
    refine ⟨k + 1, ⟨by omega, hkp, H.forget (by simp) (fun _ h => h)⟩, sl1 rfl, by repeat (first | exact Agr.refl _ _ | exact agr_ovr | refine agr_upd rfl ?_ | refine agr_updL _ rfl ?_ | refine agr_ovr2 rfl ?_), by show ds.length - (k + 1) < ds.length - k; omega⟩
  ·
   refine Zn<|Zs<|ZF rfl<|Zx<|Zs<|Zr<|Zl (Wb rfl)<|Zn<|Zt ?_
   have hx : keptE es i x = false := by
    unfold keptE; rw [h11, hds, hkp, List.drop_of_length_le (by omega)]; rfl
   exact fin1 (v := .bool false) rfl rfl ⟨by rw [hx], H.below⟩
 ·
  refine Zl (not_r rfl)<|Zn<|ZT rfl<|Zs<|Zr<|Zl (Wb rfl)<|Zn<|Zt ?_
  have hx : keptE es i x = true := by simp [keptE, h11]
  exact fin1 (v := .bool true) rfl rfl ⟨by rw [hx], H.below⟩
end Go.Proofs.Ytemnchkebhclpaa
end

section
namespace Go.Proofs.Ytemnchkebhclpaa
open Go Go.Eng Go.RowKit
set_option linter.unusedSimpArgs false
theorem pmap_inv {S : List PB} {m : Nat} {k : Int} {v : Value} (h : (pmap S)[m]? = some (k, v)) : ∃ (b : Nat) (p : Prod), S[m]? = some (k, b, p) ∧ v = pval b := by
 unfold pmap at h
 rw [List.getElem?_map] at h
 cases hs : S[m]? with
 | none => rw [hs] at h; cases h
 | some q =>
  rw [hs] at h
  obtain ⟨a, b, p⟩ := q
  simp at h
  exact ⟨b, p, by rw [h.1], h.2.symm⟩
def unseen (n : Nat) (seen : Array Nat) : Nat := ((List.range n).filter fun m => !seen.contains m).length
theorem unseen_lt {n m : Nat} {seen : Array Nat} (hm : m < n) (hs : seen.contains m = false) : unseen n (seen.push m) < unseen n seen := by
 unfold unseen
 refine filter_lt _ _ (fun x hx => ?_) m (by rw [hs]; rfl) (by simp) _ (List.mem_range.2 hm)
 simp at hx ⊢
 exact hx.1
set_option maxHeartbeats 4000000 in
set_option maxRecDepth 10000 in
theorem stable_bad (es : List Ent) (A : Option Addr) (c : Nat) (high : Int) (w : World) (hh : high < 0 ∨ (es.length : Int) < high) :
  Ret Try.prog i_view_Stable [.slice A es.length c, .int .i64 high] w fun v w2 => v = .tuple #[.int .i64 0, .int .i64 2] ∧ Below w.heap.size w w2 := by
 refine ret_of fn_view_Stable rfl rfl ?_
 have H := Hp.start w
 refine Zs<|Zr<|Zl (Wi rfl)<|Zl (Wi rfl)<|Zn<|Zs<|Zs<|Zr<|Zl (Yi rfl) ?_
 refine lwD (lss_r rfl rfl) rfl rfl rfl (fun h10 => ?_) (fun h10 => ?_)
 ·
  refine Zl (Yb rfl)<|ZN<|ZN<|ZN<|ZN<|Zl (Kt rfl rfl)<|Zn<|ZT rfl<|Zs<|Zr<|Zl (Wi rfl)<|Zl (Wi rfl)<|Zn<|Zt ?_
  exact fin2 rfl rfl rfl ⟨rfl, H.below⟩
 ·
  refine Zl (Yb rfl)<|ZG<|Zl (Yi rfl)<|ZG<|Zl (Ys rfl)<|ZG<|Zl (lenS_r len_LEntry rfl)<|ZG ?_
  refine lwD (gtr_r rfl rfl) rfl rfl rfl (fun h15 => ?_) (fun h15 => ?_)
  ·
   refine Zl (Kf rfl rfl)<|Zn<|ZT rfl<|Zs<|Zr<|Zl (Wi rfl)<|Zl (Wi rfl)<|Zn<|Zt ?_
   exact fin2 rfl rfl rfl ⟨rfl, H.below⟩
  ·
   exfalso; omega
set_option maxHeartbeats 4000000 in
set_option maxRecDepth 10000 in
theorem stable_ok (es : List Ent) (A : Option Addr) (c n : Nat) (w : World) (hr : Rd entL 0 w.heap.size A es w) (hc : es.length ≤ c) (hb : es.length ≤ 1000000) (hn : n ≤ es.length) :
  Ret Try.prog i_view_Stable [.slice A es.length c, .int .i64 (n : Nat)] w fun v w2 => ∃ m : Nat, isStab (es.take n) m ∧ v = .tuple #[.int .i64 (m : Nat), .int .i64 0] ∧ Below w.heap.size w w2 := by
 refine ret_of fn_view_Stable rfl rfl ?_
 have H := Hp.startRd hr
 refine Zs<|Zr<|Zl (Wi rfl)<|Zl (Wi rfl)<|Zn<|Zs<|Zs<|Zr<|Zl (Yi rfl)<|Zl (lssF_r rfl rfl (by omega))<|Zl (Yb rfl)<|ZG<|Zl (Yi rfl)<|ZG ?_
 refine Zl (Ys rfl)<|ZG<|Zl (lenS_r len_LEntry rfl)<|ZG<|Zl (gtrF_r rfl rfl (by omega))<|Zl (Kf rfl rfl)<|Zn<|ZF rfl<|Zk<|Zs<|Zr<|Zl (Yi rfl)<|Zl (Wi rfl)<|Zn ?_
 refine Zs<|Zs<|Zr<|Zl (Ys rfl)<|Zl (Yi rfl)<|sliHiF (k := n) H 0 rfl sl_LEntry rfl rfl hc (by omega) rfl fun A20 H => ?_
 obtain ⟨ds, hds⟩ : ∃ ds, es.take n = ds := ⟨_, rfl⟩
 have hdl : n = ds.length := by rw [← hds]; simp; omega
 rw [hds] at H ⊢
 subst hdl
 refine cal cb_view_replay (replay_ok ds _ _ _ (H.rd0 0 rfl) (by omega)) rfl rfl ?_
 rintro _ w1 ⟨S, bm, rfl, hS, hj⟩; replace H := H.join hj; clear hj
 refine rng H 0 mp_prods rfl rfl rfl fun w2 it H =>Zn<|Zb ?_
 refine cw_loop (τ := Array Nat × Int) [6, 8, 23, 24, 25, 26, 27, 28, 29, 30, 31, 32, 33, 34, 35, 36, 37] (fun (seen, out) => [(6, .int .i64 out)]) (fun (seen, out) w' => out ≤ ds.length ∧ (∀ m q, S[m]? = some q → seen.contains m = true → 0 ≤ q.2.2.open_ → out ≤ q.2.2.open_) ∧ (out = ds.length ∨ ∃ q ∈ S, 0 ≤ q.2.2.open_ ∧ out = q.2.2.open_) ∧ Hp w w' ((it, .mapIter (some bm) (pmap S).length seen (pmap S).length) :: (ploc bm S ++ [])) [FRd entL 0 w.heap.size A20 ds, FRd entL 0 w.heap.size A es]) (fun (seen, _) => unseen S.length seen) (#[], (ds.length : Int)) ⟨by omega, by simp, .inl rfl, H⟩ (sl1 rfl) ?_
 rintro ⟨seen, out⟩ ρ1 w3 ⟨ho1, ho2, ho3, H⟩
 show CW _ _ _ _ (updL (ovr _ _ ρ1) [(6, .int .i64 out)]) w3
 refine Zs<|Zr ?_
 refine nxt H 0 1 rfl rfl rfl rfl ?_ ?_
 ·
  intro hall
  refine Zl (Xb rfl rfl)<|Zn<|Zs<|ZF rfl<|Zx<|Zs<|Zr<|Zl (Yi rfl)<|Zl (Wi rfl)<|Zl (Wi rfl)<|Zn<|Zt ?_
  have hpl : (pmap S).length = S.length := by simp [pmap]
  obtain ⟨m, rfl, hst⟩ := isStab_of hS ho1 (fun q hq h0 => by obtain ⟨m, hm⟩ := List.mem_iff_getElem?.1 hq; exact ho2 m q hm (hall m (by rw [hpl]; exact (getE hm).1)) h0) ho3
  exact fin2 rfl rfl rfl ⟨m, by first | exact hst | (rw [hds]; exact hst), rfl, H.below⟩
 ·
  intro m k v w4 hm hsn H
  obtain ⟨b, p, hmS, rfl⟩ := pmap_inv hm
  have hbk := H.ent (i := m + 2) (b := b) (o := .cells p.c.toArray T_producer (0, 0)) (by simp [ploc, pblk, hmS])
  have hml := (getE hmS).1
  refine Zl (Xb rfl rfl)<|Zn<|Zs<|ZT rfl<|Zk<|Zb<|Zs<|Zr<|Zl (ent_r rfl (H.ent (i := 0) rfl) (H.ent (i := 1) rfl) hm)<|Zl (exP_r rfl rfl)<|Zl (Wp rfl)<|Zn<|Zs<|Zr ?_
  refine Zl (Yp rfl)<|Zl (nck_r rfl)<|Zl (Zf fd_producer_2 rfl)<|Zl (ld_r one_int rfl (cellE hbk rfl)) ?_
  refine lwD (geq_r rfl rfl) rfl rfl rfl (fun h31 => ?_) (fun h31 => ?_)
  ·
   refine Zn<|ZT rfl<|Zr<|Zl (Yi rfl)<|Zl (Yp rfl)<|Zl (nck_r rfl)<|Zl (Zf fd_producer_2 rfl)<|Zl (ld_r one_int rfl (cellE hbk rfl))<|Zl (minI_r rfl rfl)<|Zl (Wi rfl)<|Zn ?_
   refine ⟨(seen.push m, min out p.open_), ⟨by omega, fun m2 q hq hs h0 => ?_, ?_, H⟩, sl1 rfl, by repeat (first | exact Agr.refl _ _ | exact agr_ovr | refine agr_upd rfl ?_ | refine agr_updL _ rfl ?_ | refine agr_ovr2 rfl ?_), unseen_lt hml hsn⟩
   ·
    rw [Array.contains_push] at hs
    rcases Bool.or_eq_true_iff.1 hs with hs | hs
    ·
     have := ho2 m2 q hq hs h0; omega
    ·
     have hmm : m2 = m := by simpa using hs
     subst hmm; rw [hmS] at hq; injection hq with hq; subst hq; try dsimp only at h0 ⊢
     omega
   ·
    by_cases hmin : out ≤ p.open_
    ·
     rw [Int.min_eq_left hmin]; exact ho3
    ·
     exact .inr ⟨_, List.mem_of_getElem? hmS, h31, by dsimp only; omega⟩
  ·
   refine Zn<|ZF rfl<|Zk ?_
   refine ⟨(seen.push m, out), ⟨by omega, fun m2 q hq hs h0 => ?_, ?_, H⟩, sl1 rfl, by repeat (first | exact Agr.refl _ _ | exact agr_ovr | refine agr_upd rfl ?_ | refine agr_updL _ rfl ?_ | refine agr_ovr2 rfl ?_), unseen_lt hml hsn⟩
   ·
    rw [Array.contains_push] at hs
    rcases Bool.or_eq_true_iff.1 hs with hs | hs
    ·
     have := ho2 m2 q hq hs h0; omega
    ·
     have hmm : m2 = m := by simpa using hs
     subst hmm; rw [hmS] at hq; injection hq with hq; subst hq; try dsimp only at h0 ⊢
     exfalso; exact h31 h0
   ·
    exact ho3
end Go.Proofs.Ytemnchkebhclpaa
end
