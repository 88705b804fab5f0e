/- GK: a part of the proofs over this seat: what stands in its theorems holds for every input that they name. -/
import Derived.Test.YtemnchkebhclpaaGJ
section
namespace Go.Proofs.Ytemnchkebhclpaa
open Go Go.Eng Go.RowKit
set_option linter.unusedSimpArgs false
/-- so many entries are alike, by the times of their leaders -/
def matchN : List Ent → List Ent → Nat
 | a :: l, b :: m => if a.epoch = b.epoch then matchN l m + 1 else 0
 | _, _ => 0
theorem matchN_le : ∀ (a b : List Ent), matchN a b ≤ a.length ∧ matchN a b ≤ b.length
 | [], _ => by simp [matchN]
 | _ :: _, [] => by simp [matchN]
 | a :: l, b :: m => by
  have := matchN_le l m
  unfold matchN
  split
  ·
   simp; omega
  ·
   simp
theorem matchN_step {a b : List Ent} {n : Nat} {x y : Ent} (hx : a[n]? = some x) (hy : b[n]? = some y) (h : x.epoch = y.epoch) : matchN (a.drop n) (b.drop n) = matchN (a.drop (n + 1)) (b.drop (n + 1)) + 1 := by
 rw [take_drop_step hx, take_drop_step hy]
 exact if_pos h
theorem matchN_stop {a b : List Ent} {n : Nat} {x y : Ent} (hx : a[n]? = some x) (hy : b[n]? = some y) (h : ¬ x.epoch = y.epoch) : matchN (a.drop n) (b.drop n) = 0 := by
 rw [take_drop_step hx, take_drop_step hy]
 exact if_neg h
theorem matchN_end {a b : List Ent} {n : Nat} (h : a.length ≤ n ∨ b.length ≤ n) : matchN (a.drop n) (b.drop n) = 0 := by
 rcases h with h | h
 ·
  rw [List.drop_of_length_le h]; rfl
 ·
  rw [List.drop_of_length_le (l := b) h]; cases (a.drop n) <;> rfl
/-- what a replica has behind a fetch: what is not as with the leader is cut, and one entry comes -/
def fetched (x y : RA) (hl : Int) : RA × Int := match y.es[matchN x.es y.es]? with
 | some z => (⟨x.up, x.es.take (matchN x.es y.es) ++ [z], min x.s (matchN x.es y.es), min (max x.high hl) ((matchN x.es y.es : Nat) + 1)⟩, 1)
 | none => (⟨x.up, x.es.take (matchN x.es y.es), min x.s (matchN x.es y.es), min (max x.high hl) (matchN x.es y.es : Nat)⟩, 0)
/-- P4.6: a replica fetches -/
def fetchA (p : PaA) (r : Nat) : PaA × Int × Int := match p.reps[r]? with
 | none => (zPaA, 0, 5)
 | some x => if p.leader < 0 ∨ p.leader = r then (zPaA, 0, 8) else if x.up = false then (zPaA, 0, 7) else match p.reps[p.leader.toNat]? with
  | none => (zPaA, 0, 12)
  | some y => let kn := p.known.set r (min x.s (matchN x.es y.es) : Nat)
   let hl := max y.high (min (leastA p.isr kn 400) y.es.length)
   ({ p with known := kn, reps := (p.reps.set p.leader.toNat { y with high := hl }).set r (fetched x y hl).1 }, (fetched x y hl).2, 0)
theorem fetchA_at {p : PaA} {r l : Nat} {x y : RA} (hx : p.reps[r]? = some x) (hl : p.leader = l) (hne : r ≠ l) (hu : x.up = true) (hy : p.reps[l]? = some y) : fetchA p r = ({ p with known := p.known.set r (min x.s (matchN x.es y.es) : Nat), reps := (p.reps.set l { y with high := max y.high (min (leastA p.isr (p.known.set r (min x.s (matchN x.es y.es) : Nat)) 400) y.es.length) }).set r (fetched x y (max y.high (min (leastA p.isr (p.known.set r (min x.s (matchN x.es y.es) : Nat)) 400) y.es.length))).1 }, (fetched x y (max y.high (min (leastA p.isr (p.known.set r (min x.s (matchN x.es y.es) : Nat)) 400) y.es.length))).2, 0) := by
 have h1 : p.leader.toNat = l := by omega
 unfold fetchA
 rw [hx]; dsimp only
 rw [if_neg (by omega), if_neg (by simp [hu]), h1, hy]
theorem segCut_row (l : LogR) (n : Nat) (w : World) (h : l.ok w) (hn : n ≤ l.es.length) : Ret Try.prog i_seg_Cut [.agg l.c.toArray, .int .i64 (n : Nat)] w fun v w2 => ∃ A' c', v = .tuple #[.agg #[.slice A' (flat (l.es.take n)).length c', .int .i64 (lsz (l.es.take n) (min l.s n) : Nat)], .int .i64 0] ∧ (flat (l.es.take n)).length ≤ c' ∧ Rd byteL w.heap.size w2.heap.size A' (flat (l.es.take n)) w2 ∧ Below w.heap.size w w2 :=
 (segCut_ok l n w h hn).mono fun _ _ ⟨A', c', h1, h2, h3⟩ => ⟨A', c', h1, h2.2.1, h2.2.2, h3⟩
set_option maxHeartbeats 4000000 in
set_option maxRecDepth 10000 in
theorem pFetch_ok (p : Pa) (r : Nat) (w : World) (h : p.rd 0 w.heap.size w) (hok : p.a.ok) (hr : r < p.reps.length) : Ret Try.prog i_part_Fetch [p.v, .int .i64 (r : Nat)] w fun v w2 => ∃ p' : Pa, v = .tuple #[p'.v, .int .i64 (fetchA p.a r).2.1, .int .i64 (fetchA p.a r).2.2] ∧ p'.a = (fetchA p.a r).1 ∧ NewPa w w2 p' := by
 refine ret_of fn_part_Fetch rfl rfl ?_
 obtain ⟨hn1, hn2, hil, hkl, hf1, hf2, he0, he1, hl0, hl1, hb0, hb1, hsm⟩ := Pa.facts hok
 have hkn := hok.known
 have hiC := h.iC
 have hkC := h.kC
 have hrC := h.rC
 have hfew := h.few
 have H := Hp.startPa h
 obtain ⟨ep, ld, isr, iA, iC, kn, kA, kC, reps, rA, rC, fw, bs⟩ := p
 simp only [Pa.a] at hkn
 dsimp only at H hn1 hn2 hil hkl hf1 hf2 he0 he1 hl0 hl1 hb0 hb1 hsm hiC hkC hrC hfew
 dsimp only at hr
 show CW _ _ _ _ (args [.agg #[.int .i64 (ep), .int .i64 (ld), .slice iA isr.length iC, .slice kA kn.length kC, .slice rA reps.length rC, .int .i64 (fw), .int .i64 (bs)], .int .i64 (((r : Nat) : Int))]) w
 refine cw_seq ?_
 refine cw_region ?_
 refine bxA H rfl rfl ?_; intro w1 b2 H
 refine alo H z_Part rfl ?_; intro w2 b4 H
 refine l1 (asI_r rfl) rfl rfl rfl ?_
 refine l1 (asI_r rfl) rfl rfl rfl ?_
 refine lw_nil ?_
 refine cw_seq ?_
 refine cw_region ?_
 refine l1 (ldW_r agg_Part rfl (H.ent (i := 1) rfl) rfl) rfl rfl rfl ?_
 refine l1 (mvI_r rfl) rfl rfl rfl ?_
 refine cal cb_part_at (pAt_ok ⟨ep, ld, isr, iA, iC, kn, kA, kC, reps, rA, rC, fw, bs⟩ r _ (Hp.pa H 0 rfl) hok hr) rfl rfl ?_
 rintro _ w3 ⟨⟨ep2, ld2, is2, iA2, c1, kn2, kA2, c2, rs, rA2, c3, fw2, bs2⟩, g1, g2, g3, u1, u2, u3, rfl, ha2, ho⟩
 simp only [Pa.a, PaA.mk.injEq] at ha2
 obtain ⟨e1, e2, e3, e4, hma, e6, e7⟩ := ha2
 obtain rfl : ep = ep2 := e1.symm
 obtain rfl : ld = ld2 := e2.symm
 obtain rfl : isr = is2 := e3.symm
 obtain rfl : kn = kn2 := e4.symm
 obtain rfl : fw = fw2 := e6.symm
 obtain rfl : bs = bs2 := e7.symm
 have hrl : rs.length = reps.length := by have := congrArg List.length hma; simpa using this
 obtain ⟨i1, i2, i3, row1, row2, row3, hcp, hlos, -, hjn⟩ := ho
 dsimp only at i1 i2 i3 row1 row2 row3 hcp hlos hjn
 subst i1; subst i2; subst i3
 have hlo0 := H.size
 replace H := H.joinF hjn (by intro f hf; obtain ⟨r, hr, rfl⟩ := List.mem_map.1 hf; exact hlos r hr)
 replace hlos : ∀ r ∈ rs, w.heap.size ≤ r.lo := fun r hr => Nat.le_trans hlo0 (hlos r hr)
 clear hjn
 have hlg := Logs.of (F := [FPa 0 w.heap.size ⟨ep, ld, isr, iA, iC, kn, kA, kC, reps, rA, rC, fw, bs⟩, FRd boolL 0 w.heap.size iA isr, FRd intL 0 w.heap.size kA kn, FRd repL 0 w.heap.size rA reps]) hcp hlos
 have hok2 : ∀ {i : Nat} {x : Rep}, rs[i]? = some x → GL x.es x.s ∧ 0 ≤ x.high ∧ x.high ≤ x.es.length := fun hx => ok_of hma hok hx
 obtain ⟨x, hx⟩ : ∃ x, rs[r]? = some x := ⟨_, List.getElem?_eq_getElem (by omega)⟩
 have hxa := mapa hma hx
 refine l1 (mvU_r rfl) rfl rfl rfl ?_
 refine l1 (exA_r rfl rfl) rfl rfl rfl ?_
 refine l1 (exI_r rfl rfl) rfl rfl rfl ?_
 refine stN H 4 (#[.int .i64 (ep), .int .i64 (ld), .slice (some ⟨g1, 0, none⟩) isr.length c1, .slice (some ⟨g2, 0, none⟩) kn.length c2, .slice (some ⟨g3, 0, none⟩) rs.length c3, .int .i64 (fw), .int .i64 (bs)]) siz_Part rfl rfl rfl rfl rfl (by kernel_rfl) (by kernel_rfl) ?_; intro w4 H
 refine l1 (asI_r rfl) rfl rfl rfl ?_
 refine lw_nil ?_
 refine cw_seq ?_
 refine cw_seq ?_
 refine cw_region ?_
 refine l1 (mvI_r rfl) rfl rfl rfl ?_
 refine l1 (neqF_r rfl rfl rfl) rfl rfl rfl ?_
 refine lw_nil ?_
 refine cw_false rfl ?_
 refine cw_skip ?_
 refine cw_seq ?_
 refine cw_seq ?_
 refine cw_region ?_
 refine l1 (fad_r fd_Part_1 rfl) rfl rfl rfl ?_
 refine l1 (ld_r one_int rfl (cellE (H.ent (i := 4) rfl) rfl)) rfl rfl rfl ?_
 refine lwD (lss_r rfl rfl) rfl rfl rfl (fun h31 => ?_) (fun h31 => ?_)
 ·
  refine l1 (mvB_r rfl) rfl rfl rfl ?_
  refine lwN rfl rfl rfl ?_
  refine lwN rfl rfl rfl ?_
  refine lwN rfl rfl rfl ?_
  refine lwN rfl rfl rfl ?_
  refine l1 (pkTB_r rfl rfl) rfl rfl rfl ?_
  refine lw_nil ?_
  refine cw_true rfl ?_
  refine cw_seq ?_
  refine cw_region ?_
  refine l1 (bld_r (cs := #[.int .i64 (0), .int .i64 (0), .slice none 0 0, .slice none 0 0, .slice none 0 0, .int .i64 (0), .int .i64 (0)]) st_Part z_Part (by kernel_rfl)) rfl rfl rfl ?_
  refine stN H 3 (#[.int .i64 (0), .int .i64 (0), .slice none 0 0, .slice none 0 0, .slice none 0 0, .int .i64 (0), .int .i64 (0)]) siz_Part rfl rfl rfl rfl rfl (by kernel_rfl) (by kernel_rfl) ?_; intro w5 H
  refine l1 (asI_r rfl) rfl rfl rfl ?_
  refine l1 (asI_r rfl) rfl rfl rfl ?_
  refine lw_nil ?_
  refine cw_ret ?_
  have hS : fetchA (Pa.a ⟨ep, ld, isr, iA, iC, kn, kA, kC, reps, rA, rC, fw, bs⟩) r = (zPaA, 0, 8) := by simp [fetchA, Pa.a, hxa, Rep.a, show ld < 0 ∨ ld = (r : Int) by omega]
  rw [hS]
  exact finCTT (cs0 := #[.int .i64 0, .int .i64 0, .slice none 0 0, .slice none 0 0, .slice none 0 0, .int .i64 0, .int .i64 0]) (v1 := .int .i64 0) (v2 := .int .i64 8) rfl agg_Part rfl (H.ent (i := 3) rfl) rfl rfl rfl ⟨zPa, rfl, rfl, NewPa.zero H.below⟩
 ·
  refine l1 (mvB_r rfl) rfl rfl rfl ?_
  refine lwG rfl ?_
  refine l1 (fad_r fd_Part_1 rfl) rfl rfl rfl ?_
  refine lwG rfl ?_
  refine l1 (ld_r one_int rfl (cellE (H.ent (i := 4) rfl) rfl)) rfl rfl rfl ?_
  refine lwG rfl ?_
  refine l1 (mvI_r rfl) rfl rfl rfl ?_
  refine lwG rfl ?_
  refine lwD (eql_r rfl rfl) rfl rfl rfl (fun h36 => ?_) (fun h36 => ?_)
  ·
   refine l1 (pkFB_r rfl rfl) rfl rfl rfl ?_
   refine lw_nil ?_
   refine cw_true rfl ?_
   refine cw_seq ?_
   refine cw_region ?_
   refine l1 (bld_r (cs := #[.int .i64 (0), .int .i64 (0), .slice none 0 0, .slice none 0 0, .slice none 0 0, .int .i64 (0), .int .i64 (0)]) st_Part z_Part (by kernel_rfl)) rfl rfl rfl ?_
   refine stN H 3 (#[.int .i64 (0), .int .i64 (0), .slice none 0 0, .slice none 0 0, .slice none 0 0, .int .i64 (0), .int .i64 (0)]) siz_Part rfl rfl rfl rfl rfl (by kernel_rfl) (by kernel_rfl) ?_; intro w6 H
   refine l1 (asI_r rfl) rfl rfl rfl ?_
   refine l1 (asI_r rfl) rfl rfl rfl ?_
   refine lw_nil ?_
   refine cw_ret ?_
   have hS : fetchA (Pa.a ⟨ep, ld, isr, iA, iC, kn, kA, kC, reps, rA, rC, fw, bs⟩) r = (zPaA, 0, 8) := by simp [fetchA, Pa.a, hxa, Rep.a, show ld < 0 ∨ ld = (r : Int) by omega]
   rw [hS]
   exact finCTT (cs0 := #[.int .i64 0, .int .i64 0, .slice none 0 0, .slice none 0 0, .slice none 0 0, .int .i64 0, .int .i64 0]) (v1 := .int .i64 0) (v2 := .int .i64 8) rfl agg_Part rfl (H.ent (i := 3) rfl) rfl rfl rfl ⟨zPa, rfl, rfl, NewPa.zero H.below⟩
  ·
   refine l1 (pkFB_r rfl rfl) rfl rfl rfl ?_
   refine lw_nil ?_
   refine cw_false rfl ?_
   refine cw_skip ?_
   refine cw_seq ?_
   obtain ⟨l, hld⟩ : ∃ l : Nat, ld = l := ⟨ld.toNat, by omega⟩
   have hrl1 : r ≠ l := by omega
   have hrl2 := hrl1
   obtain ⟨y, hy⟩ : ∃ y, rs[l]? = some y := ⟨_, List.getElem?_eq_getElem (by omega)⟩
   refine cw_region ?_
   refine l1 (fad_r fd_Part_4 rfl) rfl rfl rfl ?_
   refine l1 (ld_r one_LReplica rfl (cellE (H.ent (i := 4) rfl) rfl)) rfl rfl rfl ?_
   refine l1 (mvI_r rfl) rfl rfl rfl ?_
   refine l1 (ixR_r sl_LReplica rfl rfl (by first | omega | (simp only [List.length_set]; omega))) rfl rfl rfl ?_
   refine l1 (asP_r rfl) rfl rfl rfl ?_
   refine lw_nil ?_
   refine cw_seq ?_
   refine cw_seq ?_
   refine cw_region ?_
   refine l1 (mvP_r rfl) rfl rfl rfl ?_
   refine l1 (nck_r rfl) rfl rfl rfl ?_
   refine l1 (fad_r fd_Replica_0 rfl) rfl rfl rfl ?_
   refine lwB (ldR_r one_bool row3 hx 0 rfl (H.ent (i := 2) rfl) rfl) rfl rfl rfl (fun h46 => ?_) (fun h46 => ?_)
   ·
    refine l1 (not_r rfl) rfl rfl rfl ?_
    refine lw_nil ?_
    refine cw_false rfl ?_
    refine cw_skip ?_
    refine cw_seq ?_
    refine cw_region ?_
    refine l1 (fad_r fd_Part_4 rfl) rfl rfl rfl ?_
    refine l1 (ld_r one_LReplica rfl (cellE (H.ent (i := 4) rfl) rfl)) rfl rfl rfl ?_
    refine l1 (fad_r fd_Part_1 rfl) rfl rfl rfl ?_
    refine l1 (ld_r one_int rfl (cellE (H.ent (i := 4) rfl) rfl)) rfl rfl rfl ?_
    refine l1 (ixR_r (k := l) sl_LReplica rfl (congrArg (Value.int .i64) hld) (by first | omega | (simp only [List.length_set]; omega))) rfl rfl rfl ?_
    refine l1 (fad_r fd_Replica_1 rfl) rfl rfl rfl ?_
    refine l1 (ldRS_r 1 [.slice y.A ((flat y.es).length) y.cap, .int .i64 (((lsz y.es y.s : Nat) : Int))] agg_Log row3 hy rfl rfl (H.ent (i := 2) rfl) rfl) rfl rfl rfl ?_
    refine cal cb_seg_Entries (segEntries_at y.A y.cap y.es y.s _ (hlg.log H hy (hok2 hy).1)) rfl rfl ?_
    have hloth := H.size
    rintro _ w7 ⟨Ath, cth, rfl, hrth, hcth, hbth⟩; replace H := H.learnRd hbth hrth; clear hrth hbth
    refine l1 (mvU_r rfl) rfl rfl rfl ?_
    refine l1 (exS_r rfl rfl) rfl rfl rfl ?_
    refine l1 (exI_r rfl rfl) rfl rfl rfl ?_
    refine l1 (exI_r rfl rfl) rfl rfl rfl ?_
    refine l1 (asS_r rfl) rfl rfl rfl ?_
    refine l1 (asI_r rfl) rfl rfl rfl ?_
    refine l1 (asI_r rfl) rfl rfl rfl ?_
    refine lw_nil ?_
    refine cw_seq ?_
    refine cw_region ?_
    refine l1 (mvP_r rfl) rfl rfl rfl ?_
    refine l1 (nck_r rfl) rfl rfl rfl ?_
    refine l1 (fad_r fd_Replica_1 rfl) rfl rfl rfl ?_
    refine l1 (ldRS_r 1 [.slice x.A ((flat x.es).length) x.cap, .int .i64 (((lsz x.es x.s : Nat) : Int))] agg_Log row3 hx rfl rfl (H.ent (i := 2) rfl) rfl) rfl rfl rfl ?_
    refine cal cb_seg_Entries (segEntries_at x.A x.cap x.es x.s _ ((hlg.cons (f := FRd entL w4.heap.size w7.heap.size Ath y.es)).log H hx (hok2 hx).1)) rfl rfl ?_
    have hlomi := H.size
    rintro _ w8 ⟨Ami, cmi, rfl, hrmi, hcmi, hbmi⟩; replace H := H.learnRd hbmi hrmi; clear hrmi hbmi
    refine l1 (mvU_r rfl) rfl rfl rfl ?_
    refine l1 (exS_r rfl rfl) rfl rfl rfl ?_
    refine l1 (exI_r rfl rfl) rfl rfl rfl ?_
    refine l1 (exI_r rfl rfl) rfl rfl rfl ?_
    refine l1 (asS_r rfl) rfl rfl rfl ?_
    refine l1 (asI_r rfl) rfl rfl rfl ?_
    refine l1 (asI_r rfl) rfl rfl rfl ?_
    refine lw_nil ?_
    refine cw_seq ?_
    refine cw_region ?_
    refine l1 (asI_r rfl) rfl rfl rfl ?_
    refine lw_nil ?_
    refine cw_seq ?_
    obtain ⟨n, hmn⟩ : ∃ n, matchN x.es y.es = n := ⟨_, rfl⟩
    have hnx : n ≤ x.es.length := hmn ▸ (matchN_le x.es y.es).1
    have hny : n ≤ y.es.length := hmn ▸ (matchN_le x.es y.es).2
    have hlg2 := (hlg.cons (f := FRd entL w4.heap.size w7.heap.size Ath y.es)).cons (f := FRd entL w7.heap.size w8.heap.size Ami x.es)
    refine cw_cut (τ := Unit) [15, 70, 71, 72, 73, 74, 75, 76, 77, 78, 79, 80, 81, 82, 83, 84, 85, 86, 87, 88, 89, 90, 91, 92, 93, 94] (fun _ => [(15, .int .i64 ((n : Nat) : Int))]) (fun _ w' => Hp w w' [(g1, .cells u1 T_bool (0, 0)), (g2, .cells u2 T_int (0, 0)), (g3, .cells u3 T_Replica (0, 0)), (b4, .cells #[.int .i64 (0), .int .i64 (0), .slice none 0 0, .slice none 0 0, .slice none 0 0, .int .i64 (0), .int .i64 (0)] T_Part (0, 0)), (b2, .cells #[.int .i64 (ep), .int .i64 (ld), .slice (some ⟨g1, 0, none⟩) isr.length c1, .slice (some ⟨g2, 0, none⟩) kn.length c2, .slice (some ⟨g3, 0, none⟩) rs.length c3, .int .i64 (fw), .int .i64 (bs)] T_Part (0, 0))] ([FRd entL w7.heap.size w8.heap.size Ami x.es, FRd entL w4.heap.size w7.heap.size Ath y.es, FPa 0 w.heap.size ⟨ep, ld, isr, iA, iC, kn, kA, kC, reps, rA, rC, fw, bs⟩, FRd boolL 0 w.heap.size iA isr, FRd intL 0 w.heap.size kA kn, FRd repL 0 w.heap.size rA reps] ++ repsF rs)) ?_ ?_
    ·
     skip
     refine cw_block ?_
     refine cw_loop (τ := Nat) [15, 70, 71, 72, 73, 74, 75, 76, 77, 78, 79, 80, 81, 82, 83, 84, 85, 86, 87, 88, 89, 90, 91, 92, 93, 94] (fun j => [(15, .int .i64 (j : Nat))]) (fun j w' => j ≤ x.es.length ∧ j ≤ y.es.length ∧ matchN x.es y.es = j + matchN (x.es.drop j) (y.es.drop j) ∧ Hp w w' [(g1, .cells u1 T_bool (0, 0)), (g2, .cells u2 T_int (0, 0)), (g3, .cells u3 T_Replica (0, 0)), (b4, .cells #[.int .i64 (0), .int .i64 (0), .slice none 0 0, .slice none 0 0, .slice none 0 0, .int .i64 (0), .int .i64 (0)] T_Part (0, 0)), (b2, .cells #[.int .i64 (ep), .int .i64 (ld), .slice (some ⟨g1, 0, none⟩) isr.length c1, .slice (some ⟨g2, 0, none⟩) kn.length c2, .slice (some ⟨g3, 0, none⟩) rs.length c3, .int .i64 (fw), .int .i64 (bs)] T_Part (0, 0))] ([FRd entL w7.heap.size w8.heap.size Ami x.es, FRd entL w4.heap.size w7.heap.size Ath y.es, FPa 0 w.heap.size ⟨ep, ld, isr, iA, iC, kn, kA, kC, reps, rA, rC, fw, bs⟩, FRd boolL 0 w.heap.size iA isr, FRd intL 0 w.heap.size kA kn, FRd repL 0 w.heap.size rA reps] ++ repsF rs)) (fun j => x.es.length - j) 0 ⟨by omega, by omega, by simp, H⟩ (sl1 rfl) ?_
     rintro j ρ1 w9 ⟨hj1, hj2, hj, H⟩
     have hyl := (hok2 hy).1.len
     show CW _ _ _ _ (updL (ovr _ _ ρ1) [(15, .int .i64 (j : Nat))]) w9
     refine cw_seq ?_
     refine cw_seq ?_
    
     refine cw_draw mixed [0, 1, 2, 3, 4, 5, 6, 7, 8, 9, 10, 11, 12, 13, 14, 15, 16, 17, 18, 19, 20, 21, 22] [] [] [0, 1, 2, 3, 4, 5, 6, 7, 8, 9, 10, 11, 12, 13, 14, 16, 17, 18, 19, 21, 22] (sp []) (by kernel_rfl) (by kernel_rfl) (by kernel_rfl) (by kernel_rfl) (fun _ _ _ h => h) (sp_st _) ?_
     refine aw rfl rfl rfl rfl rfl (fun w' hw' => mvI_r rfl) ?_
     refine aw rfl rfl rfl rfl rfl (fun w' hw' => mvS_r rfl) ?_
     refine aw rfl rfl rfl rfl rfl (fun w' hw' => lenS_r len_LEntry rfl) ?_
     refine awD rfl rfl rfl rfl rfl (fun w' hw' => lss_r rfl rfl) (fun h73 => ?_) (fun h73 => ?_)
     ·
      refine aw rfl rfl rfl rfl rfl (fun w' hw' => mvB_r rfl) ?_
      refine aw rfl rfl rfl rfl rfl (fun w' hw' => mvI_r rfl) ?_
      refine aw rfl rfl rfl rfl rfl (fun w' hw' => mvS_r rfl) ?_
      refine aw rfl rfl rfl rfl rfl (fun w' hw' => lenS_r len_LEntry rfl) ?_
      refine awD rfl rfl rfl rfl rfl (fun w' hw' => lss_r rfl rfl) (fun h78 => ?_) (fun h78 => ?_)
      ·
       refine aw rfl rfl rfl rfl rfl (fun w' hw' => pkTB_r rfl rfl) ?_
       refine aw rfl rfl rfl rfl rfl (fun w' hw' => mvB_r rfl) ?_
       refine aw rfl rfl rfl rfl rfl (fun w' hw' => mvS_r rfl) ?_
       refine aw rfl rfl rfl rfl rfl (fun w' hw' => mvI_r rfl) ?_
       refine awIxF H 0 rfl rfl rfl rfl rfl sl_LEntry rfl rfl (by omega) (by omega) ?_; intro b10 o10 x10 e10
       refine aw rfl rfl rfl rfl rfl (fun w' hw' => fad_r fd_Entry_0 rfl) ?_
       refine aw rfl rfl rfl rfl rfl (fun w' hw' => ld_r one_int rfl (e10.later hw' 0 _ rfl)) ?_
       refine aw rfl rfl rfl rfl rfl (fun w' hw' => mvS_r rfl) ?_
       refine aw rfl rfl rfl rfl rfl (fun w' hw' => mvI_r rfl) ?_
       refine awIxF H 1 rfl rfl rfl rfl rfl sl_LEntry rfl rfl (by omega) (by omega) ?_; intro b11 o11 x11 e11
       refine aw rfl rfl rfl rfl rfl (fun w' hw' => fad_r fd_Entry_0 rfl) ?_
       refine aw rfl rfl rfl rfl rfl (fun w' hw' => ld_r one_int rfl (e11.later hw' 0 _ rfl)) ?_
       refine awD rfl rfl rfl rfl rfl (fun w' hw' => eql_r rfl rfl) (fun h91 => ?_) (fun h91 => ?_)
       ·
        refine aw rfl rfl rfl rfl rfl (fun w' hw' => pkTB_r rfl rfl) ?_
        refine aw_nil ?_
        intro w12 hw' hF
        replace H := H.later hw'; clear hw' hF
        refine lw_nil ?_
        refine cw_true rfl ?_
        refine cw_skip ?_
        refine cw_block ?_
        refine cw_region ?_
        refine l1 (mvI_r rfl) rfl rfl rfl ?_
        refine l1 (add_r rfl rfl (by omega) (by omega)) rfl rfl rfl ?_
        refine l1 (asI_r rfl) rfl rfl rfl ?_
        refine lw_nil ?_
        refine ⟨j + 1, ⟨by omega, by omega, by rw [hj, matchN_step e10.at_ e11.at_ h91]; omega, H⟩, sl1 rfl, by repeat (first | exact Agr.refl _ _ | exact agr_ovr | refine agr_upd rfl ?_ | refine agr_updL _ rfl ?_ | refine agr_ovr2 rfl ?_), by show x.es.length - (j + 1) < x.es.length - j; omega⟩
       ·
        refine aw rfl rfl rfl rfl rfl (fun w' hw' => pkTB_r rfl rfl) ?_
        refine aw_nil ?_
        intro w13 hw' hF
        replace H := H.later hw'; clear hw' hF
        refine lw_nil ?_
        refine cw_false rfl ?_
        refine cw_exit ?_
        have hjn : j = n := by rw [← hmn, hj]; rw [matchN_stop e10.at_ e11.at_ h91]; rfl
        exact ⟨(), H, sl1 (by rw [← hjn]; rfl), by repeat (first | exact Agr.refl _ _ | exact agr_ovr | refine agr_upd rfl ?_ | refine agr_updL _ rfl ?_ | refine agr_ovr2 rfl ?_)⟩
      ·
       refine aw rfl rfl rfl rfl rfl (fun w' hw' => pkTB_r rfl rfl) ?_
       refine aw rfl rfl rfl rfl rfl (fun w' hw' => mvB_r rfl) ?_
       refine awN rfl rfl rfl rfl ?_
       refine awN rfl rfl rfl rfl ?_
       refine awN rfl rfl rfl rfl ?_
       refine awN rfl rfl rfl rfl ?_
       refine awN rfl rfl rfl rfl ?_
       refine awN rfl rfl rfl rfl ?_
       refine awN rfl rfl rfl rfl ?_
       refine awN rfl rfl rfl rfl ?_
       refine awN rfl rfl rfl rfl ?_
       refine awN rfl rfl rfl rfl ?_
       refine awN rfl rfl rfl rfl ?_
       refine aw rfl rfl rfl rfl rfl (fun w' hw' => pkFB_r rfl rfl) ?_
       refine aw_nil ?_
       intro w14 hw' hF
       replace H := H.later hw'; clear hw' hF
       refine lw_nil ?_
       refine cw_false rfl ?_
       refine cw_exit ?_
       have hjn : j = n := by rw [← hmn, hj]; rw [matchN_end (by omega)]; rfl
       exact ⟨(), H, sl1 (by rw [← hjn]; rfl), by repeat (first | exact Agr.refl _ _ | exact agr_ovr | refine agr_upd rfl ?_ | refine agr_updL _ rfl ?_ | refine agr_ovr2 rfl ?_)⟩
     ·
      refine aw rfl rfl rfl rfl rfl (fun w' hw' => mvB_r rfl) ?_
      refine awN rfl rfl rfl rfl ?_
      refine awN rfl rfl rfl rfl ?_
      refine awN rfl rfl rfl rfl ?_
      refine awN rfl rfl rfl rfl ?_
      refine aw rfl rfl rfl rfl rfl (fun w' hw' => pkFB_r rfl rfl) ?_
      refine aw rfl rfl rfl rfl rfl (fun w' hw' => mvB_r rfl) ?_
      refine awN rfl rfl rfl rfl ?_
      refine awN rfl rfl rfl rfl ?_
      refine awN rfl rfl rfl rfl ?_
      refine awN rfl rfl rfl rfl ?_
      refine awN rfl rfl rfl rfl ?_
      refine awN rfl rfl rfl rfl ?_
      refine awN rfl rfl rfl rfl ?_
      refine awN rfl rfl rfl rfl ?_
      refine awN rfl rfl rfl rfl ?_
      refine awN rfl rfl rfl rfl ?_
      refine awN rfl rfl rfl rfl ?_
      refine aw rfl rfl rfl rfl rfl (fun w' hw' => pkFB_r rfl rfl) ?_
      refine aw_nil ?_
      intro w15 hw' hF
      replace H := H.later hw'; clear hw' hF
      refine lw_nil ?_
      refine cw_false rfl ?_
      refine cw_exit ?_
      have hjn : j = n := by rw [← hmn, hj]; rw [matchN_end (by omega)]; rfl
      exact ⟨(), H, sl1 (by rw [← hjn]; rfl), by repeat (first | exact Agr.refl _ _ | exact agr_ovr | refine agr_upd rfl ?_ | refine agr_updL _ rfl ?_ | refine agr_ovr2 rfl ?_)⟩
    rintro ⟨⟩ ρ1 w16 H
    have hyl := (hok2 hy).1.len
    refine cw_seq ?_
    refine cw_region ?_
    refine l1 (mvP_r rfl) rfl rfl rfl ?_
    refine l1 (mvP_r rfl) rfl rfl rfl ?_
    refine l1 (nck_r rfl) rfl rfl rfl ?_
    refine l1 (fad_r fd_Replica_1 rfl) rfl rfl rfl ?_
    refine l1 (ldRS_r 1 [.slice x.A ((flat x.es).length) x.cap, .int .i64 (((lsz x.es x.s : Nat) : Int))] agg_Log row3 hx rfl rfl (H.ent (i := 2) rfl) rfl) rfl rfl rfl ?_
    refine l1 (mvI_r rfl) rfl rfl rfl ?_
    refine cal cb_seg_Cut (segCut_row (Rep.log x) n _ (hlg2.log H hx (hok2 hx).1) hnx) rfl rfl ?_
    have hlo9 := H.size
    rintro _ w17 ⟨A102, c102, rfl, hc102, hr102, hb102⟩; replace H := H.learnRd hb102 hr102; clear hr102 hb102
    skip
    refine l1 (mvU_r rfl) rfl rfl rfl ?_
    refine l1 (exA_r rfl rfl) rfl rfl rfl ?_
    refine l1 (exI_r rfl rfl) rfl rfl rfl ?_
    refine l1 (nck_r rfl) rfl rfl rfl ?_
    refine l1 (fad_r fd_Replica_1 rfl) rfl rfl rfl ?_
    refine stR H 2 ({ x with A := A102, cap := c102, es := x.es.take n, s := min x.s n, lo := w16.heap.size, hi := w17.heap.size }) siz_Log row3 hx 1 rfl rfl rfl rfl rfl rfl (by kernel_rfl) ?_; intro w19 cur18 row18 H
    have hs20 : (rs.set r ({ x with A := A102, cap := c102, es := x.es.take n, s := min x.s n, lo := w16.heap.size, hi := w17.heap.size }))[r]? = some ({ x with A := A102, cap := c102, es := x.es.take n, s := min x.s n, lo := w16.heap.size, hi := w17.heap.size }) := List.getElem?_set_self (getE hx).1
    refine lw_nil ?_
    refine cw_seq ?_
    have hlo1 := hlo9
    have hlg3 := (hlg2.cons (f := FRd byteL w16.heap.size w17.heap.size A102 (flat (x.es.take n)))).set r (x := { x with A := A102, cap := c102, es := x.es.take n, s := min x.s n, lo := w16.heap.size, hi := w17.heap.size }) ⟨hc102, hlo1, List.Mem.head _⟩
    have hx2 : (rs.set r { x with A := A102, cap := c102, es := x.es.take n, s := min x.s n, lo := w16.heap.size, hi := w17.heap.size })[r]? = some { x with A := A102, cap := c102, es := x.es.take n, s := min x.s n, lo := w16.heap.size, hi := w17.heap.size } := List.getElem?_set_self (by omega)
    have hy2 : (rs.set r { x with A := A102, cap := c102, es := x.es.take n, s := min x.s n, lo := w16.heap.size, hi := w17.heap.size })[l]? = some y := by rw [List.getElem?_set_ne hrl1]; exact hy
    have hgl2 : GL (x.es.take n) (min x.s n : Nat) := (hok2 hx).1.take n (by simp; omega)
   
    obtain ⟨kx, hkx⟩ : ∃ kx, kn[r]? = some kx := ⟨_, List.getElem?_eq_getElem (by omega)⟩
    refine cw_draw mixed [0, 1, 2, 3, 4, 5, 6, 7, 8, 9] [10] [5] [0, 2, 4, 6, 7, 8, 9] (sp [(5, Sp.one (.tuple #[.int .i64 (((x.es.take n).length : Nat) : Int), .int .i64 ((min x.s n : Nat) : Int)]))]) (by kernel_rfl) (by kernel_rfl) (by kernel_rfl) (by kernel_rfl) (fun _ _ _ h => h) (sp_st _) ?_
    refine aw rfl rfl rfl rfl rfl (fun w' hw' => fad_r fd_Part_3 rfl) ?_
    refine aw rfl rfl rfl rfl rfl (fun w' hw' => ld_r one_Lint rfl (cellE ((H.later hw').ent (i := 4) rfl) rfl)) ?_
    refine aw rfl rfl rfl rfl rfl (fun w' hw' => mvI_r rfl) ?_
    refine aw rfl rfl rfl rfl rfl (fun w' hw' => ldW_r agg_Part rfl ((H.later hw').ent (i := 4) rfl) rfl) ?_
    refine aw rfl rfl rfl rfl rfl (fun w' hw' => mvI_r rfl) ?_
    refine awCalV cb_part_ends rfl rfl rfl rfl rfl (fun w' hw' => (by have hA := pEnds_ok ⟨ep, ld, isr, some ⟨g1, 0, none⟩, c1, kn, some ⟨g2, 0, none⟩, c2, (rs.set r { x with A := A102, cap := c102, es := x.es.take n, s := min x.s n, lo := w16.heap.size, hi := w17.heap.size }), some ⟨g3, 0, none⟩, c3, fw, bs⟩ r { x with A := A102, cap := c102, es := x.es.take n, s := min x.s n, lo := w16.heap.size, hi := w17.heap.size } w' (row18.rd0 ((H.later hw').ent (i := 2) rfl)) hx2 (hlg3.log (H.later hw') hx2 hgl2); simp only [Pa.v, Pa.c, List.length_set] at hA; exact hA)) rfl ?_
    refine aw rfl rfl rfl rfl rfl (fun w' hw' => mvU_r rfl) ?_
    refine aw rfl rfl rfl rfl rfl (fun w' hw' => exI_r rfl rfl) ?_
    refine aw rfl rfl rfl rfl rfl (fun w' hw' => exI_r rfl rfl) ?_
    refine aw rfl rfl rfl rfl rfl (fun w' hw' => ixR_r sl_Lint rfl rfl (by first | omega | (simp only [List.length_set]; omega))) ?_
    refine aw_nil ?_
    intro w21 hw' hF
    replace H := H.later hw'; clear hw' hF
    refine stR H 1 ((((min x.s n : Nat) : Int))) siz_int row2 hkx 0 rfl rfl rfl rfl rfl rfl (by kernel_rfl) ?_; intro w23 cur22 row22 H
    have hs24 : (kn.set r ((((min x.s n : Nat) : Int))))[r]? = some ((((min x.s n : Nat) : Int))) := List.getElem?_set_self (getE hkx).1
    refine lw_nil ?_
    refine cw_seq ?_
    refine cw_region ?_
    refine l1 (ldW_r agg_Part rfl (H.ent (i := 4) rfl) rfl) rfl rfl rfl ?_
    refine cal cb_part_advance ((by have hA := pAdv_ok ep ld isr c1 (kn.set r ((min x.s n : Nat) : Int)) c2 (rs.set r { x with A := A102, cap := c102, es := x.es.take n, s := min x.s n, lo := w16.heap.size, hi := w17.heap.size }) c3 fw bs l y H row1 row22 row18 (by simp only [List.length_set]; omega) (by simp only [List.length_set]; omega) (by simp only [List.length_set]; omega) hld hy2 (hlg3 _ (List.mem_of_getElem? hy2)).2.2 (hok2 hy).1 (hlg3 _ (List.mem_of_getElem? hy2)).1; simp only [Pa.v, Pa.c, List.length_set] at hA; exact hA)) rfl rfl ?_
    rintro _ w25 ⟨u9, rfl, row9, H⟩
    replace hlg3 := hlg3.same l (x' := { y with high := (max y.high (min (leastA isr (kn.set r ((min x.s n : Nat) : Int)) 400) (y.es.length : Nat))) }) hy2 rfl rfl rfl rfl rfl
    have hx3 : ((rs.set r { x with A := A102, cap := c102, es := x.es.take n, s := min x.s n, lo := w16.heap.size, hi := w17.heap.size }).set l { y with high := (max y.high (min (leastA isr (kn.set r ((min x.s n : Nat) : Int)) 400) (y.es.length : Nat))) })[r]? = some { x with A := A102, cap := c102, es := x.es.take n, s := min x.s n, lo := w16.heap.size, hi := w17.heap.size } := by rw [List.getElem?_set_ne (Ne.symm hrl1), List.getElem?_set_self (by omega)]
    have hy3 : ((rs.set r { x with A := A102, cap := c102, es := x.es.take n, s := min x.s n, lo := w16.heap.size, hi := w17.heap.size }).set l { y with high := (max y.high (min (leastA isr (kn.set r ((min x.s n : Nat) : Int)) 400) (y.es.length : Nat))) })[l]? = some { y with high := (max y.high (min (leastA isr (kn.set r ((min x.s n : Nat) : Int)) 400) (y.es.length : Nat))) } := List.getElem?_set_self (by simp only [List.length_set]; omega)
    refine stN H 4 (#[.int .i64 (ep), .int .i64 (ld), .slice (some ⟨g1, 0, none⟩) isr.length c1, .slice (some ⟨g2, 0, none⟩) kn.length c2, .slice (some ⟨g3, 0, none⟩) rs.length c3, .int .i64 (fw), .int .i64 (bs)]) siz_Part rfl rfl rfl rfl rfl (by kernel_rfl) (by kernel_rfl) ?_; intro w26 H
    refine lw_nil ?_
    refine cw_seq ?_
    refine cw_region ?_
    refine l1 (asI_r rfl) rfl rfl rfl ?_
    refine lw_nil ?_
    refine cw_seq ?_
    refine cw_seq ?_
    refine cw_region ?_
    refine l1 (mvI_r rfl) rfl rfl rfl ?_
    refine l1 (mvS_r rfl) rfl rfl rfl ?_
    refine l1 (lenS_r len_LEntry rfl) rfl rfl rfl ?_
    refine lwD (lss_r rfl rfl) rfl rfl rfl (fun h122 => ?_) (fun h122 => ?_)
    ·
     refine lw_nil ?_
     refine cw_true rfl ?_
     refine cw_seq ?_
    
     obtain ⟨z, hz⟩ : ∃ z, y.es[n]? = some z := ⟨_, List.getElem?_eq_getElem (by omega)⟩
     have hgz : Good z := (hok2 hy).1.good z (List.mem_of_getElem? hz)
     have hrm : (x.es.take n).length < 400 := by have := (hok2 hy).1.len; simp; omega
     have hlo9 := H.size
     refine cw_draw mixed [0, 1, 2, 3, 4, 5, 6, 7, 8, 9, 10, 11, 12] [13, 14] [8, 12] [0, 1, 2, 4, 5, 6, 9, 10, 11] (sp [(8, Sp.nrow w26.heap.size byteL (flat (x.es.take n ++ [z])) (fun A c => .tuple #[.agg #[.slice A (flat (x.es.take n ++ [z])).length c, .int .i64 (lsz (x.es.take n ++ [z]) (min x.s n : Nat) : Nat)], .int .i64 0])), (12, Sp.blk w26.heap.size (.agg #[.slice none 0 0, .int .i64 0]) T_Log)]) (by kernel_rfl) (by kernel_rfl) (by kernel_rfl) (by kernel_rfl) (fun _ _ _ h => h) (sp_st _) ?_
     refine aw rfl rfl rfl rfl rfl (fun w' hw' => mvP_r rfl) ?_
     refine aw rfl rfl rfl rfl rfl (fun w' hw' => nck_r rfl) ?_
     refine aw rfl rfl rfl rfl rfl (fun w' hw' => fad_r fd_Replica_1 rfl) ?_
     refine aw rfl rfl rfl rfl rfl (fun w' hw' => ldRS_r 1 [.slice (({ x with A := A102, cap := c102, es := x.es.take n, s := min x.s n, lo := w16.heap.size, hi := w17.heap.size }).A) ((flat ({ x with A := A102, cap := c102, es := x.es.take n, s := min x.s n, lo := w16.heap.size, hi := w17.heap.size }).es).length) (({ x with A := A102, cap := c102, es := x.es.take n, s := min x.s n, lo := w16.heap.size, hi := w17.heap.size }).cap), .int .i64 (((lsz ({ x with A := A102, cap := c102, es := x.es.take n, s := min x.s n, lo := w16.heap.size, hi := w17.heap.size }).es ({ x with A := A102, cap := c102, es := x.es.take n, s := min x.s n, lo := w16.heap.size, hi := w17.heap.size }).s : Nat) : Int))] agg_Log row9 hx3 rfl rfl ((H.later hw').ent (i := 2) rfl) rfl) ?_
     refine aw rfl rfl rfl rfl rfl (fun w' hw' => mvS_r rfl) ?_
     refine aw rfl rfl rfl rfl rfl (fun w' hw' => mvI_r rfl) ?_
     refine awIxF H 2 rfl rfl rfl rfl rfl sl_LEntry rfl rfl (by omega) (by omega) ?_; intro b27 o27 x27 e27
     obtain rfl : z = x27 := by have := e27.at_; rw [hz] at this; exact Option.some.inj this
     refine aw rfl rfl rfl rfl rfl (fun w' hw' => ldA_r (xs := Ent.c z) agg_Entry rfl rfl (e27.later hw')) ?_
     refine awNRow (gv := (fun A c => .tuple #[.agg #[.slice A (flat (x.es.take n ++ [z])).length c, .int .i64 (lsz (x.es.take n ++ [z]) (min x.s n : Nat) : Nat)], .int .i64 0])) cb_seg_Append rfl rfl rfl rfl rfl (fun w' hw' => hw'.size) (fun w' hw' => segAppend_row (Rep.log { x with A := A102, cap := c102, es := x.es.take n, s := min x.s n, lo := w16.heap.size, hi := w17.heap.size }) z w' (hlg3.log (H.later hw') hx3 hgl2) hgz hrm) rfl ?_; intro A132 c132 hc132
     refine aw rfl rfl rfl rfl rfl (fun w' hw' => mvU_r rfl) ?_
     refine aw rfl rfl rfl rfl rfl (fun w' hw' => exA_r rfl rfl) ?_
     refine aw rfl rfl rfl rfl rfl (fun w' hw' => exI_r rfl rfl) ?_
     refine awAl z_Log rfl rfl rfl rfl rfl (fun w' hw' => hw'.size) ?_; intro b17
     refine aw_nil ?_
     intro w28 hw' hF
     obtain ⟨hF, bq, eq, hge17, hbl17⟩ := hF; cases eq
     obtain ⟨hF, Aq, cq, eq, hcq, hrw132⟩ := hF; cases eq; clear hcq
     have Hb := H
     replace H := H.adoptNew hw' hbl17 hge17
     obtain ⟨lo132, hi132, hlo132, H'⟩ := Hb.learnApart H hw'.size hrw132 (cellLog_apart hbl17); replace H := H'; clear H'
     clear hw' hF
     refine stN H 0 (#[.slice A132 ((flat (x.es.take n ++ [z])).length) c132, .int .i64 (((lsz (x.es.take n ++ [z]) (min x.s n : Nat) : Nat) : Int))]) siz_Log rfl rfl rfl rfl rfl (by kernel_rfl) (by kernel_rfl) ?_; intro w29 H
     refine l1 (asI_r rfl) rfl rfl rfl ?_
     refine lw_nil ?_
     refine cw_seq ?_
     refine cw_region ?_
     refine l1 (mvI_r rfl) rfl rfl rfl ?_
     refine l1 (eqlT_r rfl rfl rfl) rfl rfl rfl ?_
     refine lw_nil ?_
     refine cw_true rfl ?_
     refine cw_region ?_
     refine l1 (mvP_r rfl) rfl rfl rfl ?_
     refine l1 (ldW_r agg_Log rfl (H.ent (i := 0) rfl) rfl) rfl rfl rfl ?_
     refine l1 (nck_r rfl) rfl rfl rfl ?_
     refine l1 (fad_r fd_Replica_1 rfl) rfl rfl rfl ?_
     refine stR H 3 ({ x with A := A132, cap := c132, es := x.es.take n ++ [z], s := min x.s n, lo := lo132, hi := hi132 }) siz_Log row9 hx3 1 rfl rfl rfl rfl rfl rfl (by kernel_rfl) ?_; intro w31 cur30 row30 H
     have hs32 : ((((rs.set r { x with A := A102, cap := c102, es := x.es.take n, s := min x.s n, lo := w16.heap.size, hi := w17.heap.size }).set l { y with high := (max y.high (min (leastA isr (kn.set r ((min x.s n : Nat) : Int)) 400) (y.es.length : Nat))) })).set r ({ x with A := A132, cap := c132, es := x.es.take n ++ [z], s := min x.s n, lo := lo132, hi := hi132 }))[r]? = some ({ x with A := A132, cap := c132, es := x.es.take n ++ [z], s := min x.s n, lo := lo132, hi := hi132 }) := List.getElem?_set_self (getE hx3).1
     refine l1 (asI_r rfl) rfl rfl rfl ?_
     refine lw_nil ?_
     refine cw_seq ?_
     have hlg8 := (hlg3.cons (f := FRd byteL lo132 hi132 A132 (flat (x.es.take n ++ [z])))).set r (x := { x with A := A132, cap := c132, es := x.es.take n ++ [z], s := min x.s n, lo := lo132, hi := hi132 }) ⟨hc132, Nat.le_trans hlo9 hlo132, List.Mem.head _⟩
     have hx8 : (((rs.set r { x with A := A102, cap := c102, es := x.es.take n, s := min x.s n, lo := w16.heap.size, hi := w17.heap.size }).set l { y with high := (max y.high (min (leastA isr (kn.set r ((min x.s n : Nat) : Int)) 400) (y.es.length : Nat))) }).set r { x with A := A132, cap := c132, es := x.es.take n ++ [z], s := min x.s n, lo := lo132, hi := hi132 })[r]? = some { x with A := A132, cap := c132, es := x.es.take n ++ [z], s := min x.s n, lo := lo132, hi := hi132 } := List.getElem?_set_self (by simp only [List.length_set]; omega)
     have hy8 : (((rs.set r { x with A := A102, cap := c102, es := x.es.take n, s := min x.s n, lo := w16.heap.size, hi := w17.heap.size }).set l { y with high := (max y.high (min (leastA isr (kn.set r ((min x.s n : Nat) : Int)) 400) (y.es.length : Nat))) }).set r { x with A := A132, cap := c132, es := x.es.take n ++ [z], s := min x.s n, lo := lo132, hi := hi132 })[l]? = some { y with high := (max y.high (min (leastA isr (kn.set r ((min x.s n : Nat) : Int)) 400) (y.es.length : Nat))) } := by rw [List.getElem?_set_ne hrl1, List.getElem?_set_self (by simp only [List.length_set]; omega)]
    
     refine cw_draw mixed [0, 1, 2, 3, 4, 5, 6, 7, 8, 9, 10, 11, 12, 13, 14, 15, 16, 17, 18] [19] [] [0, 1, 2, 3, 5, 7, 9, 10, 12, 13, 14, 15, 16, 17, 18] (sp []) (by kernel_rfl) (by kernel_rfl) (by kernel_rfl) (by kernel_rfl) (fun _ _ _ h => h) (sp_st _) ?_
     refine aw rfl rfl rfl rfl rfl (fun w' hw' => mvP_r rfl) ?_
     refine aw rfl rfl rfl rfl rfl (fun w' hw' => mvP_r rfl) ?_
     refine aw rfl rfl rfl rfl rfl (fun w' hw' => nck_r rfl) ?_
     refine aw rfl rfl rfl rfl rfl (fun w' hw' => fad_r fd_Replica_2 rfl) ?_
     refine aw rfl rfl rfl rfl rfl (fun w' hw' => ldR_r one_int row30 hx8 3 rfl ((H.later hw').ent (i := 3) rfl) rfl) ?_
     refine aw rfl rfl rfl rfl rfl (fun w' hw' => fad_r fd_Part_4 rfl) ?_
     refine aw rfl rfl rfl rfl rfl (fun w' hw' => ld_r one_LReplica rfl (cellE ((H.later hw').ent (i := 5) rfl) rfl)) ?_
     refine aw rfl rfl rfl rfl rfl (fun w' hw' => fad_r fd_Part_1 rfl) ?_
     refine aw rfl rfl rfl rfl rfl (fun w' hw' => ld_r one_int rfl (cellE ((H.later hw').ent (i := 5) rfl) rfl)) ?_
     refine aw rfl rfl rfl rfl rfl (fun w' hw' => ixR_r (k := l) sl_LReplica rfl (congrArg (Value.int .i64) hld) (by first | omega | (simp only [List.length_set]; omega))) ?_
     refine aw rfl rfl rfl rfl rfl (fun w' hw' => fad_r fd_Replica_2 rfl) ?_
     refine aw rfl rfl rfl rfl rfl (fun w' hw' => ldR_r one_int row30 hy8 3 rfl ((H.later hw').ent (i := 3) rfl) rfl) ?_
     refine aw rfl rfl rfl rfl rfl (fun w' hw' => maxI_r rfl rfl) ?_
     refine aw rfl rfl rfl rfl rfl (fun w' hw' => mvI_r rfl) ?_
     refine aw rfl rfl rfl rfl rfl (fun w' hw' => mvI_r rfl) ?_
     refine aw rfl rfl rfl rfl rfl (fun w' hw' => add_r rfl rfl (by omega) (by omega)) ?_
     refine aw rfl rfl rfl rfl rfl (fun w' hw' => minI_r rfl rfl) ?_
     refine aw rfl rfl rfl rfl rfl (fun w' hw' => nck_r rfl) ?_
     refine aw rfl rfl rfl rfl rfl (fun w' hw' => fad_r fd_Replica_2 rfl) ?_
     refine aw_nil ?_
     intro w33 hw' hF
     replace H := H.later hw'; clear hw' hF
     refine stR H 3 ({ x with A := A132, cap := c132, es := x.es.take n ++ [z], s := min x.s n, lo := lo132, hi := hi132, high := min (max x.high (max y.high (min (leastA isr (kn.set r ((min x.s n : Nat) : Int)) 400) (y.es.length : Nat)))) ((n : Nat) + 1) }) siz_int row30 hx8 3 rfl rfl rfl rfl rfl rfl (by kernel_rfl) ?_; intro w35 cur34 row34 H
     have hs36 : (((((rs.set r { x with A := A102, cap := c102, es := x.es.take n, s := min x.s n, lo := w16.heap.size, hi := w17.heap.size }).set l { y with high := (max y.high (min (leastA isr (kn.set r ((min x.s n : Nat) : Int)) 400) (y.es.length : Nat))) })).set r ({ x with A := A132, cap := c132, es := x.es.take n ++ [z], s := min x.s n, lo := lo132, hi := hi132 })).set r ({ x with A := A132, cap := c132, es := x.es.take n ++ [z], s := min x.s n, lo := lo132, hi := hi132, high := min (max x.high (max y.high (min (leastA isr (kn.set r ((min x.s n : Nat) : Int)) 400) (y.es.length : Nat)))) ((n : Nat) + 1) }))[r]? = some ({ x with A := A132, cap := c132, es := x.es.take n ++ [z], s := min x.s n, lo := lo132, hi := hi132, high := min (max x.high (max y.high (min (leastA isr (kn.set r ((min x.s n : Nat) : Int)) 400) (y.es.length : Nat)))) ((n : Nat) + 1) }) := List.getElem?_set_self (getE hx8).1
     refine lw_nil ?_
     refine cw_seq ?_
     refine cw_region ?_
     refine l1 (ldW_r agg_Part rfl (H.ent (i := 5) rfl) rfl) rfl rfl rfl ?_
     refine l1 (mvI_r rfl) rfl rfl rfl ?_
     refine stN H 4 (#[.int .i64 (ep), .int .i64 (ld), .slice (some ⟨g1, 0, none⟩) isr.length c1, .slice (some ⟨g2, 0, none⟩) kn.length c2, .slice (some ⟨g3, 0, none⟩) rs.length c3, .int .i64 (fw), .int .i64 (bs)]) siz_Part rfl rfl rfl rfl rfl (by kernel_rfl) (by kernel_rfl) ?_; intro w37 H
     refine l1 (asI_r rfl) rfl rfl rfl ?_
     refine l1 (asI_r rfl) rfl rfl rfl ?_
     refine lw_nil ?_
     refine cw_ret ?_
     have hzf : fetched x.a y.a (max y.high (min (leastA isr (kn.set r ((min x.s n : Nat) : Int)) 400) (y.es.length : Nat))) = (⟨x.up, x.es.take n ++ [z], min x.s n, min (max x.high (max y.high (min (leastA isr (kn.set r ((min x.s n : Nat) : Int)) 400) (y.es.length : Nat)))) ((n : Nat) + 1)⟩, 1) := by unfold fetched; rw [show matchN x.a.es y.a.es = n from hmn, show y.a.es[n]? = some z from hz]; rfl
     have hS := fetchA_at (p := (Pa.a ⟨ep, ld, isr, iA, iC, kn, kA, kC, reps, rA, rC, fw, bs⟩)) hxa hld hrl1 (show x.a.up = true from h46) (mapa hma hy)
     rw [show matchN x.a.es y.a.es = n from hmn] at hS
     change fetchA (Pa.a ⟨ep, ld, isr, iA, iC, kn, kA, kC, reps, rA, rC, fw, bs⟩) r = ({ (Pa.a ⟨ep, ld, isr, iA, iC, kn, kA, kC, reps, rA, rC, fw, bs⟩) with known := (kn.set r ((min x.s n : Nat) : Int)), reps := ((reps.map Rep.a).set l { y.a with high := (max y.high (min (leastA isr (kn.set r ((min x.s n : Nat) : Int)) 400) (y.es.length : Nat))) }).set r (fetched x.a y.a (max y.high (min (leastA isr (kn.set r ((min x.s n : Nat) : Int)) 400) (y.es.length : Nat)))).1 }, (fetched x.a y.a (max y.high (min (leastA isr (kn.set r ((min x.s n : Nat) : Int)) 400) (y.es.length : Nat)))).2, 0) at hS
     rw [hS, hzf]
     have hlg9 := hlg8.same r (x' := { x with A := A132, cap := c132, es := x.es.take n ++ [z], s := min x.s n, lo := lo132, hi := hi132, high := min (max x.high (max y.high (min (leastA isr (kn.set r ((min x.s n : Nat) : Int)) 400) (y.es.length : Nat)))) ((n : Nat) + 1) }) hx8 rfl rfl rfl rfl rfl
     exact finCTT (cs0 := #[.int .i64 (ep), .int .i64 (ld), .slice (some ⟨g1, 0, none⟩) isr.length c1, .slice (some ⟨g2, 0, none⟩) kn.length c2, .slice (some ⟨g3, 0, none⟩) rs.length c3, .int .i64 (fw), .int .i64 (bs)]) (v1 := .int .i64 1) (v2 := .int .i64 0) rfl agg_Part rfl (H.ent (i := 4) rfl) rfl rfl rfl ⟨_, by simp [Pa.c], by simp only [Pa.a, List.map_set, hma, Rep.a, List.set_set, List.set_comm _ _ hrl2], (NewPa.mk_ (p := ⟨ep, ld, isr, some ⟨g1, 0, none⟩, c1, (kn.set r ((min x.s n : Nat) : Int)), some ⟨g2, 0, none⟩, c2, _, some ⟨g3, 0, none⟩, c3, fw, bs⟩) rfl rfl rfl row1 row22 row34 hlg9 (by dsimp only; first | omega | (simp only [List.length_set, List.length_replicate]; omega)) H ⟨by simp, by simp, by simp⟩)⟩
    ·
     refine lw_nil ?_
     refine cw_false rfl ?_
     refine cw_skip ?_
     refine cw_seq ?_
    
     refine cw_draw mixed [0, 1, 2, 3, 4, 5, 6, 7, 8, 9, 10, 11, 12, 13, 14, 15, 16, 17, 18] [19] [] [0, 1, 2, 3, 5, 7, 9, 10, 12, 13, 14, 15, 16, 17, 18] (sp []) (by kernel_rfl) (by kernel_rfl) (by kernel_rfl) (by kernel_rfl) (fun _ _ _ h => h) (sp_st _) ?_
     refine aw rfl rfl rfl rfl rfl (fun w' hw' => mvP_r rfl) ?_
     refine aw rfl rfl rfl rfl rfl (fun w' hw' => mvP_r rfl) ?_
     refine aw rfl rfl rfl rfl rfl (fun w' hw' => nck_r rfl) ?_
     refine aw rfl rfl rfl rfl rfl (fun w' hw' => fad_r fd_Replica_2 rfl) ?_
     refine aw rfl rfl rfl rfl rfl (fun w' hw' => ldR_r one_int row9 hx3 3 rfl ((H.later hw').ent (i := 2) rfl) rfl) ?_
     refine aw rfl rfl rfl rfl rfl (fun w' hw' => fad_r fd_Part_4 rfl) ?_
     refine aw rfl rfl rfl rfl rfl (fun w' hw' => ld_r one_LReplica rfl (cellE ((H.later hw').ent (i := 4) rfl) rfl)) ?_
     refine aw rfl rfl rfl rfl rfl (fun w' hw' => fad_r fd_Part_1 rfl) ?_
     refine aw rfl rfl rfl rfl rfl (fun w' hw' => ld_r one_int rfl (cellE ((H.later hw').ent (i := 4) rfl) rfl)) ?_
     refine aw rfl rfl rfl rfl rfl (fun w' hw' => ixR_r (k := l) sl_LReplica rfl (congrArg (Value.int .i64) hld) (by first | omega | (simp only [List.length_set]; omega))) ?_
     refine aw rfl rfl rfl rfl rfl (fun w' hw' => fad_r fd_Replica_2 rfl) ?_
     refine aw rfl rfl rfl rfl rfl (fun w' hw' => ldR_r one_int row9 hy3 3 rfl ((H.later hw').ent (i := 2) rfl) rfl) ?_
     refine aw rfl rfl rfl rfl rfl (fun w' hw' => maxI_r rfl rfl) ?_
     refine aw rfl rfl rfl rfl rfl (fun w' hw' => mvI_r rfl) ?_
     refine aw rfl rfl rfl rfl rfl (fun w' hw' => mvI_r rfl) ?_
     refine aw rfl rfl rfl rfl rfl (fun w' hw' => add_r rfl rfl (by omega) (by omega)) ?_
     refine aw rfl rfl rfl rfl rfl (fun w' hw' => minI_r rfl rfl) ?_
     refine aw rfl rfl rfl rfl rfl (fun w' hw' => nck_r rfl) ?_
     refine aw rfl rfl rfl rfl rfl (fun w' hw' => fad_r fd_Replica_2 rfl) ?_
     refine aw_nil ?_
     intro w38 hw' hF
     replace H := H.later hw'; clear hw' hF
     refine stR H 2 ({ x with A := A102, cap := c102, es := x.es.take n, s := min x.s n, lo := w16.heap.size, hi := w17.heap.size, high := min (max x.high (max y.high (min (leastA isr (kn.set r ((min x.s n : Nat) : Int)) 400) (y.es.length : Nat)))) (n : Nat) }) siz_int row9 hx3 3 rfl rfl rfl rfl rfl rfl (by kernel_rfl) ?_; intro w40 cur39 row39 H
     have hs41 : ((((rs.set r { x with A := A102, cap := c102, es := x.es.take n, s := min x.s n, lo := w16.heap.size, hi := w17.heap.size }).set l { y with high := (max y.high (min (leastA isr (kn.set r ((min x.s n : Nat) : Int)) 400) (y.es.length : Nat))) })).set r ({ x with A := A102, cap := c102, es := x.es.take n, s := min x.s n, lo := w16.heap.size, hi := w17.heap.size, high := min (max x.high (max y.high (min (leastA isr (kn.set r ((min x.s n : Nat) : Int)) 400) (y.es.length : Nat)))) (n : Nat) }))[r]? = some ({ x with A := A102, cap := c102, es := x.es.take n, s := min x.s n, lo := w16.heap.size, hi := w17.heap.size, high := min (max x.high (max y.high (min (leastA isr (kn.set r ((min x.s n : Nat) : Int)) 400) (y.es.length : Nat)))) (n : Nat) }) := List.getElem?_set_self (getE hx3).1
     refine lw_nil ?_
     refine cw_seq ?_
     refine cw_region ?_
     refine l1 (ldW_r agg_Part rfl (H.ent (i := 4) rfl) rfl) rfl rfl rfl ?_
     refine l1 (mvI_r rfl) rfl rfl rfl ?_
     refine stN H 3 (#[.int .i64 (ep), .int .i64 (ld), .slice (some ⟨g1, 0, none⟩) isr.length c1, .slice (some ⟨g2, 0, none⟩) kn.length c2, .slice (some ⟨g3, 0, none⟩) rs.length c3, .int .i64 (fw), .int .i64 (bs)]) siz_Part rfl rfl rfl rfl rfl (by kernel_rfl) (by kernel_rfl) ?_; intro w42 H
     refine l1 (asI_r rfl) rfl rfl rfl ?_
     refine l1 (asI_r rfl) rfl rfl rfl ?_
     refine lw_nil ?_
     refine cw_ret ?_
     have hzf : fetched x.a y.a (max y.high (min (leastA isr (kn.set r ((min x.s n : Nat) : Int)) 400) (y.es.length : Nat))) = (⟨x.up, x.es.take n, min x.s n, min (max x.high (max y.high (min (leastA isr (kn.set r ((min x.s n : Nat) : Int)) 400) (y.es.length : Nat)))) (n : Nat)⟩, 0) := by unfold fetched; rw [show matchN x.a.es y.a.es = n from hmn, show y.a.es[n]? = none from List.getElem?_eq_none (by show y.es.length ≤ n; omega)]; rfl
     have hS := fetchA_at (p := (Pa.a ⟨ep, ld, isr, iA, iC, kn, kA, kC, reps, rA, rC, fw, bs⟩)) hxa hld hrl1 (show x.a.up = true from h46) (mapa hma hy)
     rw [show matchN x.a.es y.a.es = n from hmn] at hS
     change fetchA (Pa.a ⟨ep, ld, isr, iA, iC, kn, kA, kC, reps, rA, rC, fw, bs⟩) r = ({ (Pa.a ⟨ep, ld, isr, iA, iC, kn, kA, kC, reps, rA, rC, fw, bs⟩) with known := (kn.set r ((min x.s n : Nat) : Int)), reps := ((reps.map Rep.a).set l { y.a with high := (max y.high (min (leastA isr (kn.set r ((min x.s n : Nat) : Int)) 400) (y.es.length : Nat))) }).set r (fetched x.a y.a (max y.high (min (leastA isr (kn.set r ((min x.s n : Nat) : Int)) 400) (y.es.length : Nat)))).1 }, (fetched x.a y.a (max y.high (min (leastA isr (kn.set r ((min x.s n : Nat) : Int)) 400) (y.es.length : Nat)))).2, 0) at hS
     rw [hS, hzf]
     have hlg9 := hlg3.same r (x' := { x with A := A102, cap := c102, es := x.es.take n, s := min x.s n, lo := w16.heap.size, hi := w17.heap.size, high := min (max x.high (max y.high (min (leastA isr (kn.set r ((min x.s n : Nat) : Int)) 400) (y.es.length : Nat)))) (n : Nat) }) hx3 rfl rfl rfl rfl rfl
     exact finCTT (cs0 := #[.int .i64 (ep), .int .i64 (ld), .slice (some ⟨g1, 0, none⟩) isr.length c1, .slice (some ⟨g2, 0, none⟩) kn.length c2, .slice (some ⟨g3, 0, none⟩) rs.length c3, .int .i64 (fw), .int .i64 (bs)]) (v1 := .int .i64 0) (v2 := .int .i64 0) rfl agg_Part rfl (H.ent (i := 3) rfl) rfl rfl rfl ⟨_, by simp [Pa.c], by simp only [Pa.a, List.map_set, hma, Rep.a, List.set_set, List.set_comm _ _ hrl2], (NewPa.mk_ (p := ⟨ep, ld, isr, some ⟨g1, 0, none⟩, c1, (kn.set r ((min x.s n : Nat) : Int)), some ⟨g2, 0, none⟩, c2, _, some ⟨g3, 0, none⟩, c3, fw, bs⟩) rfl rfl rfl row1 row22 row39 hlg9 (by dsimp only; first | omega | (simp only [List.length_set, List.length_replicate]; omega)) H ⟨by simp, by simp, by simp⟩)⟩
   ·
    refine l1 (not_r rfl) rfl rfl rfl ?_
    refine lw_nil ?_
    refine cw_true rfl ?_
    refine cw_seq ?_
    refine cw_region ?_
    refine l1 (bld_r (cs := #[.int .i64 (0), .int .i64 (0), .slice none 0 0, .slice none 0 0, .slice none 0 0, .int .i64 (0), .int .i64 (0)]) st_Part z_Part (by kernel_rfl)) rfl rfl rfl ?_
    refine stN H 3 (#[.int .i64 (0), .int .i64 (0), .slice none 0 0, .slice none 0 0, .slice none 0 0, .int .i64 (0), .int .i64 (0)]) siz_Part rfl rfl rfl rfl rfl (by kernel_rfl) (by kernel_rfl) ?_; intro w43 H
    refine l1 (asI_r rfl) rfl rfl rfl ?_
    refine l1 (asI_r rfl) rfl rfl rfl ?_
    refine lw_nil ?_
    refine cw_ret ?_
    have hS : fetchA (Pa.a ⟨ep, ld, isr, iA, iC, kn, kA, kC, reps, rA, rC, fw, bs⟩) r = (zPaA, 0, 7) := by simp [fetchA, Pa.a, hxa, Rep.a, show ¬ (ld < 0 ∨ ld = (r : Int)) by omega, h46]
    rw [hS]
    exact finCTT (cs0 := #[.int .i64 0, .int .i64 0, .slice none 0 0, .slice none 0 0, .slice none 0 0, .int .i64 0, .int .i64 0]) (v1 := .int .i64 0) (v2 := .int .i64 7) rfl agg_Part rfl (H.ent (i := 3) rfl) rfl rfl rfl ⟨zPa, rfl, rfl, NewPa.zero H.below⟩
end Go.Proofs.Ytemnchkebhclpaa
end

section
namespace Go.Proofs.Ytemnchkebhclpaa
open Go Go.Eng Go.RowKit
set_option linter.unusedSimpArgs false
theorem info_bool : (Try.prog.info? T_bool).map (fun i => (i.zero, i.size, i.bytes)) = some (some (.bool false), 1, 1) := by kernel_rfl
theorem info_rep : (Try.prog.info? T_Replica).map (fun i => (i.zero, i.size, i.bytes)) = some (some (.agg #[.bool false, .slice none 0 0, .int .i64 0, .int .i64 0]), 4, 48) := by kernel_rfl
theorem rep_of {α : Type} {l : List α} {n : Nat} {a : α} (hl : l.length = n) (h : ∀ j, j < n → l[j]? = some a) : l = List.replicate n a := by
 rw [List.eq_replicate_iff]
 refine ⟨hl, fun b hb => ?_⟩
 obtain ⟨j, hj⟩ := List.mem_iff_getElem?.1 hb
 have := h j (by have := (getE hj).1; omega)
 rw [hj] at this
 exact Option.some.inj this
/-- P4.3: a new part -/
def newA (n few : Nat) : PaA := ⟨0, -1, List.replicate n true, List.replicate n 0, List.replicate n ⟨true, [], 0, 0⟩, few, 0⟩
set_option maxHeartbeats 4000000 in
set_option maxRecDepth 10000 in
theorem pNew_bad (n few : Int) (w : World) (h : n < 1 ∨ 5 < n ∨ few < 1 ∨ n < few) : Ret Try.prog i_part_New [.int .i64 n, .int .i64 few] w fun v w2 => v = .tuple #[.agg #[.int .i64 0, .int .i64 0, .slice none 0 0, .slice none 0 0, .slice none 0 0, .int .i64 0, .int .i64 0], .int .i64 2] ∧ Below w.heap.size w w2 := by
 refine ret_of fn_part_New rfl rfl ?_
 have H := Hp.start w
 refine cw_seq ?_
 refine cw_region ?_
 refine alo H z_Part rfl ?_; intro w1 b4 H
 refine l1 (asI_r rfl) rfl rfl rfl ?_
 refine lw_nil ?_
 refine cw_seq ?_
 refine cw_seq ?_
 refine cw_region ?_
 refine l1 (mvI_r rfl) rfl rfl rfl ?_
 refine lwD (lss_r rfl rfl) rfl rfl rfl (fun h9 => ?_) (fun h9 => ?_)
 ·
  refine l1 (mvB_r rfl) rfl rfl rfl ?_
  refine lwN rfl rfl rfl ?_
  refine lwN rfl rfl rfl ?_
  refine l1 (pkTB_r rfl rfl) rfl rfl rfl ?_
  refine l1 (mvB_r rfl) rfl rfl rfl ?_
  refine lwN rfl rfl rfl ?_
  refine lwN rfl rfl rfl ?_
  refine l1 (pkTB_r rfl rfl) rfl rfl rfl ?_
  refine l1 (mvB_r rfl) rfl rfl rfl ?_
  refine lwN rfl rfl rfl ?_
  refine lwN rfl rfl rfl ?_
  refine lwN rfl rfl rfl ?_
  refine l1 (pkTB_r rfl rfl) rfl rfl rfl ?_
  refine lw_nil ?_
  refine cw_true rfl ?_
  refine cw_seq ?_
  refine cw_region ?_
  refine l1 (bld_r (cs := #[.int .i64 (0), .int .i64 (0), .slice none 0 0, .slice none 0 0, .slice none 0 0, .int .i64 (0), .int .i64 (0)]) st_Part z_Part (by kernel_rfl)) rfl rfl rfl ?_
  refine stN H 0 (#[.int .i64 (0), .int .i64 (0), .slice none 0 0, .slice none 0 0, .slice none 0 0, .int .i64 (0), .int .i64 (0)]) siz_Part rfl rfl rfl rfl rfl (by kernel_rfl) (by kernel_rfl) ?_; intro w2 H
  refine l1 (asI_r rfl) rfl rfl rfl ?_
  refine lw_nil ?_
  refine cw_ret ?_
  exact finCTn (cs0 := #[.int .i64 0, .int .i64 0, .slice none 0 0, .slice none 0 0, .slice none 0 0, .int .i64 0, .int .i64 0]) (v1 := .int .i64 2) rfl agg_Part rfl (H.ent (i := 0) rfl) rfl rfl ⟨rfl, H.below⟩
 ·
  refine l1 (mvB_r rfl) rfl rfl rfl ?_
  refine lwG rfl ?_
  refine l1 (mvI_r rfl) rfl rfl rfl ?_
  refine lwG rfl ?_
  refine lwD (gtr_r rfl rfl) rfl rfl rfl (fun h12 => ?_) (fun h12 => ?_)
  ·
   refine l1 (pkFB_r rfl rfl) rfl rfl rfl ?_
   refine l1 (mvB_r rfl) rfl rfl rfl ?_
   refine lwN rfl rfl rfl ?_
   refine lwN rfl rfl rfl ?_
   refine l1 (pkTB_r rfl rfl) rfl rfl rfl ?_
   refine l1 (mvB_r rfl) rfl rfl rfl ?_
   refine lwN rfl rfl rfl ?_
   refine lwN rfl rfl rfl ?_
   refine lwN rfl rfl rfl ?_
   refine l1 (pkTB_r rfl rfl) rfl rfl rfl ?_
   refine lw_nil ?_
   refine cw_true rfl ?_
   refine cw_seq ?_
   refine cw_region ?_
   refine l1 (bld_r (cs := #[.int .i64 (0), .int .i64 (0), .slice none 0 0, .slice none 0 0, .slice none 0 0, .int .i64 (0), .int .i64 (0)]) st_Part z_Part (by kernel_rfl)) rfl rfl rfl ?_
   refine stN H 0 (#[.int .i64 (0), .int .i64 (0), .slice none 0 0, .slice none 0 0, .slice none 0 0, .int .i64 (0), .int .i64 (0)]) siz_Part rfl rfl rfl rfl rfl (by kernel_rfl) (by kernel_rfl) ?_; intro w3 H
   refine l1 (asI_r rfl) rfl rfl rfl ?_
   refine lw_nil ?_
   refine cw_ret ?_
   exact finCTn (cs0 := #[.int .i64 0, .int .i64 0, .slice none 0 0, .slice none 0 0, .slice none 0 0, .int .i64 0, .int .i64 0]) (v1 := .int .i64 2) rfl agg_Part rfl (H.ent (i := 0) rfl) rfl rfl ⟨rfl, H.below⟩
  ·
   refine l1 (pkFB_r rfl rfl) rfl rfl rfl ?_
   refine l1 (mvB_r rfl) rfl rfl rfl ?_
   refine lwG rfl ?_
   refine l1 (mvI_r rfl) rfl rfl rfl ?_
   refine lwG rfl ?_
   refine lwD (lss_r rfl rfl) rfl rfl rfl (fun h16 => ?_) (fun h16 => ?_)
   ·
    refine l1 (pkFB_r rfl rfl) rfl rfl rfl ?_
    refine l1 (mvB_r rfl) rfl rfl rfl ?_
    refine lwN rfl rfl rfl ?_
    refine lwN rfl rfl rfl ?_
    refine lwN rfl rfl rfl ?_
    refine l1 (pkTB_r rfl rfl) rfl rfl rfl ?_
    refine lw_nil ?_
    refine cw_true rfl ?_
    refine cw_seq ?_
    refine cw_region ?_
    refine l1 (bld_r (cs := #[.int .i64 (0), .int .i64 (0), .slice none 0 0, .slice none 0 0, .slice none 0 0, .int .i64 (0), .int .i64 (0)]) st_Part z_Part (by kernel_rfl)) rfl rfl rfl ?_
    refine stN H 0 (#[.int .i64 (0), .int .i64 (0), .slice none 0 0, .slice none 0 0, .slice none 0 0, .int .i64 (0), .int .i64 (0)]) siz_Part rfl rfl rfl rfl rfl (by kernel_rfl) (by kernel_rfl) ?_; intro w4 H
    refine l1 (asI_r rfl) rfl rfl rfl ?_
    refine lw_nil ?_
    refine cw_ret ?_
    exact finCTn (cs0 := #[.int .i64 0, .int .i64 0, .slice none 0 0, .slice none 0 0, .slice none 0 0, .int .i64 0, .int .i64 0]) (v1 := .int .i64 2) rfl agg_Part rfl (H.ent (i := 0) rfl) rfl rfl ⟨rfl, H.below⟩
   ·
    refine l1 (pkFB_r rfl rfl) rfl rfl rfl ?_
    refine l1 (mvB_r rfl) rfl rfl rfl ?_
    refine lwG rfl ?_
    refine l1 (mvI_r rfl) rfl rfl rfl ?_
    refine lwG rfl ?_
    refine l1 (mvI_r rfl) rfl rfl rfl ?_
    refine lwG rfl ?_
    refine lwD (gtr_r rfl rfl) rfl rfl rfl (fun h21 => ?_) (fun h21 => ?_)
    ·
     refine l1 (pkFB_r rfl rfl) rfl rfl rfl ?_
     refine lw_nil ?_
     refine cw_true rfl ?_
     refine cw_seq ?_
     refine cw_region ?_
     refine l1 (bld_r (cs := #[.int .i64 (0), .int .i64 (0), .slice none 0 0, .slice none 0 0, .slice none 0 0, .int .i64 (0), .int .i64 (0)]) st_Part z_Part (by kernel_rfl)) rfl rfl rfl ?_
     refine stN H 0 (#[.int .i64 (0), .int .i64 (0), .slice none 0 0, .slice none 0 0, .slice none 0 0, .int .i64 (0), .int .i64 (0)]) siz_Part rfl rfl rfl rfl rfl (by kernel_rfl) (by kernel_rfl) ?_; intro w5 H
     refine l1 (asI_r rfl) rfl rfl rfl ?_
     refine lw_nil ?_
     refine cw_ret ?_
     exact finCTn (cs0 := #[.int .i64 0, .int .i64 0, .slice none 0 0, .slice none 0 0, .slice none 0 0, .int .i64 0, .int .i64 0]) (v1 := .int .i64 2) rfl agg_Part rfl (H.ent (i := 0) rfl) rfl rfl ⟨rfl, H.below⟩
    ·
     exfalso; omega
set_option maxHeartbeats 4000000 in
set_option maxRecDepth 10000 in
theorem pNew_ok (n few : Nat) (w : World) (hn : 1 ≤ n) (hn5 : n ≤ 5) (hf : 1 ≤ few) (hfn : few ≤ n) : Ret Try.prog i_part_New [.int .i64 (n : Nat), .int .i64 (few : Nat)] w fun v w2 => ∃ p' : Pa, v = .tuple #[p'.v, .int .i64 0] ∧ p'.a = newA n few ∧ NewPa w w2 p' := by
 refine ret_of fn_part_New rfl rfl ?_
 have H := Hp.start w
 refine cw_seq ?_
 refine cw_region ?_
 refine alo H z_Part rfl ?_; intro w1 b4 H
 refine l1 (asI_r rfl) rfl rfl rfl ?_
 refine lw_nil ?_
 refine cw_seq ?_
 refine cw_seq ?_
 refine cw_region ?_
 refine l1 (mvI_r rfl) rfl rfl rfl ?_
 refine l1 (lssF_r rfl rfl (by omega)) rfl rfl rfl ?_
 refine l1 (mvB_r rfl) rfl rfl rfl ?_
 refine lwG rfl ?_
 refine l1 (mvI_r rfl) rfl rfl rfl ?_
 refine lwG rfl ?_
 refine l1 (gtrF_r rfl rfl (by omega)) rfl rfl rfl ?_
 refine l1 (pkFB_r rfl rfl) rfl rfl rfl ?_
 refine l1 (mvB_r rfl) rfl rfl rfl ?_
 refine lwG rfl ?_
 refine l1 (mvI_r rfl) rfl rfl rfl ?_
 refine lwG rfl ?_
 refine l1 (lssF_r rfl rfl (by omega)) rfl rfl rfl ?_
 refine l1 (pkFB_r rfl rfl) rfl rfl rfl ?_
 refine l1 (mvB_r rfl) rfl rfl rfl ?_
 refine lwG rfl ?_
 refine l1 (mvI_r rfl) rfl rfl rfl ?_
 refine lwG rfl ?_
 refine l1 (mvI_r rfl) rfl rfl rfl ?_
 refine lwG rfl ?_
 refine l1 (gtrF_r rfl rfl (by omega)) rfl rfl rfl ?_
 refine l1 (pkFB_r rfl rfl) rfl rfl rfl ?_
 refine lw_nil ?_
 refine cw_false rfl ?_
 refine cw_skip ?_
 refine cw_seq ?_
 refine cw_cut (τ := Nat × Nat × Nat × Nat) [6, 24, 25, 26, 27, 28, 29, 30, 31] (fun (b6, _) => [(6, .pointer (some ⟨b6, 0, none⟩))]) (fun (b6, b25, b27, b29) w' => ∃ v1 v2 v3, Row boolL (List.replicate n false) n v1 ∧ Row intL (List.replicate n 0) n v2 ∧ Row repL (List.replicate n ⟨false, none, 0, [], 0, 0, w.heap.size, w.heap.size⟩) n v3 ∧ Hp w w' [(b6, .cells #[.int .i64 0, .int .i64 (-1), .slice (some ⟨b25, 0, none⟩) n n, .slice (some ⟨b27, 0, none⟩) n n, .slice (some ⟨b29, 0, none⟩) n n, .int .i64 ((few : Nat) : Int), .int .i64 0] T_Part (0, 0)), (b25, .cells v1 T_bool (0, 0)), (b27, .cells v2 T_int (0, 0)), (b29, .cells v3 T_Replica (0, 0)), (b4, .cells #[.int .i64 0, .int .i64 0, .slice none 0 0, .slice none 0 0, .slice none 0 0, .int .i64 0, .int .i64 0] T_Part (0, 0))] []) ?_ ?_
 ·
  skip
 
  refine cw_tree mixed [0, 2, 4, 6] [1, 3, 5, 7, 8, 9] [0, 2, 4, 6] 6 (by kernel_rfl) (by kernel_rfl) (by kernel_rfl) (fun _ _ _ h => h) ?_
  refine aw rfl rfl rfl rfl rfl (fun w' hw' => mvI_r rfl) ?_
  refine aw rfl rfl rfl rfl rfl (fun w' hw' => mvI_r rfl) ?_
  refine aw rfl rfl rfl rfl rfl (fun w' hw' => mvI_r rfl) ?_
  refine aw rfl rfl rfl rfl rfl (fun w' hw' => mvI_r rfl) ?_
  refine aw_nil ?_
  intro w2 hw'; replace H := H.later hw'; clear hw'
  refine xw4 1 3 5 8 (by kernel_rfl) rfl rfl rfl rfl ?_ ?_ ?_ ?_ 
  ·
   refine mkR (Y := boolL) (false) n H sl_Lbool info_bool rfl rfl rfl (by omega) (by omega) rfl ?_; intro w3 b25 cur25 row25 H
   refine lw_nil ?_
   refine xw3 3 5 8 (by kernel_rfl) rfl rfl rfl ?_ ?_ ?_ 
   ·
    refine mkR (Y := intL) (0) n H sl_Lint info_int rfl rfl rfl (by omega) (by omega) rfl ?_; intro w4 b27 cur27 row27 H
    refine lw_nil ?_
    refine xw2 5 8 (by kernel_rfl) rfl rfl ?_ ?_ 
    ·
     refine mkR (Y := repL) (⟨false, none, 0, [], 0, 0, w.heap.size, w.heap.size⟩) n H sl_LReplica info_rep rfl rfl rfl (by omega) (by omega) rfl ?_; intro w5 b29 cur29 row29 H
     refine lw_nil ?_
     refine xw2 7 8 (by kernel_rfl) rfl rfl ?_ ?_ 
     ·
      refine l1 (bld_r (cs := #[.int .i64 (0), .int .i64 ((-1)), .slice (some ⟨b25, 0, none⟩) n n, .slice (some ⟨b27, 0, none⟩) n n, .slice (some ⟨b29, 0, none⟩) n n, .int .i64 (((few : Nat) : Int)), .int .i64 (0)]) st_Part z_Part (by kernel_rfl)) rfl rfl rfl ?_
      refine lw_nil ?_
      refine xw1 8 (by kernel_rfl) rfl ?_ 
      refine alo H z_Part rfl ?_; intro w6 b6 H
      refine lw_nil ?_
      refine xw1 9 (by kernel_rfl) rfl ?_ 
      refine stN H 0 (#[.int .i64 (0), .int .i64 ((-1)), .slice (some ⟨b25, 0, none⟩) n n, .slice (some ⟨b27, 0, none⟩) n n, .slice (some ⟨b29, 0, none⟩) n n, .int .i64 (((few : Nat) : Int)), .int .i64 (0)]) siz_Part rfl rfl rfl rfl rfl (by kernel_rfl) (by kernel_rfl) ?_; intro w7 H
      refine lw_nil ?_
      refine xw_end (by kernel_rfl) ?_
      exact ⟨(b6, b25, b27, b29), ⟨_, _, _, row25, row27, row29, H.perm ((List.Perm.cons _ (List.Perm.cons _ (List.Perm.swap _ _ _))).trans ((List.Perm.cons _ (List.Perm.swap _ _ _)).trans (List.Perm.cons _ (List.Perm.cons _ (List.Perm.swap _ _ _)))))⟩, sl1 rfl, by repeat (first | exact Agr.refl _ _ | exact agr_ovr | refine agr_upd rfl ?_ | refine agr_updL _ rfl ?_ | refine agr_ovr2 rfl ?_)⟩
     ·
      refine alo H z_Part rfl ?_; intro w8 b6 H
      refine lw_nil ?_
      refine xw1 7 (by kernel_rfl) rfl ?_ 
      refine l1 (bld_r (cs := #[.int .i64 (0), .int .i64 ((-1)), .slice (some ⟨b25, 0, none⟩) n n, .slice (some ⟨b27, 0, none⟩) n n, .slice (some ⟨b29, 0, none⟩) n n, .int .i64 (((few : Nat) : Int)), .int .i64 (0)]) st_Part z_Part (by kernel_rfl)) rfl rfl rfl ?_
      refine lw_nil ?_
      refine xw1 9 (by kernel_rfl) rfl ?_ 
      refine stN H 0 (#[.int .i64 (0), .int .i64 ((-1)), .slice (some ⟨b25, 0, none⟩) n n, .slice (some ⟨b27, 0, none⟩) n n, .slice (some ⟨b29, 0, none⟩) n n, .int .i64 (((few : Nat) : Int)), .int .i64 (0)]) siz_Part rfl rfl rfl rfl rfl (by kernel_rfl) (by kernel_rfl) ?_; intro w9 H
      refine lw_nil ?_
      refine xw_end (by kernel_rfl) ?_
      exact ⟨(b6, b25, b27, b29), ⟨_, _, _, row25, row27, row29, H.perm ((List.Perm.cons _ (List.Perm.cons _ (List.Perm.swap _ _ _))).trans ((List.Perm.cons _ (List.Perm.swap _ _ _)).trans (List.Perm.cons _ (List.Perm.cons _ (List.Perm.swap _ _ _)))))⟩, sl1 rfl, by repeat (first | exact Agr.refl _ _ | exact agr_ovr | refine agr_upd rfl ?_ | refine agr_updL _ rfl ?_ | refine agr_ovr2 rfl ?_)⟩
    ·
     refine alo H z_Part rfl ?_; intro w10 b6 H
     refine lw_nil ?_
     refine xw1 5 (by kernel_rfl) rfl ?_ 
     refine mkR (Y := repL) (⟨false, none, 0, [], 0, 0, w.heap.size, w.heap.size⟩) n H sl_LReplica info_rep rfl rfl rfl (by omega) (by omega) rfl ?_; intro w11 b29 cur29 row29 H
     refine lw_nil ?_
     refine xw1 7 (by kernel_rfl) rfl ?_ 
     refine l1 (bld_r (cs := #[.int .i64 (0), .int .i64 ((-1)), .slice (some ⟨b25, 0, none⟩) n n, .slice (some ⟨b27, 0, none⟩) n n, .slice (some ⟨b29, 0, none⟩) n n, .int .i64 (((few : Nat) : Int)), .int .i64 (0)]) st_Part z_Part (by kernel_rfl)) rfl rfl rfl ?_
     refine lw_nil ?_
     refine xw1 9 (by kernel_rfl) rfl ?_ 
     refine stN H 1 (#[.int .i64 (0), .int .i64 ((-1)), .slice (some ⟨b25, 0, none⟩) n n, .slice (some ⟨b27, 0, none⟩) n n, .slice (some ⟨b29, 0, none⟩) n n, .int .i64 (((few : Nat) : Int)), .int .i64 (0)]) siz_Part rfl rfl rfl rfl rfl (by kernel_rfl) (by kernel_rfl) ?_; intro w12 H
     refine lw_nil ?_
     refine xw_end (by kernel_rfl) ?_
     exact ⟨(b6, b25, b27, b29), ⟨_, _, _, row25, row27, row29, H.perm ((List.Perm.cons _ (List.Perm.cons _ (List.Perm.swap _ _ _))).trans ((List.Perm.cons _ (List.Perm.swap _ _ _)).trans ((List.Perm.swap _ _ _).trans (List.Perm.cons _ (List.Perm.cons _ (List.Perm.swap _ _ _))))))⟩, sl1 rfl, by repeat (first | exact Agr.refl _ _ | exact agr_ovr | refine agr_upd rfl ?_ | refine agr_updL _ rfl ?_ | refine agr_ovr2 rfl ?_)⟩
   ·
    refine mkR (Y := repL) (⟨false, none, 0, [], 0, 0, w.heap.size, w.heap.size⟩) n H sl_LReplica info_rep rfl rfl rfl (by omega) (by omega) rfl ?_; intro w13 b29 cur29 row29 H
    refine lw_nil ?_
    refine xw2 3 8 (by kernel_rfl) rfl rfl ?_ ?_ 
    ·
     refine mkR (Y := intL) (0) n H sl_Lint info_int rfl rfl rfl (by omega) (by omega) rfl ?_; intro w14 b27 cur27 row27 H
     refine lw_nil ?_
     refine xw2 7 8 (by kernel_rfl) rfl rfl ?_ ?_ 
     ·
      refine l1 (bld_r (cs := #[.int .i64 (0), .int .i64 ((-1)), .slice (some ⟨b25, 0, none⟩) n n, .slice (some ⟨b27, 0, none⟩) n n, .slice (some ⟨b29, 0, none⟩) n n, .int .i64 (((few : Nat) : Int)), .int .i64 (0)]) st_Part z_Part (by kernel_rfl)) rfl rfl rfl ?_
      refine lw_nil ?_
      refine xw1 8 (by kernel_rfl) rfl ?_ 
      refine alo H z_Part rfl ?_; intro w15 b6 H
      refine lw_nil ?_
      refine xw1 9 (by kernel_rfl) rfl ?_ 
      refine stN H 0 (#[.int .i64 (0), .int .i64 ((-1)), .slice (some ⟨b25, 0, none⟩) n n, .slice (some ⟨b27, 0, none⟩) n n, .slice (some ⟨b29, 0, none⟩) n n, .int .i64 (((few : Nat) : Int)), .int .i64 (0)]) siz_Part rfl rfl rfl rfl rfl (by kernel_rfl) (by kernel_rfl) ?_; intro w16 H
      refine lw_nil ?_
      refine xw_end (by kernel_rfl) ?_
      exact ⟨(b6, b25, b27, b29), ⟨_, _, _, row25, row27, row29, H.perm ((List.Perm.cons _ (List.Perm.swap _ _ _)).trans (List.Perm.cons _ (List.Perm.cons _ (List.Perm.swap _ _ _))))⟩, sl1 rfl, by repeat (first | exact Agr.refl _ _ | exact agr_ovr | refine agr_upd rfl ?_ | refine agr_updL _ rfl ?_ | refine agr_ovr2 rfl ?_)⟩
     ·
      refine alo H z_Part rfl ?_; intro w17 b6 H
      refine lw_nil ?_
      refine xw1 7 (by kernel_rfl) rfl ?_ 
      refine l1 (bld_r (cs := #[.int .i64 (0), .int .i64 ((-1)), .slice (some ⟨b25, 0, none⟩) n n, .slice (some ⟨b27, 0, none⟩) n n, .slice (some ⟨b29, 0, none⟩) n n, .int .i64 (((few : Nat) : Int)), .int .i64 (0)]) st_Part z_Part (by kernel_rfl)) rfl rfl rfl ?_
      refine lw_nil ?_
      refine xw1 9 (by kernel_rfl) rfl ?_ 
      refine stN H 0 (#[.int .i64 (0), .int .i64 ((-1)), .slice (some ⟨b25, 0, none⟩) n n, .slice (some ⟨b27, 0, none⟩) n n, .slice (some ⟨b29, 0, none⟩) n n, .int .i64 (((few : Nat) : Int)), .int .i64 (0)]) siz_Part rfl rfl rfl rfl rfl (by kernel_rfl) (by kernel_rfl) ?_; intro w18 H
      refine lw_nil ?_
      refine xw_end (by kernel_rfl) ?_
      exact ⟨(b6, b25, b27, b29), ⟨_, _, _, row25, row27, row29, H.perm ((List.Perm.cons _ (List.Perm.swap _ _ _)).trans (List.Perm.cons _ (List.Perm.cons _ (List.Perm.swap _ _ _))))⟩, sl1 rfl, by repeat (first | exact Agr.refl _ _ | exact agr_ovr | refine agr_upd rfl ?_ | refine agr_updL _ rfl ?_ | refine agr_ovr2 rfl ?_)⟩
    ·
     refine alo H z_Part rfl ?_; intro w19 b6 H
     refine lw_nil ?_
     refine xw1 3 (by kernel_rfl) rfl ?_ 
     refine mkR (Y := intL) (0) n H sl_Lint info_int rfl rfl rfl (by omega) (by omega) rfl ?_; intro w20 b27 cur27 row27 H
     refine lw_nil ?_
     refine xw1 7 (by kernel_rfl) rfl ?_ 
     refine l1 (bld_r (cs := #[.int .i64 (0), .int .i64 ((-1)), .slice (some ⟨b25, 0, none⟩) n n, .slice (some ⟨b27, 0, none⟩) n n, .slice (some ⟨b29, 0, none⟩) n n, .int .i64 (((few : Nat) : Int)), .int .i64 (0)]) st_Part z_Part (by kernel_rfl)) rfl rfl rfl ?_
     refine lw_nil ?_
     refine xw1 9 (by kernel_rfl) rfl ?_ 
     refine stN H 1 (#[.int .i64 (0), .int .i64 ((-1)), .slice (some ⟨b25, 0, none⟩) n n, .slice (some ⟨b27, 0, none⟩) n n, .slice (some ⟨b29, 0, none⟩) n n, .int .i64 (((few : Nat) : Int)), .int .i64 (0)]) siz_Part rfl rfl rfl rfl rfl (by kernel_rfl) (by kernel_rfl) ?_; intro w21 H
     refine lw_nil ?_
     refine xw_end (by kernel_rfl) ?_
     exact ⟨(b6, b25, b27, b29), ⟨_, _, _, row25, row27, row29, H.perm ((List.Perm.cons _ (List.Perm.swap _ _ _)).trans ((List.Perm.swap _ _ _).trans (List.Perm.cons _ (List.Perm.cons _ (List.Perm.swap _ _ _)))))⟩, sl1 rfl, by repeat (first | exact Agr.refl _ _ | exact agr_ovr | refine agr_upd rfl ?_ | refine agr_updL _ rfl ?_ | refine agr_ovr2 rfl ?_)⟩
   ·
    refine alo H z_Part rfl ?_; intro w22 b6 H
    refine lw_nil ?_
    refine xw2 3 5 (by kernel_rfl) rfl rfl ?_ ?_ 
    ·
     refine mkR (Y := intL) (0) n H sl_Lint info_int rfl rfl rfl (by omega) (by omega) rfl ?_; intro w23 b27 cur27 row27 H
     refine lw_nil ?_
     refine xw1 5 (by kernel_rfl) rfl ?_ 
     refine mkR (Y := repL) (⟨false, none, 0, [], 0, 0, w.heap.size, w.heap.size⟩) n H sl_LReplica info_rep rfl rfl rfl (by omega) (by omega) rfl ?_; intro w24 b29 cur29 row29 H
     refine lw_nil ?_
     refine xw1 7 (by kernel_rfl) rfl ?_ 
     refine l1 (bld_r (cs := #[.int .i64 (0), .int .i64 ((-1)), .slice (some ⟨b25, 0, none⟩) n n, .slice (some ⟨b27, 0, none⟩) n n, .slice (some ⟨b29, 0, none⟩) n n, .int .i64 (((few : Nat) : Int)), .int .i64 (0)]) st_Part z_Part (by kernel_rfl)) rfl rfl rfl ?_
     refine lw_nil ?_
     refine xw1 9 (by kernel_rfl) rfl ?_ 
     refine stN H 2 (#[.int .i64 (0), .int .i64 ((-1)), .slice (some ⟨b25, 0, none⟩) n n, .slice (some ⟨b27, 0, none⟩) n n, .slice (some ⟨b29, 0, none⟩) n n, .int .i64 (((few : Nat) : Int)), .int .i64 (0)]) siz_Part rfl rfl rfl rfl rfl (by kernel_rfl) (by kernel_rfl) ?_; intro w25 H
     refine lw_nil ?_
     refine xw_end (by kernel_rfl) ?_
     exact ⟨(b6, b25, b27, b29), ⟨_, _, _, row25, row27, row29, H.perm ((List.Perm.cons _ (List.Perm.cons _ (List.Perm.swap _ _ _))).trans ((List.Perm.cons _ (List.Perm.swap _ _ _)).trans ((List.Perm.swap _ _ _).trans ((List.Perm.cons _ (List.Perm.cons _ (List.Perm.swap _ _ _))).trans (List.Perm.cons _ (List.Perm.swap _ _ _))))))⟩, sl1 rfl, by repeat (first | exact Agr.refl _ _ | exact agr_ovr | refine agr_upd rfl ?_ | refine agr_updL _ rfl ?_ | refine agr_ovr2 rfl ?_)⟩
    ·
     refine mkR (Y := repL) (⟨false, none, 0, [], 0, 0, w.heap.size, w.heap.size⟩) n H sl_LReplica info_rep rfl rfl rfl (by omega) (by omega) rfl ?_; intro w26 b29 cur29 row29 H
     refine lw_nil ?_
     refine xw1 3 (by kernel_rfl) rfl ?_ 
     refine mkR (Y := intL) (0) n H sl_Lint info_int rfl rfl rfl (by omega) (by omega) rfl ?_; intro w27 b27 cur27 row27 H
     refine lw_nil ?_
     refine xw1 7 (by kernel_rfl) rfl ?_ 
     refine l1 (bld_r (cs := #[.int .i64 (0), .int .i64 ((-1)), .slice (some ⟨b25, 0, none⟩) n n, .slice (some ⟨b27, 0, none⟩) n n, .slice (some ⟨b29, 0, none⟩) n n, .int .i64 (((few : Nat) : Int)), .int .i64 (0)]) st_Part z_Part (by kernel_rfl)) rfl rfl rfl ?_
     refine lw_nil ?_
     refine xw1 9 (by kernel_rfl) rfl ?_ 
     refine stN H 2 (#[.int .i64 (0), .int .i64 ((-1)), .slice (some ⟨b25, 0, none⟩) n n, .slice (some ⟨b27, 0, none⟩) n n, .slice (some ⟨b29, 0, none⟩) n n, .int .i64 (((few : Nat) : Int)), .int .i64 (0)]) siz_Part rfl rfl rfl rfl rfl (by kernel_rfl) (by kernel_rfl) ?_; intro w28 H
     refine lw_nil ?_
     refine xw_end (by kernel_rfl) ?_
     exact ⟨(b6, b25, b27, b29), ⟨_, _, _, row25, row27, row29, H.perm ((List.Perm.cons _ (List.Perm.swap _ _ _)).trans ((List.Perm.swap _ _ _).trans ((List.Perm.cons _ (List.Perm.cons _ (List.Perm.swap _ _ _))).trans (List.Perm.cons _ (List.Perm.swap _ _ _)))))⟩, sl1 rfl, by repeat (first | exact Agr.refl _ _ | exact agr_ovr | refine agr_upd rfl ?_ | refine agr_updL _ rfl ?_ | refine agr_ovr2 rfl ?_)⟩
  ·
   refine mkR (Y := intL) (0) n H sl_Lint info_int rfl rfl rfl (by omega) (by omega) rfl ?_; intro w29 b27 cur27 row27 H
   refine lw_nil ?_
   refine xw3 1 5 8 (by kernel_rfl) rfl rfl rfl ?_ ?_ ?_ 
   ·
    refine mkR (Y := boolL) (false) n H sl_Lbool info_bool rfl rfl rfl (by omega) (by omega) rfl ?_; intro w30 b25 cur25 row25 H
    refine lw_nil ?_
    refine xw2 5 8 (by kernel_rfl) rfl rfl ?_ ?_ 
    ·
     refine mkR (Y := repL) (⟨false, none, 0, [], 0, 0, w.heap.size, w.heap.size⟩) n H sl_LReplica info_rep rfl rfl rfl (by omega) (by omega) rfl ?_; intro w31 b29 cur29 row29 H
     refine lw_nil ?_
     refine xw2 7 8 (by kernel_rfl) rfl rfl ?_ ?_ 
     ·
      refine l1 (bld_r (cs := #[.int .i64 (0), .int .i64 ((-1)), .slice (some ⟨b25, 0, none⟩) n n, .slice (some ⟨b27, 0, none⟩) n n, .slice (some ⟨b29, 0, none⟩) n n, .int .i64 (((few : Nat) : Int)), .int .i64 (0)]) st_Part z_Part (by kernel_rfl)) rfl rfl rfl ?_
      refine lw_nil ?_
      refine xw1 8 (by kernel_rfl) rfl ?_ 
      refine alo H z_Part rfl ?_; intro w32 b6 H
      refine lw_nil ?_
      refine xw1 9 (by kernel_rfl) rfl ?_ 
      refine stN H 0 (#[.int .i64 (0), .int .i64 ((-1)), .slice (some ⟨b25, 0, none⟩) n n, .slice (some ⟨b27, 0, none⟩) n n, .slice (some ⟨b29, 0, none⟩) n n, .int .i64 (((few : Nat) : Int)), .int .i64 (0)]) siz_Part rfl rfl rfl rfl rfl (by kernel_rfl) (by kernel_rfl) ?_; intro w33 H
      refine lw_nil ?_
      refine xw_end (by kernel_rfl) ?_
      exact ⟨(b6, b25, b27, b29), ⟨_, _, _, row25, row27, row29, H.perm ((List.Perm.cons _ (List.Perm.cons _ (List.Perm.swap _ _ _))).trans (List.Perm.cons _ (List.Perm.swap _ _ _)))⟩, sl1 rfl, by repeat (first | exact Agr.refl _ _ | exact agr_ovr | refine agr_upd rfl ?_ | refine agr_updL _ rfl ?_ | refine agr_ovr2 rfl ?_)⟩
     ·
      refine alo H z_Part rfl ?_; intro w34 b6 H
      refine lw_nil ?_
      refine xw1 7 (by kernel_rfl) rfl ?_ 
      refine l1 (bld_r (cs := #[.int .i64 (0), .int .i64 ((-1)), .slice (some ⟨b25, 0, none⟩) n n, .slice (some ⟨b27, 0, none⟩) n n, .slice (some ⟨b29, 0, none⟩) n n, .int .i64 (((few : Nat) : Int)), .int .i64 (0)]) st_Part z_Part (by kernel_rfl)) rfl rfl rfl ?_
      refine lw_nil ?_
      refine xw1 9 (by kernel_rfl) rfl ?_ 
      refine stN H 0 (#[.int .i64 (0), .int .i64 ((-1)), .slice (some ⟨b25, 0, none⟩) n n, .slice (some ⟨b27, 0, none⟩) n n, .slice (some ⟨b29, 0, none⟩) n n, .int .i64 (((few : Nat) : Int)), .int .i64 (0)]) siz_Part rfl rfl rfl rfl rfl (by kernel_rfl) (by kernel_rfl) ?_; intro w35 H
      refine lw_nil ?_
      refine xw_end (by kernel_rfl) ?_
      exact ⟨(b6, b25, b27, b29), ⟨_, _, _, row25, row27, row29, H.perm ((List.Perm.cons _ (List.Perm.cons _ (List.Perm.swap _ _ _))).trans (List.Perm.cons _ (List.Perm.swap _ _ _)))⟩, sl1 rfl, by repeat (first | exact Agr.refl _ _ | exact agr_ovr | refine agr_upd rfl ?_ | refine agr_updL _ rfl ?_ | refine agr_ovr2 rfl ?_)⟩
    ·
     refine alo H z_Part rfl ?_; intro w36 b6 H
     refine lw_nil ?_
     refine xw1 5 (by kernel_rfl) rfl ?_ 
     refine mkR (Y := repL) (⟨false, none, 0, [], 0, 0, w.heap.size, w.heap.size⟩) n H sl_LReplica info_rep rfl rfl rfl (by omega) (by omega) rfl ?_; intro w37 b29 cur29 row29 H
     refine lw_nil ?_
     refine xw1 7 (by kernel_rfl) rfl ?_ 
     refine l1 (bld_r (cs := #[.int .i64 (0), .int .i64 ((-1)), .slice (some ⟨b25, 0, none⟩) n n, .slice (some ⟨b27, 0, none⟩) n n, .slice (some ⟨b29, 0, none⟩) n n, .int .i64 (((few : Nat) : Int)), .int .i64 (0)]) st_Part z_Part (by kernel_rfl)) rfl rfl rfl ?_
     refine lw_nil ?_
     refine xw1 9 (by kernel_rfl) rfl ?_ 
     refine stN H 1 (#[.int .i64 (0), .int .i64 ((-1)), .slice (some ⟨b25, 0, none⟩) n n, .slice (some ⟨b27, 0, none⟩) n n, .slice (some ⟨b29, 0, none⟩) n n, .int .i64 (((few : Nat) : Int)), .int .i64 (0)]) siz_Part rfl rfl rfl rfl rfl (by kernel_rfl) (by kernel_rfl) ?_; intro w38 H
     refine lw_nil ?_
     refine xw_end (by kernel_rfl) ?_
     exact ⟨(b6, b25, b27, b29), ⟨_, _, _, row25, row27, row29, H.perm ((List.Perm.cons _ (List.Perm.cons _ (List.Perm.swap _ _ _))).trans ((List.Perm.cons _ (List.Perm.swap _ _ _)).trans (List.Perm.swap _ _ _)))⟩, sl1 rfl, by repeat (first | exact Agr.refl _ _ | exact agr_ovr | refine agr_upd rfl ?_ | refine agr_updL _ rfl ?_ | refine agr_ovr2 rfl ?_)⟩
   ·
    refine mkR (Y := repL) (⟨false, none, 0, [], 0, 0, w.heap.size, w.heap.size⟩) n H sl_LReplica info_rep rfl rfl rfl (by omega) (by omega) rfl ?_; intro w39 b29 cur29 row29 H
    refine lw_nil ?_
    refine xw2 1 8 (by kernel_rfl) rfl rfl ?_ ?_ 
    ·
     refine mkR (Y := boolL) (false) n H sl_Lbool info_bool rfl rfl rfl (by omega) (by omega) rfl ?_; intro w40 b25 cur25 row25 H
     refine lw_nil ?_
     refine xw2 7 8 (by kernel_rfl) rfl rfl ?_ ?_ 
     ·
      refine l1 (bld_r (cs := #[.int .i64 (0), .int .i64 ((-1)), .slice (some ⟨b25, 0, none⟩) n n, .slice (some ⟨b27, 0, none⟩) n n, .slice (some ⟨b29, 0, none⟩) n n, .int .i64 (((few : Nat) : Int)), .int .i64 (0)]) st_Part z_Part (by kernel_rfl)) rfl rfl rfl ?_
      refine lw_nil ?_
      refine xw1 8 (by kernel_rfl) rfl ?_ 
      refine alo H z_Part rfl ?_; intro w41 b6 H
      refine lw_nil ?_
      refine xw1 9 (by kernel_rfl) rfl ?_ 
      refine stN H 0 (#[.int .i64 (0), .int .i64 ((-1)), .slice (some ⟨b25, 0, none⟩) n n, .slice (some ⟨b27, 0, none⟩) n n, .slice (some ⟨b29, 0, none⟩) n n, .int .i64 (((few : Nat) : Int)), .int .i64 (0)]) siz_Part rfl rfl rfl rfl rfl (by kernel_rfl) (by kernel_rfl) ?_; intro w42 H
      refine lw_nil ?_
      refine xw_end (by kernel_rfl) ?_
      exact ⟨(b6, b25, b27, b29), ⟨_, _, _, row25, row27, row29, H.perm (List.Perm.cons _ (List.Perm.cons _ (List.Perm.swap _ _ _)))⟩, sl1 rfl, by repeat (first | exact Agr.refl _ _ | exact agr_ovr | refine agr_upd rfl ?_ | refine agr_updL _ rfl ?_ | refine agr_ovr2 rfl ?_)⟩
     ·
      refine alo H z_Part rfl ?_; intro w43 b6 H
      refine lw_nil ?_
      refine xw1 7 (by kernel_rfl) rfl ?_ 
      refine l1 (bld_r (cs := #[.int .i64 (0), .int .i64 ((-1)), .slice (some ⟨b25, 0, none⟩) n n, .slice (some ⟨b27, 0, none⟩) n n, .slice (some ⟨b29, 0, none⟩) n n, .int .i64 (((few : Nat) : Int)), .int .i64 (0)]) st_Part z_Part (by kernel_rfl)) rfl rfl rfl ?_
      refine lw_nil ?_
      refine xw1 9 (by kernel_rfl) rfl ?_ 
      refine stN H 0 (#[.int .i64 (0), .int .i64 ((-1)), .slice (some ⟨b25, 0, none⟩) n n, .slice (some ⟨b27, 0, none⟩) n n, .slice (some ⟨b29, 0, none⟩) n n, .int .i64 (((few : Nat) : Int)), .int .i64 (0)]) siz_Part rfl rfl rfl rfl rfl (by kernel_rfl) (by kernel_rfl) ?_; intro w44 H
      refine lw_nil ?_
      refine xw_end (by kernel_rfl) ?_
      exact ⟨(b6, b25, b27, b29), ⟨_, _, _, row25, row27, row29, H.perm (List.Perm.cons _ (List.Perm.cons _ (List.Perm.swap _ _ _)))⟩, sl1 rfl, by repeat (first | exact Agr.refl _ _ | exact agr_ovr | refine agr_upd rfl ?_ | refine agr_updL _ rfl ?_ | refine agr_ovr2 rfl ?_)⟩
    ·
     refine alo H z_Part rfl ?_; intro w45 b6 H
     refine lw_nil ?_
     refine xw1 1 (by kernel_rfl) rfl ?_ 
     refine mkR (Y := boolL) (false) n H sl_Lbool info_bool rfl rfl rfl (by omega) (by omega) rfl ?_; intro w46 b25 cur25 row25 H
     refine lw_nil ?_
     refine xw1 7 (by kernel_rfl) rfl ?_ 
     refine l1 (bld_r (cs := #[.int .i64 (0), .int .i64 ((-1)), .slice (some ⟨b25, 0, none⟩) n n, .slice (some ⟨b27, 0, none⟩) n n, .slice (some ⟨b29, 0, none⟩) n n, .int .i64 (((few : Nat) : Int)), .int .i64 (0)]) st_Part z_Part (by kernel_rfl)) rfl rfl rfl ?_
     refine lw_nil ?_
     refine xw1 9 (by kernel_rfl) rfl ?_ 
     refine stN H 1 (#[.int .i64 (0), .int .i64 ((-1)), .slice (some ⟨b25, 0, none⟩) n n, .slice (some ⟨b27, 0, none⟩) n n, .slice (some ⟨b29, 0, none⟩) n n, .int .i64 (((few : Nat) : Int)), .int .i64 (0)]) siz_Part rfl rfl rfl rfl rfl (by kernel_rfl) (by kernel_rfl) ?_; intro w47 H
     refine lw_nil ?_
     refine xw_end (by kernel_rfl) ?_
     exact ⟨(b6, b25, b27, b29), ⟨_, _, _, row25, row27, row29, H.perm ((List.Perm.swap _ _ _).trans (List.Perm.cons _ (List.Perm.cons _ (List.Perm.swap _ _ _))))⟩, sl1 rfl, by repeat (first | exact Agr.refl _ _ | exact agr_ovr | refine agr_upd rfl ?_ | refine agr_updL _ rfl ?_ | refine agr_ovr2 rfl ?_)⟩
   ·
    refine alo H z_Part rfl ?_; intro w48 b6 H
    refine lw_nil ?_
    refine xw2 1 5 (by kernel_rfl) rfl rfl ?_ ?_ 
    ·
     refine mkR (Y := boolL) (false) n H sl_Lbool info_bool rfl rfl rfl (by omega) (by omega) rfl ?_; intro w49 b25 cur25 row25 H
     refine lw_nil ?_
     refine xw1 5 (by kernel_rfl) rfl ?_ 
     refine mkR (Y := repL) (⟨false, none, 0, [], 0, 0, w.heap.size, w.heap.size⟩) n H sl_LReplica info_rep rfl rfl rfl (by omega) (by omega) rfl ?_; intro w50 b29 cur29 row29 H
     refine lw_nil ?_
     refine xw1 7 (by kernel_rfl) rfl ?_ 
     refine l1 (bld_r (cs := #[.int .i64 (0), .int .i64 ((-1)), .slice (some ⟨b25, 0, none⟩) n n, .slice (some ⟨b27, 0, none⟩) n n, .slice (some ⟨b29, 0, none⟩) n n, .int .i64 (((few : Nat) : Int)), .int .i64 (0)]) st_Part z_Part (by kernel_rfl)) rfl rfl rfl ?_
     refine lw_nil ?_
     refine xw1 9 (by kernel_rfl) rfl ?_ 
     refine stN H 2 (#[.int .i64 (0), .int .i64 ((-1)), .slice (some ⟨b25, 0, none⟩) n n, .slice (some ⟨b27, 0, none⟩) n n, .slice (some ⟨b29, 0, none⟩) n n, .int .i64 (((few : Nat) : Int)), .int .i64 (0)]) siz_Part rfl rfl rfl rfl rfl (by kernel_rfl) (by kernel_rfl) ?_; intro w51 H
     refine lw_nil ?_
     refine xw_end (by kernel_rfl) ?_
     exact ⟨(b6, b25, b27, b29), ⟨_, _, _, row25, row27, row29, H.perm ((List.Perm.cons _ (List.Perm.cons _ (List.Perm.swap _ _ _))).trans ((List.Perm.cons _ (List.Perm.swap _ _ _)).trans ((List.Perm.swap _ _ _).trans (List.Perm.cons _ (List.Perm.swap _ _ _)))))⟩, sl1 rfl, by repeat (first | exact Agr.refl _ _ | exact agr_ovr | refine agr_upd rfl ?_ | refine agr_updL _ rfl ?_ | refine agr_ovr2 rfl ?_)⟩
    ·
     refine mkR (Y := repL) (⟨false, none, 0, [], 0, 0, w.heap.size, w.heap.size⟩) n H sl_LReplica info_rep rfl rfl rfl (by omega) (by omega) rfl ?_; intro w52 b29 cur29 row29 H
     refine lw_nil ?_
     refine xw1 1 (by kernel_rfl) rfl ?_ 
     refine mkR (Y := boolL) (false) n H sl_Lbool info_bool rfl rfl rfl (by omega) (by omega) rfl ?_; intro w53 b25 cur25 row25 H
     refine lw_nil ?_
     refine xw1 7 (by kernel_rfl) rfl ?_ 
     refine l1 (bld_r (cs := #[.int .i64 (0), .int .i64 ((-1)), .slice (some ⟨b25, 0, none⟩) n n, .slice (some ⟨b27, 0, none⟩) n n, .slice (some ⟨b29, 0, none⟩) n n, .int .i64 (((few : Nat) : Int)), .int .i64 (0)]) st_Part z_Part (by kernel_rfl)) rfl rfl rfl ?_
     refine lw_nil ?_
     refine xw1 9 (by kernel_rfl) rfl ?_ 
     refine stN H 2 (#[.int .i64 (0), .int .i64 ((-1)), .slice (some ⟨b25, 0, none⟩) n n, .slice (some ⟨b27, 0, none⟩) n n, .slice (some ⟨b29, 0, none⟩) n n, .int .i64 (((few : Nat) : Int)), .int .i64 (0)]) siz_Part rfl rfl rfl rfl rfl (by kernel_rfl) (by kernel_rfl) ?_; intro w54 H
     refine lw_nil ?_
     refine xw_end (by kernel_rfl) ?_
     exact ⟨(b6, b25, b27, b29), ⟨_, _, _, row25, row27, row29, H.perm ((List.Perm.swap _ _ _).trans ((List.Perm.cons _ (List.Perm.cons _ (List.Perm.swap _ _ _))).trans (List.Perm.cons _ (List.Perm.swap _ _ _))))⟩, sl1 rfl, by repeat (first | exact Agr.refl _ _ | exact agr_ovr | refine agr_upd rfl ?_ | refine agr_updL _ rfl ?_ | refine agr_ovr2 rfl ?_)⟩
  ·
   refine mkR (Y := repL) (⟨false, none, 0, [], 0, 0, w.heap.size, w.heap.size⟩) n H sl_LReplica info_rep rfl rfl rfl (by omega) (by omega) rfl ?_; intro w55 b29 cur29 row29 H
   refine lw_nil ?_
   refine xw3 1 3 8 (by kernel_rfl) rfl rfl rfl ?_ ?_ ?_ 
   ·
    refine mkR (Y := boolL) (false) n H sl_Lbool info_bool rfl rfl rfl (by omega) (by omega) rfl ?_; intro w56 b25 cur25 row25 H
    refine lw_nil ?_
    refine xw2 3 8 (by kernel_rfl) rfl rfl ?_ ?_ 
    ·
     refine mkR (Y := intL) (0) n H sl_Lint info_int rfl rfl rfl (by omega) (by omega) rfl ?_; intro w57 b27 cur27 row27 H
     refine lw_nil ?_
     refine xw2 7 8 (by kernel_rfl) rfl rfl ?_ ?_ 
     ·
      refine l1 (bld_r (cs := #[.int .i64 (0), .int .i64 ((-1)), .slice (some ⟨b25, 0, none⟩) n n, .slice (some ⟨b27, 0, none⟩) n n, .slice (some ⟨b29, 0, none⟩) n n, .int .i64 (((few : Nat) : Int)), .int .i64 (0)]) st_Part z_Part (by kernel_rfl)) rfl rfl rfl ?_
      refine lw_nil ?_
      refine xw1 8 (by kernel_rfl) rfl ?_ 
      refine alo H z_Part rfl ?_; intro w58 b6 H
      refine lw_nil ?_
      refine xw1 9 (by kernel_rfl) rfl ?_ 
      refine stN H 0 (#[.int .i64 (0), .int .i64 ((-1)), .slice (some ⟨b25, 0, none⟩) n n, .slice (some ⟨b27, 0, none⟩) n n, .slice (some ⟨b29, 0, none⟩) n n, .int .i64 (((few : Nat) : Int)), .int .i64 (0)]) siz_Part rfl rfl rfl rfl rfl (by kernel_rfl) (by kernel_rfl) ?_; intro w59 H
      refine lw_nil ?_
      refine xw_end (by kernel_rfl) ?_
      exact ⟨(b6, b25, b27, b29), ⟨_, _, _, row25, row27, row29, H.perm (List.Perm.cons _ (List.Perm.swap _ _ _))⟩, sl1 rfl, by repeat (first | exact Agr.refl _ _ | exact agr_ovr | refine agr_upd rfl ?_ | refine agr_updL _ rfl ?_ | refine agr_ovr2 rfl ?_)⟩
     ·
      refine alo H z_Part rfl ?_; intro w60 b6 H
      refine lw_nil ?_
      refine xw1 7 (by kernel_rfl) rfl ?_ 
      refine l1 (bld_r (cs := #[.int .i64 (0), .int .i64 ((-1)), .slice (some ⟨b25, 0, none⟩) n n, .slice (some ⟨b27, 0, none⟩) n n, .slice (some ⟨b29, 0, none⟩) n n, .int .i64 (((few : Nat) : Int)), .int .i64 (0)]) st_Part z_Part (by kernel_rfl)) rfl rfl rfl ?_
      refine lw_nil ?_
      refine xw1 9 (by kernel_rfl) rfl ?_ 
      refine stN H 0 (#[.int .i64 (0), .int .i64 ((-1)), .slice (some ⟨b25, 0, none⟩) n n, .slice (some ⟨b27, 0, none⟩) n n, .slice (some ⟨b29, 0, none⟩) n n, .int .i64 (((few : Nat) : Int)), .int .i64 (0)]) siz_Part rfl rfl rfl rfl rfl (by kernel_rfl) (by kernel_rfl) ?_; intro w61 H
      refine lw_nil ?_
      refine xw_end (by kernel_rfl) ?_
      exact ⟨(b6, b25, b27, b29), ⟨_, _, _, row25, row27, row29, H.perm (List.Perm.cons _ (List.Perm.swap _ _ _))⟩, sl1 rfl, by repeat (first | exact Agr.refl _ _ | exact agr_ovr | refine agr_upd rfl ?_ | refine agr_updL _ rfl ?_ | refine agr_ovr2 rfl ?_)⟩
    ·
     refine alo H z_Part rfl ?_; intro w62 b6 H
     refine lw_nil ?_
     refine xw1 3 (by kernel_rfl) rfl ?_ 
     refine mkR (Y := intL) (0) n H sl_Lint info_int rfl rfl rfl (by omega) (by omega) rfl ?_; intro w63 b27 cur27 row27 H
     refine lw_nil ?_
     refine xw1 7 (by kernel_rfl) rfl ?_ 
     refine l1 (bld_r (cs := #[.int .i64 (0), .int .i64 ((-1)), .slice (some ⟨b25, 0, none⟩) n n, .slice (some ⟨b27, 0, none⟩) n n, .slice (some ⟨b29, 0, none⟩) n n, .int .i64 (((few : Nat) : Int)), .int .i64 (0)]) st_Part z_Part (by kernel_rfl)) rfl rfl rfl ?_
     refine lw_nil ?_
     refine xw1 9 (by kernel_rfl) rfl ?_ 
     refine stN H 1 (#[.int .i64 (0), .int .i64 ((-1)), .slice (some ⟨b25, 0, none⟩) n n, .slice (some ⟨b27, 0, none⟩) n n, .slice (some ⟨b29, 0, none⟩) n n, .int .i64 (((few : Nat) : Int)), .int .i64 (0)]) siz_Part rfl rfl rfl rfl rfl (by kernel_rfl) (by kernel_rfl) ?_; intro w64 H
     refine lw_nil ?_
     refine xw_end (by kernel_rfl) ?_
     exact ⟨(b6, b25, b27, b29), ⟨_, _, _, row25, row27, row29, H.perm ((List.Perm.cons _ (List.Perm.swap _ _ _)).trans (List.Perm.swap _ _ _))⟩, sl1 rfl, by repeat (first | exact Agr.refl _ _ | exact agr_ovr | refine agr_upd rfl ?_ | refine agr_updL _ rfl ?_ | refine agr_ovr2 rfl ?_)⟩
   ·
    refine mkR (Y := intL) (0) n H sl_Lint info_int rfl rfl rfl (by omega) (by omega) rfl ?_; intro w65 b27 cur27 row27 H
    refine lw_nil ?_
    refine xw2 1 8 (by kernel_rfl) rfl rfl ?_ ?_ 
    ·
     refine mkR (Y := boolL) (false) n H sl_Lbool info_bool rfl rfl rfl (by omega) (by omega) rfl ?_; intro w66 b25 cur25 row25 H
     refine lw_nil ?_
     refine xw2 7 8 (by kernel_rfl) rfl rfl ?_ ?_ 
     ·
      refine l1 (bld_r (cs := #[.int .i64 (0), .int .i64 ((-1)), .slice (some ⟨b25, 0, none⟩) n n, .slice (some ⟨b27, 0, none⟩) n n, .slice (some ⟨b29, 0, none⟩) n n, .int .i64 (((few : Nat) : Int)), .int .i64 (0)]) st_Part z_Part (by kernel_rfl)) rfl rfl rfl ?_
      refine lw_nil ?_
      refine xw1 8 (by kernel_rfl) rfl ?_ 
      refine alo H z_Part rfl ?_; intro w67 b6 H
      refine lw_nil ?_
      refine xw1 9 (by kernel_rfl) rfl ?_ 
      refine stN H 0 (#[.int .i64 (0), .int .i64 ((-1)), .slice (some ⟨b25, 0, none⟩) n n, .slice (some ⟨b27, 0, none⟩) n n, .slice (some ⟨b29, 0, none⟩) n n, .int .i64 (((few : Nat) : Int)), .int .i64 (0)]) siz_Part rfl rfl rfl rfl rfl (by kernel_rfl) (by kernel_rfl) ?_; intro w68 H
      refine lw_nil ?_
      refine xw_end (by kernel_rfl) ?_
      exact ⟨(b6, b25, b27, b29), ⟨_, _, _, row25, row27, row29, H.perm (List.Perm.refl _)⟩, sl1 rfl, by repeat (first | exact Agr.refl _ _ | exact agr_ovr | refine agr_upd rfl ?_ | refine agr_updL _ rfl ?_ | refine agr_ovr2 rfl ?_)⟩
     ·
      refine alo H z_Part rfl ?_; intro w69 b6 H
      refine lw_nil ?_
      refine xw1 7 (by kernel_rfl) rfl ?_ 
      refine l1 (bld_r (cs := #[.int .i64 (0), .int .i64 ((-1)), .slice (some ⟨b25, 0, none⟩) n n, .slice (some ⟨b27, 0, none⟩) n n, .slice (some ⟨b29, 0, none⟩) n n, .int .i64 (((few : Nat) : Int)), .int .i64 (0)]) st_Part z_Part (by kernel_rfl)) rfl rfl rfl ?_
      refine lw_nil ?_
      refine xw1 9 (by kernel_rfl) rfl ?_ 
      refine stN H 0 (#[.int .i64 (0), .int .i64 ((-1)), .slice (some ⟨b25, 0, none⟩) n n, .slice (some ⟨b27, 0, none⟩) n n, .slice (some ⟨b29, 0, none⟩) n n, .int .i64 (((few : Nat) : Int)), .int .i64 (0)]) siz_Part rfl rfl rfl rfl rfl (by kernel_rfl) (by kernel_rfl) ?_; intro w70 H
      refine lw_nil ?_
      refine xw_end (by kernel_rfl) ?_
      exact ⟨(b6, b25, b27, b29), ⟨_, _, _, row25, row27, row29, H.perm (List.Perm.refl _)⟩, sl1 rfl, by repeat (first | exact Agr.refl _ _ | exact agr_ovr | refine agr_upd rfl ?_ | refine agr_updL _ rfl ?_ | refine agr_ovr2 rfl ?_)⟩
    ·
     refine alo H z_Part rfl ?_; intro w71 b6 H
     refine lw_nil ?_
     refine xw1 1 (by kernel_rfl) rfl ?_ 
     refine mkR (Y := boolL) (false) n H sl_Lbool info_bool rfl rfl rfl (by omega) (by omega) rfl ?_; intro w72 b25 cur25 row25 H
     refine lw_nil ?_
     refine xw1 7 (by kernel_rfl) rfl ?_ 
     refine l1 (bld_r (cs := #[.int .i64 (0), .int .i64 ((-1)), .slice (some ⟨b25, 0, none⟩) n n, .slice (some ⟨b27, 0, none⟩) n n, .slice (some ⟨b29, 0, none⟩) n n, .int .i64 (((few : Nat) : Int)), .int .i64 (0)]) st_Part z_Part (by kernel_rfl)) rfl rfl rfl ?_
     refine lw_nil ?_
     refine xw1 9 (by kernel_rfl) rfl ?_ 
     refine stN H 1 (#[.int .i64 (0), .int .i64 ((-1)), .slice (some ⟨b25, 0, none⟩) n n, .slice (some ⟨b27, 0, none⟩) n n, .slice (some ⟨b29, 0, none⟩) n n, .int .i64 (((few : Nat) : Int)), .int .i64 (0)]) siz_Part rfl rfl rfl rfl rfl (by kernel_rfl) (by kernel_rfl) ?_; intro w73 H
     refine lw_nil ?_
     refine xw_end (by kernel_rfl) ?_
     exact ⟨(b6, b25, b27, b29), ⟨_, _, _, row25, row27, row29, H.perm (List.Perm.swap _ _ _)⟩, sl1 rfl, by repeat (first | exact Agr.refl _ _ | exact agr_ovr | refine agr_upd rfl ?_ | refine agr_updL _ rfl ?_ | refine agr_ovr2 rfl ?_)⟩
   ·
    refine alo H z_Part rfl ?_; intro w74 b6 H
    refine lw_nil ?_
    refine xw2 1 3 (by kernel_rfl) rfl rfl ?_ ?_ 
    ·
     refine mkR (Y := boolL) (false) n H sl_Lbool info_bool rfl rfl rfl (by omega) (by omega) rfl ?_; intro w75 b25 cur25 row25 H
     refine lw_nil ?_
     refine xw1 3 (by kernel_rfl) rfl ?_ 
     refine mkR (Y := intL) (0) n H sl_Lint info_int rfl rfl rfl (by omega) (by omega) rfl ?_; intro w76 b27 cur27 row27 H
     refine lw_nil ?_
     refine xw1 7 (by kernel_rfl) rfl ?_ 
     refine l1 (bld_r (cs := #[.int .i64 (0), .int .i64 ((-1)), .slice (some ⟨b25, 0, none⟩) n n, .slice (some ⟨b27, 0, none⟩) n n, .slice (some ⟨b29, 0, none⟩) n n, .int .i64 (((few : Nat) : Int)), .int .i64 (0)]) st_Part z_Part (by kernel_rfl)) rfl rfl rfl ?_
     refine lw_nil ?_
     refine xw1 9 (by kernel_rfl) rfl ?_ 
     refine stN H 2 (#[.int .i64 (0), .int .i64 ((-1)), .slice (some ⟨b25, 0, none⟩) n n, .slice (some ⟨b27, 0, none⟩) n n, .slice (some ⟨b29, 0, none⟩) n n, .int .i64 (((few : Nat) : Int)), .int .i64 (0)]) siz_Part rfl rfl rfl rfl rfl (by kernel_rfl) (by kernel_rfl) ?_; intro w77 H
     refine lw_nil ?_
     refine xw_end (by kernel_rfl) ?_
     exact ⟨(b6, b25, b27, b29), ⟨_, _, _, row25, row27, row29, H.perm ((List.Perm.cons _ (List.Perm.swap _ _ _)).trans ((List.Perm.swap _ _ _).trans (List.Perm.cons _ (List.Perm.swap _ _ _))))⟩, sl1 rfl, by repeat (first | exact Agr.refl _ _ | exact agr_ovr | refine agr_upd rfl ?_ | refine agr_updL _ rfl ?_ | refine agr_ovr2 rfl ?_)⟩
    ·
     refine mkR (Y := intL) (0) n H sl_Lint info_int rfl rfl rfl (by omega) (by omega) rfl ?_; intro w78 b27 cur27 row27 H
     refine lw_nil ?_
     refine xw1 1 (by kernel_rfl) rfl ?_ 
     refine mkR (Y := boolL) (false) n H sl_Lbool info_bool rfl rfl rfl (by omega) (by omega) rfl ?_; intro w79 b25 cur25 row25 H
     refine lw_nil ?_
     refine xw1 7 (by kernel_rfl) rfl ?_ 
     refine l1 (bld_r (cs := #[.int .i64 (0), .int .i64 ((-1)), .slice (some ⟨b25, 0, none⟩) n n, .slice (some ⟨b27, 0, none⟩) n n, .slice (some ⟨b29, 0, none⟩) n n, .int .i64 (((few : Nat) : Int)), .int .i64 (0)]) st_Part z_Part (by kernel_rfl)) rfl rfl rfl ?_
     refine lw_nil ?_
     refine xw1 9 (by kernel_rfl) rfl ?_ 
     refine stN H 2 (#[.int .i64 (0), .int .i64 ((-1)), .slice (some ⟨b25, 0, none⟩) n n, .slice (some ⟨b27, 0, none⟩) n n, .slice (some ⟨b29, 0, none⟩) n n, .int .i64 (((few : Nat) : Int)), .int .i64 (0)]) siz_Part rfl rfl rfl rfl rfl (by kernel_rfl) (by kernel_rfl) ?_; intro w80 H
     refine lw_nil ?_
     refine xw_end (by kernel_rfl) ?_
     exact ⟨(b6, b25, b27, b29), ⟨_, _, _, row25, row27, row29, H.perm ((List.Perm.swap _ _ _).trans (List.Perm.cons _ (List.Perm.swap _ _ _)))⟩, sl1 rfl, by repeat (first | exact Agr.refl _ _ | exact agr_ovr | refine agr_upd rfl ?_ | refine agr_updL _ rfl ?_ | refine agr_ovr2 rfl ?_)⟩
  ·
   refine alo H z_Part rfl ?_; intro w81 b6 H
   refine lw_nil ?_
   refine xw3 1 3 5 (by kernel_rfl) rfl rfl rfl ?_ ?_ ?_ 
   ·
    refine mkR (Y := boolL) (false) n H sl_Lbool info_bool rfl rfl rfl (by omega) (by omega) rfl ?_; intro w82 b25 cur25 row25 H
    refine lw_nil ?_
    refine xw2 3 5 (by kernel_rfl) rfl rfl ?_ ?_ 
    ·
     refine mkR (Y := intL) (0) n H sl_Lint info_int rfl rfl rfl (by omega) (by omega) rfl ?_; intro w83 b27 cur27 row27 H
     refine lw_nil ?_
     refine xw1 5 (by kernel_rfl) rfl ?_ 
     refine mkR (Y := repL) (⟨false, none, 0, [], 0, 0, w.heap.size, w.heap.size⟩) n H sl_LReplica info_rep rfl rfl rfl (by omega) (by omega) rfl ?_; intro w84 b29 cur29 row29 H
     refine lw_nil ?_
     refine xw1 7 (by kernel_rfl) rfl ?_ 
     refine l1 (bld_r (cs := #[.int .i64 (0), .int .i64 ((-1)), .slice (some ⟨b25, 0, none⟩) n n, .slice (some ⟨b27, 0, none⟩) n n, .slice (some ⟨b29, 0, none⟩) n n, .int .i64 (((few : Nat) : Int)), .int .i64 (0)]) st_Part z_Part (by kernel_rfl)) rfl rfl rfl ?_
     refine lw_nil ?_
     refine xw1 9 (by kernel_rfl) rfl ?_ 
     refine stN H 3 (#[.int .i64 (0), .int .i64 ((-1)), .slice (some ⟨b25, 0, none⟩) n n, .slice (some ⟨b27, 0, none⟩) n n, .slice (some ⟨b29, 0, none⟩) n n, .int .i64 (((few : Nat) : Int)), .int .i64 (0)]) siz_Part rfl rfl rfl rfl rfl (by kernel_rfl) (by kernel_rfl) ?_; intro w85 H
     refine lw_nil ?_
     refine xw_end (by kernel_rfl) ?_
     exact ⟨(b6, b25, b27, b29), ⟨_, _, _, row25, row27, row29, H.perm ((List.Perm.cons _ (List.Perm.cons _ (List.Perm.swap _ _ _))).trans ((List.Perm.cons _ (List.Perm.swap _ _ _)).trans ((List.Perm.swap _ _ _).trans ((List.Perm.cons _ (List.Perm.cons _ (List.Perm.swap _ _ _))).trans ((List.Perm.cons _ (List.Perm.swap _ _ _)).trans (List.Perm.cons _ (List.Perm.cons _ (List.Perm.swap _ _ _))))))))⟩, sl1 rfl, by repeat (first | exact Agr.refl _ _ | exact agr_ovr | refine agr_upd rfl ?_ | refine agr_updL _ rfl ?_ | refine agr_ovr2 rfl ?_)⟩
    ·
     refine mkR (Y := repL) (⟨false, none, 0, [], 0, 0, w.heap.size, w.heap.size⟩) n H sl_LReplica info_rep rfl rfl rfl (by omega) (by omega) rfl ?_; intro w86 b29 cur29 row29 H
     refine lw_nil ?_
     refine xw1 3 (by kernel_rfl) rfl ?_ 
     refine mkR (Y := intL) (0) n H sl_Lint info_int rfl rfl rfl (by omega) (by omega) rfl ?_; intro w87 b27 cur27 row27 H
     refine lw_nil ?_
     refine xw1 7 (by kernel_rfl) rfl ?_ 
     refine l1 (bld_r (cs := #[.int .i64 (0), .int .i64 ((-1)), .slice (some ⟨b25, 0, none⟩) n n, .slice (some ⟨b27, 0, none⟩) n n, .slice (some ⟨b29, 0, none⟩) n n, .int .i64 (((few : Nat) : Int)), .int .i64 (0)]) st_Part z_Part (by kernel_rfl)) rfl rfl rfl ?_
     refine lw_nil ?_
     refine xw1 9 (by kernel_rfl) rfl ?_ 
     refine stN H 3 (#[.int .i64 (0), .int .i64 ((-1)), .slice (some ⟨b25, 0, none⟩) n n, .slice (some ⟨b27, 0, none⟩) n n, .slice (some ⟨b29, 0, none⟩) n n, .int .i64 (((few : Nat) : Int)), .int .i64 (0)]) siz_Part rfl rfl rfl rfl rfl (by kernel_rfl) (by kernel_rfl) ?_; intro w88 H
     refine lw_nil ?_
     refine xw_end (by kernel_rfl) ?_
     exact ⟨(b6, b25, b27, b29), ⟨_, _, _, row25, row27, row29, H.perm ((List.Perm.cons _ (List.Perm.swap _ _ _)).trans ((List.Perm.swap _ _ _).trans ((List.Perm.cons _ (List.Perm.cons _ (List.Perm.swap _ _ _))).trans ((List.Perm.cons _ (List.Perm.swap _ _ _)).trans (List.Perm.cons _ (List.Perm.cons _ (List.Perm.swap _ _ _)))))))⟩, sl1 rfl, by repeat (first | exact Agr.refl _ _ | exact agr_ovr | refine agr_upd rfl ?_ | refine agr_updL _ rfl ?_ | refine agr_ovr2 rfl ?_)⟩
   ·
    refine mkR (Y := intL) (0) n H sl_Lint info_int rfl rfl rfl (by omega) (by omega) rfl ?_; intro w89 b27 cur27 row27 H
    refine lw_nil ?_
    refine xw2 1 5 (by kernel_rfl) rfl rfl ?_ ?_ 
    ·
     refine mkR (Y := boolL) (false) n H sl_Lbool info_bool rfl rfl rfl (by omega) (by omega) rfl ?_; intro w90 b25 cur25 row25 H
     refine lw_nil ?_
     refine xw1 5 (by kernel_rfl) rfl ?_ 
     refine mkR (Y := repL) (⟨false, none, 0, [], 0, 0, w.heap.size, w.heap.size⟩) n H sl_LReplica info_rep rfl rfl rfl (by omega) (by omega) rfl ?_; intro w91 b29 cur29 row29 H
     refine lw_nil ?_
     refine xw1 7 (by kernel_rfl) rfl ?_ 
     refine l1 (bld_r (cs := #[.int .i64 (0), .int .i64 ((-1)), .slice (some ⟨b25, 0, none⟩) n n, .slice (some ⟨b27, 0, none⟩) n n, .slice (some ⟨b29, 0, none⟩) n n, .int .i64 (((few : Nat) : Int)), .int .i64 (0)]) st_Part z_Part (by kernel_rfl)) rfl rfl rfl ?_
     refine lw_nil ?_
     refine xw1 9 (by kernel_rfl) rfl ?_ 
     refine stN H 3 (#[.int .i64 (0), .int .i64 ((-1)), .slice (some ⟨b25, 0, none⟩) n n, .slice (some ⟨b27, 0, none⟩) n n, .slice (some ⟨b29, 0, none⟩) n n, .int .i64 (((few : Nat) : Int)), .int .i64 (0)]) siz_Part rfl rfl rfl rfl rfl (by kernel_rfl) (by kernel_rfl) ?_; intro w92 H
     refine lw_nil ?_
     refine xw_end (by kernel_rfl) ?_
     exact ⟨(b6, b25, b27, b29), ⟨_, _, _, row25, row27, row29, H.perm ((List.Perm.cons _ (List.Perm.cons _ (List.Perm.swap _ _ _))).trans ((List.Perm.cons _ (List.Perm.swap _ _ _)).trans ((List.Perm.swap _ _ _).trans ((List.Perm.cons _ (List.Perm.swap _ _ _)).trans (List.Perm.cons _ (List.Perm.cons _ (List.Perm.swap _ _ _)))))))⟩, sl1 rfl, by repeat (first | exact Agr.refl _ _ | exact agr_ovr | refine agr_upd rfl ?_ | refine agr_updL _ rfl ?_ | refine agr_ovr2 rfl ?_)⟩
    ·
     refine mkR (Y := repL) (⟨false, none, 0, [], 0, 0, w.heap.size, w.heap.size⟩) n H sl_LReplica info_rep rfl rfl rfl (by omega) (by omega) rfl ?_; intro w93 b29 cur29 row29 H
     refine lw_nil ?_
     refine xw1 1 (by kernel_rfl) rfl ?_ 
     refine mkR (Y := boolL) (false) n H sl_Lbool info_bool rfl rfl rfl (by omega) (by omega) rfl ?_; intro w94 b25 cur25 row25 H
     refine lw_nil ?_
     refine xw1 7 (by kernel_rfl) rfl ?_ 
     refine l1 (bld_r (cs := #[.int .i64 (0), .int .i64 ((-1)), .slice (some ⟨b25, 0, none⟩) n n, .slice (some ⟨b27, 0, none⟩) n n, .slice (some ⟨b29, 0, none⟩) n n, .int .i64 (((few : Nat) : Int)), .int .i64 (0)]) st_Part z_Part (by kernel_rfl)) rfl rfl rfl ?_
     refine lw_nil ?_
     refine xw1 9 (by kernel_rfl) rfl ?_ 
     refine stN H 3 (#[.int .i64 (0), .int .i64 ((-1)), .slice (some ⟨b25, 0, none⟩) n n, .slice (some ⟨b27, 0, none⟩) n n, .slice (some ⟨b29, 0, none⟩) n n, .int .i64 (((few : Nat) : Int)), .int .i64 (0)]) siz_Part rfl rfl rfl rfl rfl (by kernel_rfl) (by kernel_rfl) ?_; intro w95 H
     refine lw_nil ?_
     refine xw_end (by kernel_rfl) ?_
     exact ⟨(b6, b25, b27, b29), ⟨_, _, _, row25, row27, row29, H.perm ((List.Perm.swap _ _ _).trans ((List.Perm.cons _ (List.Perm.cons _ (List.Perm.swap _ _ _))).trans ((List.Perm.cons _ (List.Perm.swap _ _ _)).trans (List.Perm.cons _ (List.Perm.cons _ (List.Perm.swap _ _ _))))))⟩, sl1 rfl, by repeat (first | exact Agr.refl _ _ | exact agr_ovr | refine agr_upd rfl ?_ | refine agr_updL _ rfl ?_ | refine agr_ovr2 rfl ?_)⟩
   ·
    refine mkR (Y := repL) (⟨false, none, 0, [], 0, 0, w.heap.size, w.heap.size⟩) n H sl_LReplica info_rep rfl rfl rfl (by omega) (by omega) rfl ?_; intro w96 b29 cur29 row29 H
    refine lw_nil ?_
    refine xw2 1 3 (by kernel_rfl) rfl rfl ?_ ?_ 
    ·
     refine mkR (Y := boolL) (false) n H sl_Lbool info_bool rfl rfl rfl (by omega) (by omega) rfl ?_; intro w97 b25 cur25 row25 H
     refine lw_nil ?_
     refine xw1 3 (by kernel_rfl) rfl ?_ 
     refine mkR (Y := intL) (0) n H sl_Lint info_int rfl rfl rfl (by omega) (by omega) rfl ?_; intro w98 b27 cur27 row27 H
     refine lw_nil ?_
     refine xw1 7 (by kernel_rfl) rfl ?_ 
     refine l1 (bld_r (cs := #[.int .i64 (0), .int .i64 ((-1)), .slice (some ⟨b25, 0, none⟩) n n, .slice (some ⟨b27, 0, none⟩) n n, .slice (some ⟨b29, 0, none⟩) n n, .int .i64 (((few : Nat) : Int)), .int .i64 (0)]) st_Part z_Part (by kernel_rfl)) rfl rfl rfl ?_
     refine lw_nil ?_
     refine xw1 9 (by kernel_rfl) rfl ?_ 
     refine stN H 3 (#[.int .i64 (0), .int .i64 ((-1)), .slice (some ⟨b25, 0, none⟩) n n, .slice (some ⟨b27, 0, none⟩) n n, .slice (some ⟨b29, 0, none⟩) n n, .int .i64 (((few : Nat) : Int)), .int .i64 (0)]) siz_Part rfl rfl rfl rfl rfl (by kernel_rfl) (by kernel_rfl) ?_; intro w99 H
     refine lw_nil ?_
     refine xw_end (by kernel_rfl) ?_
     exact ⟨(b6, b25, b27, b29), ⟨_, _, _, row25, row27, row29, H.perm ((List.Perm.cons _ (List.Perm.swap _ _ _)).trans ((List.Perm.swap _ _ _).trans ((List.Perm.cons _ (List.Perm.swap _ _ _)).trans (List.Perm.cons _ (List.Perm.cons _ (List.Perm.swap _ _ _))))))⟩, sl1 rfl, by repeat (first | exact Agr.refl _ _ | exact agr_ovr | refine agr_upd rfl ?_ | refine agr_updL _ rfl ?_ | refine agr_ovr2 rfl ?_)⟩
    ·
     refine mkR (Y := intL) (0) n H sl_Lint info_int rfl rfl rfl (by omega) (by omega) rfl ?_; intro w100 b27 cur27 row27 H
     refine lw_nil ?_
     refine xw1 1 (by kernel_rfl) rfl ?_ 
     refine mkR (Y := boolL) (false) n H sl_Lbool info_bool rfl rfl rfl (by omega) (by omega) rfl ?_; intro w101 b25 cur25 row25 H
     refine lw_nil ?_
     refine xw1 7 (by kernel_rfl) rfl ?_ 
     refine l1 (bld_r (cs := #[.int .i64 (0), .int .i64 ((-1)), .slice (some ⟨b25, 0, none⟩) n n, .slice (some ⟨b27, 0, none⟩) n n, .slice (some ⟨b29, 0, none⟩) n n, .int .i64 (((few : Nat) : Int)), .int .i64 (0)]) st_Part z_Part (by kernel_rfl)) rfl rfl rfl ?_
     refine lw_nil ?_
     refine xw1 9 (by kernel_rfl) rfl ?_ 
     refine stN H 3 (#[.int .i64 (0), .int .i64 ((-1)), .slice (some ⟨b25, 0, none⟩) n n, .slice (some ⟨b27, 0, none⟩) n n, .slice (some ⟨b29, 0, none⟩) n n, .int .i64 (((few : Nat) : Int)), .int .i64 (0)]) siz_Part rfl rfl rfl rfl rfl (by kernel_rfl) (by kernel_rfl) ?_; intro w102 H
     refine lw_nil ?_
     refine xw_end (by kernel_rfl) ?_
     exact ⟨(b6, b25, b27, b29), ⟨_, _, _, row25, row27, row29, H.perm ((List.Perm.swap _ _ _).trans ((List.Perm.cons _ (List.Perm.swap _ _ _)).trans (List.Perm.cons _ (List.Perm.cons _ (List.Perm.swap _ _ _)))))⟩, sl1 rfl, by repeat (first | exact Agr.refl _ _ | exact agr_ovr | refine agr_upd rfl ?_ | refine agr_updL _ rfl ?_ | refine agr_ovr2 rfl ?_)⟩
 rintro ⟨b6, b25, b27, b29⟩ ρ1 w103 ⟨v1, v2, v3, row25, row27, row29, H⟩
 show CW _ _ _ _ (updL (ovr _ _ ρ1) [(6, .pointer (some ⟨b6, 0, none⟩))]) w103
 refine cw_seq ?_
 refine cw_seq ?_
 refine cw_region ?_
 refine l1 (fad_r fd_Part_4 rfl) rfl rfl rfl ?_
 refine l1 (ld_r one_LReplica rfl (cellE (H.ent (i := 0) rfl) rfl)) rfl rfl rfl ?_
 refine l1 (lenS_r len_LReplica rfl) rfl rfl rfl ?_
 refine l1 (mvI_r rfl) rfl rfl rfl ?_
 refine lw_nil ?_
 refine cw_block ?_
 refine cw_loop (τ := Nat × List Bool × List Rep × Array Value × Array Value) [7, 35, 36, 37, 38, 39, 40, 41, 42, 43, 44, 45, 46, 47] (fun (k, _) => [(35, .int .i64 (k : Nat))]) (fun (k, il, rl, v1, v3) w' => k ≤ n ∧ il.length = n ∧ rl.length = n ∧ (∀ j, j < k → il[j]? = some true) ∧ (∀ j, j < k → rl[j]? = some ⟨true, none, 0, [], 0, 0, w.heap.size, w.heap.size⟩) ∧ (∀ j, k ≤ j → j < n → rl[j]? = some ⟨false, none, 0, [], 0, 0, w.heap.size, w.heap.size⟩) ∧ Row boolL il n v1 ∧ Row repL rl n v3 ∧ Hp w w' [(b6, .cells #[.int .i64 (0), .int .i64 ((-1)), .slice (some ⟨b25, 0, none⟩) n n, .slice (some ⟨b27, 0, none⟩) n n, .slice (some ⟨b29, 0, none⟩) n n, .int .i64 (((few : Nat) : Int)), .int .i64 (0)] T_Part (0, 0)), (b25, .cells v1 T_bool (0, 0)), (b27, .cells v2 T_int (0, 0)), (b29, .cells v3 T_Replica (0, 0)), (b4, .cells #[.int .i64 (0), .int .i64 (0), .slice none 0 0, .slice none 0 0, .slice none 0 0, .int .i64 (0), .int .i64 (0)] T_Part (0, 0))] []) (fun (k, _) => n - k) (0, List.replicate n false, List.replicate n ⟨false, none, 0, [], 0, 0, w.heap.size, w.heap.size⟩, v1, v3) ⟨by omega, by simp, by simp, by intro j hj; omega, by intro j hj; omega, by intro j _ hj; rw [List.getElem?_replicate, if_pos hj], row25, row29, H⟩ (sl1 rfl) ?_
 rintro ⟨k, il, rl, v1, v3⟩ ρ1 w104 ⟨hk, hil, hrl, hi1, hr1, hr2, row25, row29, H⟩
 show CW _ _ _ _ (updL (ovr _ _ ρ1) [(35, .int .i64 (k : Nat))]) w104
 refine cw_seq ?_
 refine cw_region ?_
 refine lwD (lss_r rfl rfl) rfl rfl rfl (fun h36 => ?_) (fun h36 => ?_)
 ·
  refine lw_nil ?_
  refine cw_seq ?_
  refine cw_true rfl ?_
  refine cw_skip ?_
  refine cw_seq ?_
  refine cw_block ?_
  refine cw_seq ?_
  obtain ⟨b, hb⟩ : ∃ b, il[k]? = some b := ⟨_, List.getElem?_eq_getElem (by omega)⟩
  have hz := hr2 k (Nat.le_refl k) (by omega)
  refine cw_region ?_
  refine l1 (mvI_r rfl) rfl rfl rfl ?_
  refine l1 (asI_r rfl) rfl rfl rfl ?_
  refine lw_nil ?_
 
  refine cw_tree mixed [0, 2, 3, 5] [1, 4, 6, 7, 8, 9, 10] [0, 2, 3, 5] 7 (by kernel_rfl) (by kernel_rfl) (by kernel_rfl) (fun _ _ _ h => h) ?_
  refine aw rfl rfl rfl rfl rfl (fun w' hw' => fad_r fd_Part_2 rfl) ?_
  refine aw rfl rfl rfl rfl rfl (fun w' hw' => mvI_r rfl) ?_
  refine aw rfl rfl rfl rfl rfl (fun w' hw' => fad_r fd_Part_4 rfl) ?_
  refine aw rfl rfl rfl rfl rfl (fun w' hw' => mvI_r rfl) ?_
  refine aw_nil ?_
  intro w105 hw'; replace H := H.later hw'; clear hw'
  refine xw2 1 4 (by kernel_rfl) rfl rfl ?_ ?_ 
  ·
   refine l1 (ld_r one_Lbool rfl (cellE (H.ent (i := 0) rfl) rfl)) rfl rfl rfl ?_
   refine lw_nil ?_
   refine xw2 4 6 (by kernel_rfl) rfl rfl ?_ ?_ 
   ·
    refine l1 (ld_r one_LReplica rfl (cellE (H.ent (i := 0) rfl) rfl)) rfl rfl rfl ?_
    refine lw_nil ?_
    refine xw1 6 (by kernel_rfl) rfl ?_ 
    refine l1 (ixR_r sl_Lbool rfl rfl (by first | omega | (simp only [List.length_set]; omega))) rfl rfl rfl ?_
    refine lw_nil ?_
    refine xw1 7 (by kernel_rfl) rfl ?_ 
    refine stR H 1 (true) siz_bool row25 hb 0 rfl rfl rfl rfl rfl rfl (by kernel_rfl) ?_; intro w107 cur106 row106 H
    have hs108 : (il.set k (true))[k]? = some (true) := List.getElem?_set_self (getE hb).1
    refine lw_nil ?_
    refine xw1 8 (by kernel_rfl) rfl ?_ 
    refine l1 (ixR_r sl_LReplica rfl rfl (by first | omega | (simp only [List.length_set]; omega))) rfl rfl rfl ?_
    refine lw_nil ?_
    refine xw1 9 (by kernel_rfl) rfl ?_ 
    refine l1 (fad_r fd_Replica_0 rfl) rfl rfl rfl ?_
    refine lw_nil ?_
    refine xw1 10 (by kernel_rfl) rfl ?_ 
    refine stR H 3 (⟨true, none, 0, [], 0, 0, w.heap.size, w.heap.size⟩) siz_bool row29 hz 0 rfl rfl rfl rfl rfl rfl (by kernel_rfl) ?_; intro w110 cur109 row109 H
    have hs111 : (rl.set k (⟨true, none, 0, [], 0, 0, w.heap.size, w.heap.size⟩))[k]? = some (⟨true, none, 0, [], 0, 0, w.heap.size, w.heap.size⟩) := List.getElem?_set_self (getE hz).1
    refine lw_nil ?_
    refine xw_end (by kernel_rfl) ?_
    refine cw_region ?_
    refine l1 (add_r rfl rfl (by omega) (by omega)) rfl rfl rfl ?_
    refine l1 (mvI_r rfl) rfl rfl rfl ?_
    refine lw_nil ?_
    refine ⟨(k + 1, il.set k true, rl.set k ⟨true, none, 0, [], 0, 0, w.heap.size, w.heap.size⟩, cur106, cur109), ⟨by omega, by rw [List.length_set]; exact hil, by rw [List.length_set]; exact hrl, fun j hj => ?_, fun j hj => ?_, fun j hj hjn => ?_, row106, row109, H⟩, sl1 rfl, by repeat (first | exact Agr.refl _ _ | exact agr_ovr | refine agr_upd rfl ?_ | refine agr_updL _ rfl ?_ | refine agr_ovr2 rfl ?_), by show n - (k + 1) < n - k; omega⟩
    ·
     by_cases hjk : k = j
     ·
      subst hjk; exact List.getElem?_set_self (by omega)
     ·
      rw [List.getElem?_set_ne hjk]; exact hi1 j (by omega)
    ·
     by_cases hjk : k = j
     ·
      subst hjk; exact List.getElem?_set_self (by omega)
     ·
      rw [List.getElem?_set_ne hjk]; exact hr1 j (by omega)
    ·
     rw [List.getElem?_set_ne (by omega)]; exact hr2 j (by omega) hjn
   ·
    refine l1 (ixR_r sl_Lbool rfl rfl (by first | omega | (simp only [List.length_set]; omega))) rfl rfl rfl ?_
    refine lw_nil ?_
    refine xw2 4 7 (by kernel_rfl) rfl rfl ?_ ?_ 
    ·
     refine l1 (ld_r one_LReplica rfl (cellE (H.ent (i := 0) rfl) rfl)) rfl rfl rfl ?_
     refine lw_nil ?_
     refine xw1 7 (by kernel_rfl) rfl ?_ 
     refine stR H 1 (true) siz_bool row25 hb 0 rfl rfl rfl rfl rfl rfl (by kernel_rfl) ?_; intro w113 cur112 row112 H
     have hs114 : (il.set k (true))[k]? = some (true) := List.getElem?_set_self (getE hb).1
     refine lw_nil ?_
     refine xw1 8 (by kernel_rfl) rfl ?_ 
     refine l1 (ixR_r sl_LReplica rfl rfl (by first | omega | (simp only [List.length_set]; omega))) rfl rfl rfl ?_
     refine lw_nil ?_
     refine xw1 9 (by kernel_rfl) rfl ?_ 
     refine l1 (fad_r fd_Replica_0 rfl) rfl rfl rfl ?_
     refine lw_nil ?_
     refine xw1 10 (by kernel_rfl) rfl ?_ 
     refine stR H 3 (⟨true, none, 0, [], 0, 0, w.heap.size, w.heap.size⟩) siz_bool row29 hz 0 rfl rfl rfl rfl rfl rfl (by kernel_rfl) ?_; intro w116 cur115 row115 H
     have hs117 : (rl.set k (⟨true, none, 0, [], 0, 0, w.heap.size, w.heap.size⟩))[k]? = some (⟨true, none, 0, [], 0, 0, w.heap.size, w.heap.size⟩) := List.getElem?_set_self (getE hz).1
     refine lw_nil ?_
     refine xw_end (by kernel_rfl) ?_
     refine cw_region ?_
     refine l1 (add_r rfl rfl (by omega) (by omega)) rfl rfl rfl ?_
     refine l1 (mvI_r rfl) rfl rfl rfl ?_
     refine lw_nil ?_
     refine ⟨(k + 1, il.set k true, rl.set k ⟨true, none, 0, [], 0, 0, w.heap.size, w.heap.size⟩, cur112, cur115), ⟨by omega, by rw [List.length_set]; exact hil, by rw [List.length_set]; exact hrl, fun j hj => ?_, fun j hj => ?_, fun j hj hjn => ?_, row112, row115, H⟩, sl1 rfl, by repeat (first | exact Agr.refl _ _ | exact agr_ovr | refine agr_upd rfl ?_ | refine agr_updL _ rfl ?_ | refine agr_ovr2 rfl ?_), by show n - (k + 1) < n - k; omega⟩
     ·
      by_cases hjk : k = j
      ·
       subst hjk; exact List.getElem?_set_self (by omega)
      ·
       rw [List.getElem?_set_ne hjk]; exact hi1 j (by omega)
     ·
      by_cases hjk : k = j
      ·
       subst hjk; exact List.getElem?_set_self (by omega)
      ·
       rw [List.getElem?_set_ne hjk]; exact hr1 j (by omega)
     ·
      rw [List.getElem?_set_ne (by omega)]; exact hr2 j (by omega) hjn
    ·
     refine stR H 1 (true) siz_bool row25 hb 0 rfl rfl rfl rfl rfl rfl (by kernel_rfl) ?_; intro w119 cur118 row118 H
     have hs120 : (il.set k (true))[k]? = some (true) := List.getElem?_set_self (getE hb).1
     refine lw_nil ?_
     refine xw1 4 (by kernel_rfl) rfl ?_ 
     refine l1 (ld_r one_LReplica rfl (cellE (H.ent (i := 0) rfl) rfl)) rfl rfl rfl ?_
     refine lw_nil ?_
     refine xw1 8 (by kernel_rfl) rfl ?_ 
     refine l1 (ixR_r sl_LReplica rfl rfl (by first | omega | (simp only [List.length_set]; omega))) rfl rfl rfl ?_
     refine lw_nil ?_
     refine xw1 9 (by kernel_rfl) rfl ?_ 
     refine l1 (fad_r fd_Replica_0 rfl) rfl rfl rfl ?_
     refine lw_nil ?_
     refine xw1 10 (by kernel_rfl) rfl ?_ 
     refine stR H 3 (⟨true, none, 0, [], 0, 0, w.heap.size, w.heap.size⟩) siz_bool row29 hz 0 rfl rfl rfl rfl rfl rfl (by kernel_rfl) ?_; intro w122 cur121 row121 H
     have hs123 : (rl.set k (⟨true, none, 0, [], 0, 0, w.heap.size, w.heap.size⟩))[k]? = some (⟨true, none, 0, [], 0, 0, w.heap.size, w.heap.size⟩) := List.getElem?_set_self (getE hz).1
     refine lw_nil ?_
     refine xw_end (by kernel_rfl) ?_
     refine cw_region ?_
     refine l1 (add_r rfl rfl (by omega) (by omega)) rfl rfl rfl ?_
     refine l1 (mvI_r rfl) rfl rfl rfl ?_
     refine lw_nil ?_
     refine ⟨(k + 1, il.set k true, rl.set k ⟨true, none, 0, [], 0, 0, w.heap.size, w.heap.size⟩, cur118, cur121), ⟨by omega, by rw [List.length_set]; exact hil, by rw [List.length_set]; exact hrl, fun j hj => ?_, fun j hj => ?_, fun j hj hjn => ?_, row118, row121, H⟩, sl1 rfl, by repeat (first | exact Agr.refl _ _ | exact agr_ovr | refine agr_upd rfl ?_ | refine agr_updL _ rfl ?_ | refine agr_ovr2 rfl ?_), by show n - (k + 1) < n - k; omega⟩
     ·
      by_cases hjk : k = j
      ·
       subst hjk; exact List.getElem?_set_self (by omega)
      ·
       rw [List.getElem?_set_ne hjk]; exact hi1 j (by omega)
     ·
      by_cases hjk : k = j
      ·
       subst hjk; exact List.getElem?_set_self (by omega)
      ·
       rw [List.getElem?_set_ne hjk]; exact hr1 j (by omega)
     ·
      rw [List.getElem?_set_ne (by omega)]; exact hr2 j (by omega) hjn
  ·
   refine l1 (ld_r one_LReplica rfl (cellE (H.ent (i := 0) rfl) rfl)) rfl rfl rfl ?_
   refine lw_nil ?_
   refine xw1 1 (by kernel_rfl) rfl ?_ 
   refine l1 (ld_r one_Lbool rfl (cellE (H.ent (i := 0) rfl) rfl)) rfl rfl rfl ?_
   refine lw_nil ?_
   refine xw1 6 (by kernel_rfl) rfl ?_ 
   refine l1 (ixR_r sl_Lbool rfl rfl (by first | omega | (simp only [List.length_set]; omega))) rfl rfl rfl ?_
   refine lw_nil ?_
   refine xw1 7 (by kernel_rfl) rfl ?_ 
   refine stR H 1 (true) siz_bool row25 hb 0 rfl rfl rfl rfl rfl rfl (by kernel_rfl) ?_; intro w125 cur124 row124 H
   have hs126 : (il.set k (true))[k]? = some (true) := List.getElem?_set_self (getE hb).1
   refine lw_nil ?_
   refine xw1 8 (by kernel_rfl) rfl ?_ 
   refine l1 (ixR_r sl_LReplica rfl rfl (by first | omega | (simp only [List.length_set]; omega))) rfl rfl rfl ?_
   refine lw_nil ?_
   refine xw1 9 (by kernel_rfl) rfl ?_ 
   refine l1 (fad_r fd_Replica_0 rfl) rfl rfl rfl ?_
   refine lw_nil ?_
   refine xw1 10 (by kernel_rfl) rfl ?_ 
   refine stR H 3 (⟨true, none, 0, [], 0, 0, w.heap.size, w.heap.size⟩) siz_bool row29 hz 0 rfl rfl rfl rfl rfl rfl (by kernel_rfl) ?_; intro w128 cur127 row127 H
   have hs129 : (rl.set k (⟨true, none, 0, [], 0, 0, w.heap.size, w.heap.size⟩))[k]? = some (⟨true, none, 0, [], 0, 0, w.heap.size, w.heap.size⟩) := List.getElem?_set_self (getE hz).1
   refine lw_nil ?_
   refine xw_end (by kernel_rfl) ?_
   refine cw_region ?_
   refine l1 (add_r rfl rfl (by omega) (by omega)) rfl rfl rfl ?_
   refine l1 (mvI_r rfl) rfl rfl rfl ?_
   refine lw_nil ?_
   refine ⟨(k + 1, il.set k true, rl.set k ⟨true, none, 0, [], 0, 0, w.heap.size, w.heap.size⟩, cur124, cur127), ⟨by omega, by rw [List.length_set]; exact hil, by rw [List.length_set]; exact hrl, fun j hj => ?_, fun j hj => ?_, fun j hj hjn => ?_, row124, row127, H⟩, sl1 rfl, by repeat (first | exact Agr.refl _ _ | exact agr_ovr | refine agr_upd rfl ?_ | refine agr_updL _ rfl ?_ | refine agr_ovr2 rfl ?_), by show n - (k + 1) < n - k; omega⟩
   ·
    by_cases hjk : k = j
    ·
     subst hjk; exact List.getElem?_set_self (by omega)
    ·
     rw [List.getElem?_set_ne hjk]; exact hi1 j (by omega)
   ·
    by_cases hjk : k = j
    ·
     subst hjk; exact List.getElem?_set_self (by omega)
    ·
     rw [List.getElem?_set_ne hjk]; exact hr1 j (by omega)
   ·
    rw [List.getElem?_set_ne (by omega)]; exact hr2 j (by omega) hjn
 ·
  have hke : n = k := by omega
  subst hke
  have hie := rep_of hil hi1
  have hre := rep_of hrl hr1
  subst hie
  subst hre
  refine lw_nil ?_
  refine cw_seq ?_
  refine cw_false rfl ?_
  refine cw_exit ?_
  refine cw_seq ?_
  refine cw_region ?_
  refine l1 (ldW_r agg_Part rfl (H.ent (i := 0) rfl) rfl) rfl rfl rfl ?_
  refine stN H 4 (#[.int .i64 (0), .int .i64 ((-1)), .slice (some ⟨b25, 0, none⟩) n n, .slice (some ⟨b27, 0, none⟩) n n, .slice (some ⟨b29, 0, none⟩) n n, .int .i64 (((few : Nat) : Int)), .int .i64 (0)]) siz_Part rfl rfl rfl rfl rfl (by kernel_rfl) (by kernel_rfl) ?_; intro w130 H
  refine l1 (asI_r rfl) rfl rfl rfl ?_
  refine lw_nil ?_
  refine cw_ret ?_
  replace H := H.learnNil (Y := byteL) w.heap.size H.size none
  exact finCTn (cs0 := #[.int .i64 0, .int .i64 (-1), .slice (some ⟨b25, 0, none⟩) n n, .slice (some ⟨b27, 0, none⟩) n n, .slice (some ⟨b29, 0, none⟩) n n, .int .i64 ((few : Nat) : Int), .int .i64 0]) (v1 := .int .i64 0) rfl agg_Part rfl (H.ent (i := 4) rfl) rfl rfl ⟨⟨0, -1, List.replicate n true, some ⟨b25, 0, none⟩, n, List.replicate n 0, some ⟨b27, 0, none⟩, n, List.replicate n ⟨true, none, 0, [], 0, 0, w.heap.size, w.heap.size⟩, some ⟨b29, 0, none⟩, n, (few : Nat), 0⟩, by simp [Pa.c], by simp [Pa.a, newA, Rep.a], NewPa.mk_ rfl rfl rfl row25 row27 row29 (F := [FRd byteL w.heap.size w.heap.size none []]) (fun r hr => by rw [List.eq_of_mem_replicate hr]; exact ⟨by simp [flat], Nat.le_refl _, List.mem_singleton_self _⟩) (by simp; omega) H ⟨by simp, by simp, by simp⟩⟩
set_option maxHeartbeats 4000000 in
set_option maxRecDepth 10000 in
theorem pRead_none (p : Pa) (a m : Int) (w : World) (h : p.rd 0 w.heap.size w) (hok : p.a.ok) (hl : p.leader < 0) : Ret Try.prog i_part_Read [p.v, .int .i64 a, .int .i64 m] w fun v w2 => v = .tuple #[.slice none 0 0, .int .i64 0, .int .i64 8] ∧ Below w.heap.size w w2 := by
 refine ret_of fn_part_Read rfl rfl ?_
 obtain ⟨hn1, hn2, hil, hkl, hf1, hf2, he0, he1, hl0, hl1, hb0, hb1, hsm⟩ := Pa.facts hok
 have hkn := hok.known
 have hiC := h.iC
 have hkC := h.kC
 have hrC := h.rC
 have hfew := h.few
 have H := Hp.startPa h
 obtain ⟨ep, ld, isr, iA, iC, kn, kA, kC, reps, rA, rC, fw, bs⟩ := p
 simp only [Pa.a] at hkn
 dsimp only at H hn1 hn2 hil hkl hf1 hf2 he0 he1 hl0 hl1 hb0 hb1 hsm hiC hkC hrC hfew
 dsimp only at hl
 show CW _ _ _ _ (args [.agg #[.int .i64 (ep), .int .i64 (ld), .slice iA isr.length iC, .slice kA kn.length kC, .slice rA reps.length rC, .int .i64 (fw), .int .i64 (bs)], .int .i64 (a), .int .i64 (m)]) w
 refine cw_seq ?_
 refine cw_region ?_
 refine bxA H rfl rfl ?_; intro w1 b3 H
 refine l1 (asS_r rfl) rfl rfl rfl ?_
 refine l1 (asI_r rfl) rfl rfl rfl ?_
 refine l1 (asI_r rfl) rfl rfl rfl ?_
 refine lw_nil ?_
 refine cw_seq ?_
 refine cw_seq ?_
 refine cw_region ?_
 refine l1 (ldW_r agg_Part rfl (H.ent (i := 0) rfl) rfl) rfl rfl rfl ?_
 refine cal cb_part_Check (pCheck_ok ⟨ep, ld, isr, iA, iC, kn, kA, kC, reps, rA, rC, fw, bs⟩ _ (Hp.pa H 0 rfl) hok) rfl rfl ?_
 rintro _ w2 ⟨rfl, hb⟩; replace H := H.later hb; clear hb
 refine l1 (asI_r rfl) rfl rfl rfl ?_
 refine lw_nil ?_
 refine cw_seq ?_
 refine cw_region ?_
 refine l1 (mvI_r rfl) rfl rfl rfl ?_
 refine l1 (neqF_r rfl rfl rfl) rfl rfl rfl ?_
 refine lw_nil ?_
 refine cw_false rfl ?_
 refine cw_skip ?_
 refine cw_seq ?_
 refine cw_seq ?_
 refine cw_region ?_
 refine l1 (fad_r fd_Part_1 rfl) rfl rfl rfl ?_
 refine l1 (ld_r one_int rfl (cellE (H.ent (i := 0) rfl) rfl)) rfl rfl rfl ?_
 refine l1 (lssT_r rfl rfl hl) rfl rfl rfl ?_
 refine lw_nil ?_
 refine cw_true rfl ?_
 refine cw_seq ?_
 refine cw_region ?_
 refine l1 (asS_r rfl) rfl rfl rfl ?_
 refine l1 (asI_r rfl) rfl rfl rfl ?_
 refine l1 (asI_r rfl) rfl rfl rfl ?_
 refine lw_nil ?_
 refine cw_ret ?_
 exact fin3 rfl rfl rfl rfl ⟨rfl, H.below⟩
set_option maxHeartbeats 4000000 in
set_option maxRecDepth 10000 in
theorem pRead_ok (p : Pa) (a most l : Nat) (r : Rep) (w : World) (h : p.rd 0 w.heap.size w) (hok : p.a.ok) (hld : p.leader = l) (hr : p.reps[l]? = some r) (ha : a ≤ r.es.length) (hm1 : 1 ≤ most) (hm2 : most ≤ 20) : Ret Try.prog i_part_Read [p.v, .int .i64 (a : Nat), .int .i64 (most : Nat)] w fun v w2 => ∃ (st : Nat) (out : List ByteArray) (b : Nat) (A' : Option Addr) (c' : Nat), isStab (r.es.take r.high.toNat) st ∧ ReadS r.es r.high.toNat st a most out b ∧ v = .tuple #[.slice A' out.length c', .int .i64 (b : Nat), .int .i64 0] ∧ Rd strL w.heap.size w2.heap.size A' out w2 ∧ out.length ≤ c' ∧ Below w.heap.size w w2 := by
 refine ret_of fn_part_Read rfl rfl ?_
 obtain ⟨hn1, hn2, hil, hkl, hf1, hf2, he0, he1, hl0, hl1, hb0, hb1, hsm⟩ := Pa.facts hok
 have hkn := hok.known
 have hiC := h.iC
 have hkC := h.kC
 have hrC := h.rC
 have hfew := h.few
 have H := Hp.startPa h
 obtain ⟨ep, ld, isr, iA, iC, kn, kA, kC, reps, rA, rC, fw, bs⟩ := p
 simp only [Pa.a] at hkn
 dsimp only at H hn1 hn2 hil hkl hf1 hf2 he0 he1 hl0 hl1 hb0 hb1 hsm hiC hkC hrC hfew
 dsimp only at hld hr
 have hll := (getE hr).1
 show CW _ _ _ _ (args [.agg #[.int .i64 (ep), .int .i64 (ld), .slice iA isr.length iC, .slice kA kn.length kC, .slice rA reps.length rC, .int .i64 (fw), .int .i64 (bs)], .int .i64 (((a : Nat) : Int)), .int .i64 (((most : Nat) : Int))]) w
 refine cw_seq ?_
 refine cw_region ?_
 refine bxA H rfl rfl ?_; intro w1 b3 H
 refine l1 (asS_r rfl) rfl rfl rfl ?_
 refine l1 (asI_r rfl) rfl rfl rfl ?_
 refine l1 (asI_r rfl) rfl rfl rfl ?_
 refine lw_nil ?_
 refine cw_seq ?_
 refine cw_seq ?_
 refine cw_region ?_
 refine l1 (ldW_r agg_Part rfl (H.ent (i := 0) rfl) rfl) rfl rfl rfl ?_
 refine cal cb_part_Check (pCheck_ok ⟨ep, ld, isr, iA, iC, kn, kA, kC, reps, rA, rC, fw, bs⟩ _ (Hp.pa H 0 rfl) hok) rfl rfl ?_
 rintro _ w2 ⟨rfl, hb⟩; replace H := H.later hb; clear hb
 refine l1 (asI_r rfl) rfl rfl rfl ?_
 refine lw_nil ?_
 refine cw_seq ?_
 refine cw_region ?_
 refine l1 (mvI_r rfl) rfl rfl rfl ?_
 refine l1 (neqF_r rfl rfl rfl) rfl rfl rfl ?_
 refine lw_nil ?_
 refine cw_false rfl ?_
 refine cw_skip ?_
 refine cw_seq ?_
 refine cw_seq ?_
 refine cw_region ?_
 refine l1 (fad_r fd_Part_1 rfl) rfl rfl rfl ?_
 refine l1 (ld_r one_int rfl (cellE (H.ent (i := 0) rfl) rfl)) rfl rfl rfl ?_
 refine l1 (lssF_r rfl rfl (by omega)) rfl rfl rfl ?_
 refine lw_nil ?_
 refine cw_false rfl ?_
 refine cw_skip ?_
 refine cw_seq ?_
 refine cw_region ?_
 refine l1 (fad_r fd_Part_4 rfl) rfl rfl rfl ?_
 refine l1 (ld_r one_LReplica rfl (cellE (H.ent (i := 0) rfl) rfl)) rfl rfl rfl ?_
 refine l1 (fad_r fd_Part_1 rfl) rfl rfl rfl ?_
 refine l1 (ld_r one_int rfl (cellE (H.ent (i := 0) rfl) rfl)) rfl rfl rfl ?_
 refine ixF (k := l) H 3 rfl sl_LReplica rfl (congrArg (Value.int .i64) hld) (by omega) (by omega) rfl ?_; intro b3 o3 x3 e3
 obtain rfl : x3 = r := by have := e3.at_; rw [hr] at this; exact (Option.some.inj this).symm
 obtain ⟨n, hnn⟩ : ∃ n : Nat, x3.high = n := ⟨x3.high.toNat, by have := (Pa.repOk hok (i := l) hr).2.1; omega⟩
 refine l1 (ldA_r (xs := Rep.c x3) agg_Replica rfl rfl e3.cl) rfl rfl rfl ?_
 refine alo H z_Replica rfl ?_; intro w4 b10 H
 refine stN H 0 (#[.bool (x3.up), .slice x3.A ((flat x3.es).length) x3.cap, .int .i64 (((lsz x3.es x3.s : Nat) : Int)), .int .i64 (x3.high)]) siz_Replica rfl rfl rfl rfl rfl (by kernel_rfl) (by kernel_rfl) ?_; intro w5 H
 refine lw_nil ?_
 refine cw_seq ?_
 refine cw_region ?_
 refine l1 (fad_r fd_Replica_1 rfl) rfl rfl rfl ?_
 refine l1 (ldS_r 1 [.slice x3.A ((flat x3.es).length) x3.cap, .int .i64 (((lsz x3.es x3.s : Nat) : Int))] agg_Log rfl rfl (H.ent (i := 0) rfl) rfl) rfl rfl rfl ?_
 refine cal cb_seg_Entries (segEntries_at x3.A x3.cap x3.es x3.s _ (Pa.log (Hp.pa H 0 rfl) hok (i := l) hr)) rfl rfl ?_
 rintro _ w6 ⟨Aen, cen, rfl, hren, hcen, hben⟩; replace H := H.learnRd hben hren; clear hren hben
 refine l1 (mvU_r rfl) rfl rfl rfl ?_
 refine l1 (exS_r rfl rfl) rfl rfl rfl ?_
 refine l1 (exI_r rfl rfl) rfl rfl rfl ?_
 refine l1 (exI_r rfl rfl) rfl rfl rfl ?_
 refine l1 (asS_r rfl) rfl rfl rfl ?_
 refine l1 (asI_r rfl) rfl rfl rfl ?_
 refine l1 (asI_r rfl) rfl rfl rfl ?_
 refine lw_nil ?_
 refine cw_seq ?_
 refine cw_region ?_
 refine l1 (mvS_r rfl) rfl rfl rfl ?_
 refine l1 (fad_r fd_Replica_2 rfl) rfl rfl rfl ?_
 refine l1 (ld_r one_int rfl (cellE (H.ent (i := 0) rfl) rfl)) rfl rfl rfl ?_
 refine l1 (mvI_r rfl) rfl rfl rfl ?_
 refine l1 (mvI_r rfl) rfl rfl rfl ?_
 refine cal cb_view_Read ((by have hA := read_ok x3.es Aen cen n a most _ (H.rd0 0 rfl) hcen (by have := (Pa.repOk hok (i := l) hr).1.len; omega) (by have := (Pa.repOk hok (i := l) hr).2.2; omega) ha hm1 hm2; rw [← hnn] at hA; exact hA)) rfl rfl ?_
 have hlo := H.size
 rintro _ w7 ⟨st, out, b, A9, c9, hs9, hr9, rfl, hrd9, hc9, hb9⟩
 refine l1 (exS_r rfl rfl) rfl rfl rfl ?_
 refine l1 (exI_r rfl rfl) rfl rfl rfl ?_
 refine l1 (exI_r rfl rfl) rfl rfl rfl ?_
 refine l1 (asS_r rfl) rfl rfl rfl ?_
 refine l1 (asI_r rfl) rfl rfl rfl ?_
 refine l1 (asI_r rfl) rfl rfl rfl ?_
 refine lw_nil ?_
 refine cw_ret ?_
 have hnt : x3.high.toNat = n := by omega
 rw [hnt]
 exact fin3 rfl rfl rfl rfl ⟨st, out, b, A9, c9, hs9, hr9, rfl, hrd9.mono hlo (Nat.le_refl _), hc9, H.below.trans (hb9.mono hlo)⟩
end Go.Proofs.Ytemnchkebhclpaa
end
