/- GH: a part of the proofs over this seat: what stands in its theorems holds for every input that they name. -/
import Derived.Test.YtemnchkebhclpaaGP
section
namespace Go.Proofs.Ytemnchkebhclpaa
open Go Go.Eng Go.RowKit
set_option linter.unusedSimpArgs false
/-- the logs of replicas that a call has made -/
def Logs (w : World) (F : List Fact) (rs : List Rep) : Prop := ∀ r ∈ rs, (flat r.es).length ≤ r.cap ∧ w.heap.size ≤ r.lo ∧ repF r ∈ F
theorem Logs.of {w : World} {F : List Fact} {rs : List Rep} (h1 : ∀ r ∈ rs, (flat r.es).length ≤ r.cap) (h2 : ∀ r ∈ rs, w.heap.size ≤ r.lo) : Logs w (F ++ repsF rs) rs := fun r hr => ⟨h1 r hr, h2 r hr, List.mem_append_right _ (List.mem_map_of_mem hr)⟩
theorem Logs.cons {w : World} {F : List Fact} {f : Fact} {rs : List Rep} (h : Logs w F rs) : Logs w (f :: F) rs := fun r hr => ⟨(h r hr).1, (h r hr).2.1, List.mem_cons_of_mem _ (h r hr).2.2⟩
theorem Logs.set {w : World} {F : List Fact} {rs : List Rep} (h : Logs w F rs) (i : Nat) {x : Rep} (hx : (flat x.es).length ≤ x.cap ∧ w.heap.size ≤ x.lo ∧ repF x ∈ F) : Logs w F (rs.set i x) := fun r hr => by
 rcases List.mem_or_eq_of_mem_set hr with hr | rfl
 ·
  exact h r hr
 ·
  exact hx
theorem Logs.same {w : World} {F : List Fact} {rs : List Rep} (h : Logs w F rs) (i : Nat) {x x' : Rep} (hx : rs[i]? = some x) (h1 : x'.A = x.A) (h2 : x'.cap = x.cap) (h3 : x'.es = x.es) (h4 : x'.lo = x.lo) (h5 : x'.hi = x.hi) : Logs w F (rs.set i x') := h.set i (by
 have := h x (List.mem_of_getElem? hx)
 unfold repF at this ⊢
 rw [h1, h2, h3, h4, h5]; exact this)
theorem Logs.log {w w0 w' : World} {L : List (Nat × Obj)} {F : List Fact} {rs : List Rep} (h : Logs w F rs) (H : Hp w0 w' L F) {i : Nat} {x : Rep} (hx : rs[i]? = some x) (hg : GL x.es x.s) : x.log.ok w' := by
 have h1 := h x (List.mem_of_getElem? hx)
 exact own_log1 H h1.2.2 hg h1.1
theorem NewPa.mk_ {w w2 : World} {L : List (Nat × Obj)} {F : List Fact} {p : Pa} {g1 g2 g3 : Nat} {u1 u2 u3 : Array Value} (i : p.iA = some ⟨g1, 0, none⟩) (k : p.kA = some ⟨g2, 0, none⟩) (r : p.rA = some ⟨g3, 0, none⟩) (ri : Row boolL p.isr p.iC u1) (rk : Row intL p.known p.kC u2) (rr : Row repL p.reps p.rC u3) (hl : Logs w F p.reps)
  (few : p.isr.length ≤ 1000000 ∧ p.known.length ≤ 1000000 ∧ p.reps.length ≤ 1000000) (H : Hp w w2 L F) (hL : (g1, Obj.cells u1 T_bool (0, 0)) ∈ L ∧ (g2, Obj.cells u2 T_int (0, 0)) ∈ L ∧ (g3, Obj.cells u3 T_Replica (0, 0)) ∈ L) : NewPa w w2 p := by
 have e1 := H.ents _ hL.1
 have e2 := H.ents _ hL.2.1
 have e3 := H.ents _ hL.2.2
 refine ⟨⟨?_, ?_, ?_, fun r hr => ?_, ri.le, rk.le, rr.le, fun r hr => (hl r hr).1, few⟩, H.below⟩
 ·
  rw [i]; exact (ri.rd e1.1).mono e1.2 (lt_of_heap e1.1)
 ·
  rw [k]; exact (rk.rd e2.1).mono e2.2 (lt_of_heap e2.1)
 ·
  rw [r]; exact (rr.rd e3.1).mono e3.2 (lt_of_heap e3.1)
 ·
  obtain ⟨h1, h2, h3⟩ := hl r hr
  obtain ⟨f1, f2, -⟩ := H.facts (repF r) h3
  exact Rd.mono f1 h2 f2
theorem mapa {rs reps : List Rep} (hma : rs.map Rep.a = reps.map Rep.a) {i : Nat} {x : Rep} (hx : rs[i]? = some x) : (reps.map Rep.a)[i]? = some x.a := by
 rw [← hma, List.getElem?_map, hx]; rfl
theorem ok_of {rs reps : List Rep} {ep ld : Int} {isr : List Bool} {iA kA rA : Option Addr} {iC kC rC : Nat} {kn : List Int} {fw bs : Int} (hma : rs.map Rep.a = reps.map Rep.a) (hok : (Pa.a ⟨ep, ld, isr, iA, iC, kn, kA, kC, reps, rA, rC, fw, bs⟩).ok) {i : Nat} {x : Rep} (hx : rs[i]? = some x) : GL x.es x.s ∧ 0 ≤ x.high ∧ x.high ≤ x.es.length := by
 have h1 := hok.reps x.a (List.mem_of_getElem? (show (reps.map Rep.a)[i]? = _ from mapa hma hx))
 exact ⟨h1.gl, h1.high0, h1.high1⟩
def advA (p : PaA) : PaA := match p.reps[p.leader.toNat]? with
 | some r => if p.leader < 0 then p else { p with reps := p.reps.set p.leader.toNat { r with high := max r.high (min (leastA p.isr p.known 400) r.es.length) } }
 | none => p
theorem advA_at {p : PaA} {l : Nat} {r : RA} (hl : p.leader = l) (hr : p.reps[l]? = some r) : advA p = { p with reps := p.reps.set l { r with high := max r.high (min (leastA p.isr p.known 400) r.es.length) } } := by
 have h1 : p.leader.toNat = l := by omega
 unfold advA
 rw [h1, hr]; dsimp only; rw [if_neg (by omega)]
/-- P4.5: a log is synced -/
def syncA (p : PaA) (r : Nat) : PaA × Int := match p.reps[r]? with
 | none => (zPaA, 5)
 | some x => if x.up = false then (zPaA, 7) else
  if p.leader = r then (advA { p with reps := p.reps.set r { x with s := x.es.length }, known := p.known.set r x.es.length }, 0) else ({ p with reps := p.reps.set r { x with s := x.es.length } }, 0)
def riseA (p : PaA) (r : Nat) : PaA × Int := match p.reps[r]? with
 | none => (zPaA, 5)
 | some x => if x.up = true then (zPaA, 6) else ({ p with reps := p.reps.set r { x with up := true } }, 0)
theorem segSync_row (l : LogR) (w : World) (h : l.ok w) : Ret Try.prog i_seg_Sync [.agg l.c.toArray] w fun v w2 => ∃ A' c', v = .tuple #[.agg #[.slice A' (flat l.es).length c', .int .i64 (lsz l.es l.es.length : Nat)], .int .i64 0] ∧ (flat l.es).length ≤ c' ∧ Rd byteL w.heap.size w2.heap.size A' (flat l.es) w2 ∧ Below w.heap.size w w2 :=
 (segSync_ok l w h).mono fun _ _ ⟨A', c', h1, h2, h3⟩ => ⟨A', c', h1, h2.2.1, h2.2.2, h3⟩
set_option maxHeartbeats 4000000 in
set_option maxRecDepth 10000 in
theorem pRise_ok (p : Pa) (r : Nat) (w : World) (h : p.rd 0 w.heap.size w) (hok : p.a.ok) (hr : r < p.reps.length) : Ret Try.prog i_part_Rise [p.v, .int .i64 (r : Nat)] w fun v w2 => ∃ p' : Pa, v = .tuple #[p'.v, .int .i64 (riseA p.a r).2] ∧ p'.a = (riseA p.a r).1 ∧ NewPa w w2 p' := by
 refine ret_of fn_part_Rise rfl rfl ?_
 obtain ⟨hn1, hn2, hil, hkl, hf1, hf2, he0, he1, hl0, hl1, hb0, hb1, hsm⟩ := Pa.facts hok
 have hkn := hok.known
 have hiC := h.iC
 have hkC := h.kC
 have hrC := h.rC
 have hfew := h.few
 have H := Hp.startPa h
 obtain ⟨ep, ld, isr, iA, iC, kn, kA, kC, reps, rA, rC, fw, bs⟩ := p
 simp only [Pa.a] at hkn
 dsimp only at H hn1 hn2 hil hkl hf1 hf2 he0 he1 hl0 hl1 hb0 hb1 hsm hiC hkC hrC hfew
 dsimp only at hr
 show CW _ _ _ _ (args [.agg #[.int .i64 (ep), .int .i64 (ld), .slice iA isr.length iC, .slice kA kn.length kC, .slice rA reps.length rC, .int .i64 (fw), .int .i64 (bs)], .int .i64 (((r : Nat) : Int))]) w
 refine cw_seq ?_
 refine cw_region ?_
 refine bxA H rfl rfl ?_; intro w1 b2 H
 refine alo H z_Part rfl ?_; intro w2 b4 H
 refine l1 (asI_r rfl) rfl rfl rfl ?_
 refine lw_nil ?_
 refine cw_seq ?_
 refine cw_region ?_
 refine l1 (ldW_r agg_Part rfl (H.ent (i := 1) rfl) rfl) rfl rfl rfl ?_
 refine l1 (mvI_r rfl) rfl rfl rfl ?_
 refine cal cb_part_at (pAt_ok ⟨ep, ld, isr, iA, iC, kn, kA, kC, reps, rA, rC, fw, bs⟩ r _ (Hp.pa H 0 rfl) hok hr) rfl rfl ?_
 rintro _ w3 ⟨⟨ep2, ld2, is2, iA2, c1, kn2, kA2, c2, rs, rA2, c3, fw2, bs2⟩, g1, g2, g3, u1, u2, u3, rfl, ha2, ho⟩
 simp only [Pa.a, PaA.mk.injEq] at ha2
 obtain ⟨e1, e2, e3, e4, hma, e6, e7⟩ := ha2
 obtain rfl : ep = ep2 := e1.symm
 obtain rfl : ld = ld2 := e2.symm
 obtain rfl : isr = is2 := e3.symm
 obtain rfl : kn = kn2 := e4.symm
 obtain rfl : fw = fw2 := e6.symm
 obtain rfl : bs = bs2 := e7.symm
 have hrl : rs.length = reps.length := by have := congrArg List.length hma; simpa using this
 obtain ⟨i1, i2, i3, row1, row2, row3, hcp, hlos, -, hjn⟩ := ho
 dsimp only at i1 i2 i3 row1 row2 row3 hcp hlos hjn
 subst i1; subst i2; subst i3
 have hlo0 := H.size
 replace H := H.joinF hjn (by intro f hf; obtain ⟨r, hr, rfl⟩ := List.mem_map.1 hf; exact hlos r hr)
 replace hlos : ∀ r ∈ rs, w.heap.size ≤ r.lo := fun r hr => Nat.le_trans hlo0 (hlos r hr)
 clear hjn
 have hlg := Logs.of (F := [FPa 0 w.heap.size ⟨ep, ld, isr, iA, iC, kn, kA, kC, reps, rA, rC, fw, bs⟩, FRd boolL 0 w.heap.size iA isr, FRd intL 0 w.heap.size kA kn, FRd repL 0 w.heap.size rA reps]) hcp hlos
 have hok2 : ∀ {i : Nat} {x : Rep}, rs[i]? = some x → GL x.es x.s ∧ 0 ≤ x.high ∧ x.high ≤ x.es.length := fun hx => ok_of hma hok hx
 obtain ⟨x, hx⟩ : ∃ x, rs[r]? = some x := ⟨_, List.getElem?_eq_getElem (by omega)⟩
 have hxa := mapa hma hx
 refine l1 (mvU_r rfl) rfl rfl rfl ?_
 refine l1 (exA_r rfl rfl) rfl rfl rfl ?_
 refine l1 (exI_r rfl rfl) rfl rfl rfl ?_
 refine stN H 4 (#[.int .i64 (ep), .int .i64 (ld), .slice (some ⟨g1, 0, none⟩) isr.length c1, .slice (some ⟨g2, 0, none⟩) kn.length c2, .slice (some ⟨g3, 0, none⟩) rs.length c3, .int .i64 (fw), .int .i64 (bs)]) siz_Part rfl rfl rfl rfl rfl (by kernel_rfl) (by kernel_rfl) ?_; intro w4 H
 refine l1 (asI_r rfl) rfl rfl rfl ?_
 refine lw_nil ?_
 refine cw_seq ?_
 refine cw_seq ?_
 refine cw_region ?_
 refine l1 (mvI_r rfl) rfl rfl rfl ?_
 refine l1 (neqF_r rfl rfl rfl) rfl rfl rfl ?_
 refine lw_nil ?_
 refine cw_false rfl ?_
 refine cw_skip ?_
 refine cw_seq ?_
 refine cw_seq ?_
 refine cw_region ?_
 refine l1 (fad_r fd_Part_4 rfl) rfl rfl rfl ?_
 refine l1 (ld_r one_LReplica rfl (cellE (H.ent (i := 4) rfl) rfl)) rfl rfl rfl ?_
 refine l1 (mvI_r rfl) rfl rfl rfl ?_
 refine l1 (ixR_r sl_LReplica rfl rfl (by first | omega | (simp only [List.length_set]; omega))) rfl rfl rfl ?_
 refine l1 (fad_r fd_Replica_0 rfl) rfl rfl rfl ?_
 refine lwB (ldR_r one_bool row3 hx 0 rfl (H.ent (i := 2) rfl) rfl) rfl rfl rfl (fun h22 => ?_) (fun h22 => ?_)
 ·
  have hS : riseA (Pa.a ⟨ep, ld, isr, iA, iC, kn, kA, kC, reps, rA, rC, fw, bs⟩) r = (zPaA, 6) := by simp [riseA, Pa.a, hxa, Rep.a, h22]
  rw [hS]
  refine lw_nil ?_
  refine cw_true rfl ?_
  refine cw_seq ?_
  refine cw_region ?_
  refine l1 (bld_r (cs := #[.int .i64 (0), .int .i64 (0), .slice none 0 0, .slice none 0 0, .slice none 0 0, .int .i64 (0), .int .i64 (0)]) st_Part z_Part (by kernel_rfl)) rfl rfl rfl ?_
  refine stN H 3 (#[.int .i64 (0), .int .i64 (0), .slice none 0 0, .slice none 0 0, .slice none 0 0, .int .i64 (0), .int .i64 (0)]) siz_Part rfl rfl rfl rfl rfl (by kernel_rfl) (by kernel_rfl) ?_; intro w5 H
  refine l1 (asI_r rfl) rfl rfl rfl ?_
  refine lw_nil ?_
  refine cw_ret ?_
  exact finCTn (cs0 := #[.int .i64 0, .int .i64 0, .slice none 0 0, .slice none 0 0, .slice none 0 0, .int .i64 0, .int .i64 0]) (v1 := .int .i64 6) rfl agg_Part rfl (H.ent (i := 3) rfl) rfl rfl ⟨zPa, rfl, rfl, NewPa.zero H.below⟩
 ·
  have hS : riseA (Pa.a ⟨ep, ld, isr, iA, iC, kn, kA, kC, reps, rA, rC, fw, bs⟩) r = ({ Pa.a ⟨ep, ld, isr, iA, iC, kn, kA, kC, reps, rA, rC, fw, bs⟩ with reps := (reps.map Rep.a).set r { x.a with up := true } }, 0) := by simp [riseA, Pa.a, hxa, Rep.a, h22]
  rw [hS]
  refine lw_nil ?_
  refine cw_false rfl ?_
  refine cw_skip ?_
  refine cw_seq ?_
  refine cw_region ?_
  refine l1 (fad_r fd_Part_4 rfl) rfl rfl rfl ?_
  refine l1 (ld_r one_LReplica rfl (cellE (H.ent (i := 4) rfl) rfl)) rfl rfl rfl ?_
  refine l1 (mvI_r rfl) rfl rfl rfl ?_
  refine l1 (ixR_r sl_LReplica rfl rfl (by first | omega | (simp only [List.length_set]; omega))) rfl rfl rfl ?_
  refine l1 (fad_r fd_Replica_0 rfl) rfl rfl rfl ?_
  refine stR H 2 ({ x with up := true }) siz_bool row3 hx 0 rfl rfl rfl rfl rfl rfl (by kernel_rfl) ?_; intro w7 cur6 row6 H
  have hs8 : (rs.set r ({ x with up := true }))[r]? = some ({ x with up := true }) := List.getElem?_set_self (getE hx).1
  refine lw_nil ?_
  refine cw_seq ?_
  refine cw_region ?_
  refine l1 (ldW_r agg_Part rfl (H.ent (i := 4) rfl) rfl) rfl rfl rfl ?_
  refine stN H 3 (#[.int .i64 (ep), .int .i64 (ld), .slice (some ⟨g1, 0, none⟩) isr.length c1, .slice (some ⟨g2, 0, none⟩) kn.length c2, .slice (some ⟨g3, 0, none⟩) rs.length c3, .int .i64 (fw), .int .i64 (bs)]) siz_Part rfl rfl rfl rfl rfl (by kernel_rfl) (by kernel_rfl) ?_; intro w9 H
  refine l1 (asI_r rfl) rfl rfl rfl ?_
  refine lw_nil ?_
  refine cw_ret ?_
  have hlg2 := hlg.same r (x' := { x with up := true }) hx rfl rfl rfl rfl rfl
  exact finCTn (cs0 := #[.int .i64 (ep), .int .i64 (ld), .slice (some ⟨g1, 0, none⟩) isr.length c1, .slice (some ⟨g2, 0, none⟩) kn.length c2, .slice (some ⟨g3, 0, none⟩) rs.length c3, .int .i64 (fw), .int .i64 (bs)]) (v1 := .int .i64 0) rfl agg_Part rfl (H.ent (i := 3) rfl) rfl rfl ⟨_, by simp [Pa.c], by simp [Pa.a, List.map_set, hma, Rep.a], (NewPa.mk_ (p := ⟨ep, ld, isr, some ⟨g1, 0, none⟩, c1, kn, some ⟨g2, 0, none⟩, c2, rs.set r { x with up := true }, some ⟨g3, 0, none⟩, c3, fw, bs⟩) rfl rfl rfl row1 row2 row6 hlg2 (by dsimp only; try simp only [List.length_set]; omega) H ⟨by simp, by simp, by simp⟩)⟩
end Go.Proofs.Ytemnchkebhclpaa
end

section
namespace Go.Proofs.Ytemnchkebhclpaa
open Go Go.Eng Go.RowKit
set_option linter.unusedSimpArgs false
set_option maxHeartbeats 4000000 in
set_option maxRecDepth 10000 in
theorem pSync_ok (p : Pa) (r : Nat) (w : World) (h : p.rd 0 w.heap.size w) (hok : p.a.ok) (hr : r < p.reps.length) : Ret Try.prog i_part_Sync [p.v, .int .i64 (r : Nat)] w fun v w2 => ∃ p' : Pa, v = .tuple #[p'.v, .int .i64 (syncA p.a r).2] ∧ p'.a = (syncA p.a r).1 ∧ NewPa w w2 p' := by
 refine ret_of fn_part_Sync rfl rfl ?_
 obtain ⟨hn1, hn2, hil, hkl, hf1, hf2, he0, he1, hl0, hl1, hb0, hb1, hsm⟩ := Pa.facts hok
 have hkn := hok.known
 have hiC := h.iC
 have hkC := h.kC
 have hrC := h.rC
 have hfew := h.few
 have H := Hp.startPa h
 obtain ⟨ep, ld, isr, iA, iC, kn, kA, kC, reps, rA, rC, fw, bs⟩ := p
 simp only [Pa.a] at hkn
 dsimp only at H hn1 hn2 hil hkl hf1 hf2 he0 he1 hl0 hl1 hb0 hb1 hsm hiC hkC hrC hfew
 dsimp only at hr
 show CW _ _ _ _ (args [.agg #[.int .i64 (ep), .int .i64 (ld), .slice iA isr.length iC, .slice kA kn.length kC, .slice rA reps.length rC, .int .i64 (fw), .int .i64 (bs)], .int .i64 (((r : Nat) : Int))]) w
 refine cw_seq ?_
 refine cw_region ?_
 refine bxA H rfl rfl ?_; intro w1 b2 H
 refine alo H z_Part rfl ?_; intro w2 b4 H
 refine l1 (asI_r rfl) rfl rfl rfl ?_
 refine lw_nil ?_
 refine cw_seq ?_
 refine cw_region ?_
 refine l1 (ldW_r agg_Part rfl (H.ent (i := 1) rfl) rfl) rfl rfl rfl ?_
 refine l1 (mvI_r rfl) rfl rfl rfl ?_
 refine cal cb_part_at (pAt_ok ⟨ep, ld, isr, iA, iC, kn, kA, kC, reps, rA, rC, fw, bs⟩ r _ (Hp.pa H 0 rfl) hok hr) rfl rfl ?_
 rintro _ w3 ⟨⟨ep2, ld2, is2, iA2, c1, kn2, kA2, c2, rs, rA2, c3, fw2, bs2⟩, g1, g2, g3, u1, u2, u3, rfl, ha2, ho⟩
 simp only [Pa.a, PaA.mk.injEq] at ha2
 obtain ⟨e1, e2, e3, e4, hma, e6, e7⟩ := ha2
 obtain rfl : ep = ep2 := e1.symm
 obtain rfl : ld = ld2 := e2.symm
 obtain rfl : isr = is2 := e3.symm
 obtain rfl : kn = kn2 := e4.symm
 obtain rfl : fw = fw2 := e6.symm
 obtain rfl : bs = bs2 := e7.symm
 have hrl : rs.length = reps.length := by have := congrArg List.length hma; simpa using this
 obtain ⟨i1, i2, i3, row1, row2, row3, hcp, hlos, -, hjn⟩ := ho
 dsimp only at i1 i2 i3 row1 row2 row3 hcp hlos hjn
 subst i1; subst i2; subst i3
 have hlo0 := H.size
 replace H := H.joinF hjn (by intro f hf; obtain ⟨r, hr, rfl⟩ := List.mem_map.1 hf; exact hlos r hr)
 replace hlos : ∀ r ∈ rs, w.heap.size ≤ r.lo := fun r hr => Nat.le_trans hlo0 (hlos r hr)
 clear hjn
 have hlg := Logs.of (F := [FPa 0 w.heap.size ⟨ep, ld, isr, iA, iC, kn, kA, kC, reps, rA, rC, fw, bs⟩, FRd boolL 0 w.heap.size iA isr, FRd intL 0 w.heap.size kA kn, FRd repL 0 w.heap.size rA reps]) hcp hlos
 have hok2 : ∀ {i : Nat} {x : Rep}, rs[i]? = some x → GL x.es x.s ∧ 0 ≤ x.high ∧ x.high ≤ x.es.length := fun hx => ok_of hma hok hx
 obtain ⟨x, hx⟩ : ∃ x, rs[r]? = some x := ⟨_, List.getElem?_eq_getElem (by omega)⟩
 have hxa := mapa hma hx
 refine l1 (mvU_r rfl) rfl rfl rfl ?_
 refine l1 (exA_r rfl rfl) rfl rfl rfl ?_
 refine l1 (exI_r rfl rfl) rfl rfl rfl ?_
 refine stN H 4 (#[.int .i64 (ep), .int .i64 (ld), .slice (some ⟨g1, 0, none⟩) isr.length c1, .slice (some ⟨g2, 0, none⟩) kn.length c2, .slice (some ⟨g3, 0, none⟩) rs.length c3, .int .i64 (fw), .int .i64 (bs)]) siz_Part rfl rfl rfl rfl rfl (by kernel_rfl) (by kernel_rfl) ?_; intro w4 H
 refine l1 (asI_r rfl) rfl rfl rfl ?_
 refine lw_nil ?_
 refine cw_seq ?_
 refine cw_seq ?_
 refine cw_region ?_
 refine l1 (mvI_r rfl) rfl rfl rfl ?_
 refine l1 (neqF_r rfl rfl rfl) rfl rfl rfl ?_
 refine lw_nil ?_
 refine cw_false rfl ?_
 refine cw_skip ?_
 refine cw_seq ?_
 refine cw_seq ?_
 refine cw_region ?_
 refine l1 (fad_r fd_Part_4 rfl) rfl rfl rfl ?_
 refine l1 (ld_r one_LReplica rfl (cellE (H.ent (i := 4) rfl) rfl)) rfl rfl rfl ?_
 refine l1 (mvI_r rfl) rfl rfl rfl ?_
 refine l1 (ixR_r sl_LReplica rfl rfl (by first | omega | (simp only [List.length_set]; omega))) rfl rfl rfl ?_
 refine l1 (fad_r fd_Replica_0 rfl) rfl rfl rfl ?_
 refine lwB (ldR_r one_bool row3 hx 0 rfl (H.ent (i := 2) rfl) rfl) rfl rfl rfl (fun h22 => ?_) (fun h22 => ?_)
 ·
  refine l1 (not_r rfl) rfl rfl rfl ?_
  refine lw_nil ?_
  refine cw_false rfl ?_
  refine cw_skip ?_
  refine cw_seq ?_
 
  have hlo := H.size
  refine cw_draw mixed [0, 1, 2, 3, 4, 5, 6, 7, 8, 9, 10, 11, 12, 13, 14] [15] [9] [0, 2, 3, 5, 6, 7, 10, 11, 12, 13, 14] (sp [(9, Sp.nrow w4.heap.size byteL (flat x.es) (fun A c => .tuple #[.agg #[.slice A (flat x.es).length c, .int .i64 (lsz x.es x.es.length : Nat)], .int .i64 0]))]) (by kernel_rfl) (by kernel_rfl) (by kernel_rfl) (by kernel_rfl) (fun _ _ _ h => h) (sp_st _) ?_
  refine aw rfl rfl rfl rfl rfl (fun w' hw' => fad_r fd_Part_4 rfl) ?_
  refine aw rfl rfl rfl rfl rfl (fun w' hw' => ld_r one_LReplica rfl (cellE ((H.later hw').ent (i := 4) rfl) rfl)) ?_
  refine aw rfl rfl rfl rfl rfl (fun w' hw' => mvI_r rfl) ?_
  refine aw rfl rfl rfl rfl rfl (fun w' hw' => fad_r fd_Part_4 rfl) ?_
  refine aw rfl rfl rfl rfl rfl (fun w' hw' => ld_r one_LReplica rfl (cellE ((H.later hw').ent (i := 4) rfl) rfl)) ?_
  refine aw rfl rfl rfl rfl rfl (fun w' hw' => mvI_r rfl) ?_
  refine aw rfl rfl rfl rfl rfl (fun w' hw' => ixR_r sl_LReplica rfl rfl (by first | omega | (simp only [List.length_set]; omega))) ?_
  refine aw rfl rfl rfl rfl rfl (fun w' hw' => fad_r fd_Replica_1 rfl) ?_
  refine aw rfl rfl rfl rfl rfl (fun w' hw' => ldRS_r 1 [.slice x.A ((flat x.es).length) x.cap, .int .i64 (((lsz x.es x.s : Nat) : Int))] agg_Log row3 hx rfl rfl ((H.later hw').ent (i := 2) rfl) rfl) ?_
  refine awNRow (gv := (fun A c => .tuple #[.agg #[.slice A (flat x.es).length c, .int .i64 (lsz x.es x.es.length : Nat)], .int .i64 0])) cb_seg_Sync rfl rfl rfl rfl rfl (fun w' hw' => hw'.size) (fun w' hw' => segSync_row (Rep.log x) w' (hlg.log (H.later hw') hx (hok2 hx).1)) rfl ?_; intro A35 c35 hc35
  refine aw rfl rfl rfl rfl rfl (fun w' hw' => mvU_r rfl) ?_
  refine aw rfl rfl rfl rfl rfl (fun w' hw' => exA_r rfl rfl) ?_
  refine aw rfl rfl rfl rfl rfl (fun w' hw' => exI_r rfl rfl) ?_
  refine aw rfl rfl rfl rfl rfl (fun w' hw' => ixR_r sl_LReplica rfl rfl (by first | omega | (simp only [List.length_set]; omega))) ?_
  refine aw rfl rfl rfl rfl rfl (fun w' hw' => fad_r fd_Replica_1 rfl) ?_
  refine aw_nil ?_
  intro w5 hw' hF
  obtain ⟨hF, Aq, cq, eq, hcq, hrw35⟩ := hF; cases eq; clear hcq
  replace H := H.learnRd hw' hrw35
  clear hw' hF
  refine stR H 2 ({ x with A := A35, cap := c35, s := x.es.length, lo := w4.heap.size, hi := w5.heap.size }) siz_Log row3 hx 1 rfl rfl rfl rfl rfl rfl (by kernel_rfl) ?_; intro w7 cur6 row6 H
  have hs8 : (rs.set r ({ x with A := A35, cap := c35, s := x.es.length, lo := w4.heap.size, hi := w5.heap.size }))[r]? = some ({ x with A := A35, cap := c35, s := x.es.length, lo := w4.heap.size, hi := w5.heap.size }) := List.getElem?_set_self (getE hx).1
  refine lw_nil ?_
  refine cw_seq ?_
  refine cw_seq ?_
  have hlg1 := (hlg.cons (f := FRd byteL w4.heap.size w5.heap.size A35 (flat x.es))).set r (x := { x with A := A35, cap := c35, s := x.es.length, lo := w4.heap.size, hi := w5.heap.size }) ⟨hc35, hlo, List.Mem.head _⟩
  have hs9 : (rs.set r { x with A := A35, cap := c35, s := x.es.length, lo := w4.heap.size, hi := w5.heap.size })[r]? = some { x with A := A35, cap := c35, s := x.es.length, lo := w4.heap.size, hi := w5.heap.size } := List.getElem?_set_self (by omega)
  have hF9 := (hlg1 _ (List.mem_of_getElem? hs9)).2.2
  have hc9 := (hlg1 _ (List.mem_of_getElem? hs9)).1
  refine cw_region ?_
  refine l1 (mvI_r rfl) rfl rfl rfl ?_
  refine l1 (fad_r fd_Part_1 rfl) rfl rfl rfl ?_
  refine l1 (ld_r one_int rfl (cellE (H.ent (i := 4) rfl) rfl)) rfl rfl rfl ?_
  refine lwD (eql_r rfl rfl) rfl rfl rfl (fun h43 => ?_) (fun h43 => ?_)
  ·
   refine lw_nil ?_
   refine cw_true rfl ?_
   refine cw_seq ?_
  
   obtain ⟨kx, hkx⟩ : ∃ kx, kn[r]? = some kx := ⟨_, List.getElem?_eq_getElem (by omega)⟩
   refine cw_draw mixed [0, 1, 2, 3, 4, 5, 6, 7, 8, 9] [10] [5] [0, 2, 4, 6, 7, 8, 9] (sp [(5, Sp.one (.tuple #[.int .i64 ((x.es.length : Nat) : Int), .int .i64 ((x.es.length : Nat) : Int)]))]) (by kernel_rfl) (by kernel_rfl) (by kernel_rfl) (by kernel_rfl) (fun _ _ _ h => h) (sp_st _) ?_
   refine aw rfl rfl rfl rfl rfl (fun w' hw' => fad_r fd_Part_3 rfl) ?_
   refine aw rfl rfl rfl rfl rfl (fun w' hw' => ld_r one_Lint rfl (cellE ((H.later hw').ent (i := 4) rfl) rfl)) ?_
   refine aw rfl rfl rfl rfl rfl (fun w' hw' => mvI_r rfl) ?_
   refine aw rfl rfl rfl rfl rfl (fun w' hw' => ldW_r agg_Part rfl ((H.later hw').ent (i := 4) rfl) rfl) ?_
   refine aw rfl rfl rfl rfl rfl (fun w' hw' => mvI_r rfl) ?_
   refine awCalV cb_part_ends rfl rfl rfl rfl rfl (fun w' hw' => (by have hA := pEnds_ok ⟨ep, ld, isr, some ⟨g1, 0, none⟩, c1, kn, some ⟨g2, 0, none⟩, c2, rs.set r { x with A := A35, cap := c35, s := x.es.length, lo := w4.heap.size, hi := w5.heap.size }, some ⟨g3, 0, none⟩, c3, fw, bs⟩ r { x with A := A35, cap := c35, s := x.es.length, lo := w4.heap.size, hi := w5.heap.size } w' (row6.rd0 ((H.later hw').ent (i := 2) rfl)) hs9 (hlg1.log (H.later hw') hs9 (hok2 hx).1.all); simp only [Pa.v, Pa.c, List.length_set] at hA; exact hA)) rfl ?_
   refine aw rfl rfl rfl rfl rfl (fun w' hw' => mvU_r rfl) ?_
   refine aw rfl rfl rfl rfl rfl (fun w' hw' => exI_r rfl rfl) ?_
   refine aw rfl rfl rfl rfl rfl (fun w' hw' => exI_r rfl rfl) ?_
   refine aw rfl rfl rfl rfl rfl (fun w' hw' => ixR_r sl_Lint rfl rfl (by first | omega | (simp only [List.length_set]; omega))) ?_
   refine aw_nil ?_
   intro w9 hw' hF
   replace H := H.later hw'; clear hw' hF
   refine stR H 1 ((((x.es.length : Nat) : Int))) siz_int row2 hkx 0 rfl rfl rfl rfl rfl rfl (by kernel_rfl) ?_; intro w11 cur10 row10 H
   have hs12 : (kn.set r ((((x.es.length : Nat) : Int))))[r]? = some ((((x.es.length : Nat) : Int))) := List.getElem?_set_self (getE hkx).1
   refine lw_nil ?_
   refine cw_region ?_
   refine l1 (ldW_r agg_Part rfl (H.ent (i := 4) rfl) rfl) rfl rfl rfl ?_
   refine cal cb_part_advance ((by have hA := pAdv_ok ep ld isr c1 (kn.set r ((x.es.length : Nat) : Int)) c2 (rs.set r { x with A := A35, cap := c35, s := x.es.length, lo := w4.heap.size, hi := w5.heap.size }) c3 fw bs r ({ x with A := A35, cap := c35, s := x.es.length, lo := w4.heap.size, hi := w5.heap.size }) H row1 row10 row6 (by simp only [List.length_set]; omega) (by simp only [List.length_set, List.length_replicate]; omega) (by simp only [List.length_set]; omega) h43.symm hs9 hF9 (hok2 hx).1.all hc9; simp only [Pa.v, Pa.c, List.length_set] at hA; exact hA)) rfl rfl ?_
   rintro _ w13 ⟨u9, rfl, row9, H⟩
   refine stN H 4 (#[.int .i64 (ep), .int .i64 (ld), .slice (some ⟨g1, 0, none⟩) isr.length c1, .slice (some ⟨g2, 0, none⟩) kn.length c2, .slice (some ⟨g3, 0, none⟩) rs.length c3, .int .i64 (fw), .int .i64 (bs)]) siz_Part rfl rfl rfl rfl rfl (by kernel_rfl) (by kernel_rfl) ?_; intro w14 H
   refine lw_nil ?_
   refine cw_seq ?_
   refine cw_region ?_
   refine l1 (ldW_r agg_Part rfl (H.ent (i := 4) rfl) rfl) rfl rfl rfl ?_
   refine stN H 3 (#[.int .i64 (ep), .int .i64 (ld), .slice (some ⟨g1, 0, none⟩) isr.length c1, .slice (some ⟨g2, 0, none⟩) kn.length c2, .slice (some ⟨g3, 0, none⟩) rs.length c3, .int .i64 (fw), .int .i64 (bs)]) siz_Part rfl rfl rfl rfl rfl (by kernel_rfl) (by kernel_rfl) ?_; intro w15 H
   refine l1 (asI_r rfl) rfl rfl rfl ?_
   refine lw_nil ?_
   refine cw_ret ?_
   have hS : syncA (Pa.a ⟨ep, ld, isr, iA, iC, kn, kA, kC, reps, rA, rC, fw, bs⟩) r = (advA { Pa.a ⟨ep, ld, isr, iA, iC, kn, kA, kC, reps, rA, rC, fw, bs⟩ with reps := (reps.map Rep.a).set r { x.a with s := x.es.length }, known := kn.set r ((x.es.length : Nat) : Int) }, 0) := by simp [syncA, Pa.a, hxa, Rep.a, h22, ← h43]
   rw [hS]
   rw [advA_at (l := r) (r := { x.a with s := x.es.length }) h43.symm (List.getElem?_set_self (by simp; omega))]
   have hlg2 := hlg1.same r (x' := { x with A := A35, cap := c35, s := x.es.length, lo := w4.heap.size, hi := w5.heap.size, high := max x.high (min (leastA isr (kn.set r ((x.es.length : Nat) : Int)) 400) (x.es.length : Nat)) }) hs9 rfl rfl rfl rfl rfl
   exact finCTn (cs0 := #[.int .i64 (ep), .int .i64 (ld), .slice (some ⟨g1, 0, none⟩) isr.length c1, .slice (some ⟨g2, 0, none⟩) kn.length c2, .slice (some ⟨g3, 0, none⟩) rs.length c3, .int .i64 (fw), .int .i64 (bs)]) (v1 := .int .i64 0) rfl agg_Part rfl (H.ent (i := 3) rfl) rfl rfl ⟨_, by simp [Pa.c], by simp [Pa.a, List.map_set, hma, Rep.a], (NewPa.mk_ (p := ⟨ep, ld, isr, some ⟨g1, 0, none⟩, c1, kn.set r ((x.es.length : Nat) : Int), some ⟨g2, 0, none⟩, c2, _, some ⟨g3, 0, none⟩, c3, fw, bs⟩) rfl rfl rfl row1 row10 row9 hlg2 (by dsimp only; try simp only [List.length_set]; omega) H ⟨by simp, by simp, by simp⟩)⟩
  ·
   refine lw_nil ?_
   refine cw_false rfl ?_
   refine cw_skip ?_
   refine cw_seq ?_
   refine cw_region ?_
   refine l1 (ldW_r agg_Part rfl (H.ent (i := 4) rfl) rfl) rfl rfl rfl ?_
   refine stN H 3 (#[.int .i64 (ep), .int .i64 (ld), .slice (some ⟨g1, 0, none⟩) isr.length c1, .slice (some ⟨g2, 0, none⟩) kn.length c2, .slice (some ⟨g3, 0, none⟩) rs.length c3, .int .i64 (fw), .int .i64 (bs)]) siz_Part rfl rfl rfl rfl rfl (by kernel_rfl) (by kernel_rfl) ?_; intro w16 H
   refine l1 (asI_r rfl) rfl rfl rfl ?_
   refine lw_nil ?_
   refine cw_ret ?_
   have hS : syncA (Pa.a ⟨ep, ld, isr, iA, iC, kn, kA, kC, reps, rA, rC, fw, bs⟩) r = ({ Pa.a ⟨ep, ld, isr, iA, iC, kn, kA, kC, reps, rA, rC, fw, bs⟩ with reps := (reps.map Rep.a).set r { x.a with s := x.es.length } }, 0) := by simp [syncA, Pa.a, hxa, Rep.a, h22, show ¬ ld = (r : Int) from fun h => h43 h.symm]
   rw [hS]
   exact finCTn (cs0 := #[.int .i64 (ep), .int .i64 (ld), .slice (some ⟨g1, 0, none⟩) isr.length c1, .slice (some ⟨g2, 0, none⟩) kn.length c2, .slice (some ⟨g3, 0, none⟩) rs.length c3, .int .i64 (fw), .int .i64 (bs)]) (v1 := .int .i64 0) rfl agg_Part rfl (H.ent (i := 3) rfl) rfl rfl ⟨_, by simp [Pa.c], by simp [Pa.a, List.map_set, hma, Rep.a], (NewPa.mk_ (p := ⟨ep, ld, isr, some ⟨g1, 0, none⟩, c1, kn, some ⟨g2, 0, none⟩, c2, rs.set r { x with A := A35, cap := c35, s := x.es.length, lo := w4.heap.size, hi := w5.heap.size }, some ⟨g3, 0, none⟩, c3, fw, bs⟩) rfl rfl rfl row1 row2 row6 hlg1 (by dsimp only; try simp only [List.length_set]; omega) H ⟨by simp, by simp, by simp⟩)⟩
 ·
  refine l1 (not_r rfl) rfl rfl rfl ?_
  refine lw_nil ?_
  refine cw_true rfl ?_
  refine cw_seq ?_
  refine cw_region ?_
  refine l1 (bld_r (cs := #[.int .i64 (0), .int .i64 (0), .slice none 0 0, .slice none 0 0, .slice none 0 0, .int .i64 (0), .int .i64 (0)]) st_Part z_Part (by kernel_rfl)) rfl rfl rfl ?_
  refine stN H 3 (#[.int .i64 (0), .int .i64 (0), .slice none 0 0, .slice none 0 0, .slice none 0 0, .int .i64 (0), .int .i64 (0)]) siz_Part rfl rfl rfl rfl rfl (by kernel_rfl) (by kernel_rfl) ?_; intro w17 H
  refine l1 (asI_r rfl) rfl rfl rfl ?_
  refine lw_nil ?_
  refine cw_ret ?_
  have hS : syncA (Pa.a ⟨ep, ld, isr, iA, iC, kn, kA, kC, reps, rA, rC, fw, bs⟩) r = (zPaA, 7) := by simp [syncA, Pa.a, hxa, Rep.a, h22]
  rw [hS]
  exact finCTn (cs0 := #[.int .i64 0, .int .i64 0, .slice none 0 0, .slice none 0 0, .slice none 0 0, .int .i64 0, .int .i64 0]) (v1 := .int .i64 7) rfl agg_Part rfl (H.ent (i := 3) rfl) rfl rfl ⟨zPa, rfl, rfl, NewPa.zero H.below⟩
end Go.Proofs.Ytemnchkebhclpaa
end

section
namespace Go.Proofs.Ytemnchkebhclpaa
open Go Go.Eng Go.RowKit
set_option linter.unusedSimpArgs false
/-- P4.7: a replica's crash -/
def crashA (p : PaA) (r keep : Nat) : PaA × Int := match p.reps[r]? with
 | none => (zPaA, 5)
 | some x => if x.up = false then (zPaA, 7) else
  ({ p with reps := p.reps.set r { up := false, es := x.es.take (crashN x.es x.s keep), s := crashN x.es x.s keep, high := min x.high (((x.es.take (crashN x.es x.s keep)).length : Nat) : Int) }, known := p.known.set r 0, leader := if p.leader = r then -1 else p.leader }, 0)
def wipeA (p : PaA) (r : Nat) : PaA × Int := match p.reps[r]? with
 | none => (zPaA, 5)
 | some x => if x.up = true then (zPaA, 12) else if true ∉ p.isr.set r false then (zPaA, 8) else
  ({ p with reps := p.reps.set r ⟨false, [], 0, 0⟩, known := p.known.set r 0, isr := p.isr.set r false }, 0)
set_option maxHeartbeats 4000000 in
set_option maxRecDepth 10000 in
theorem pCrash_ok (p : Pa) (r keep : Nat) (w : World) (h : p.rd 0 w.heap.size w) (hok : p.a.ok) (hr : r < p.reps.length) (hkp : keep ≤ 1000000000000) : Ret Try.prog i_part_Crash [p.v, .int .i64 (r : Nat), .int .i64 (keep : Nat)] w fun v w2 => ∃ p' : Pa, v = .tuple #[p'.v, .int .i64 (crashA p.a r keep).2] ∧ p'.a = (crashA p.a r keep).1 ∧ NewPa w w2 p' := by
 refine ret_of fn_part_Crash rfl rfl ?_
 obtain ⟨hn1, hn2, hil, hkl, hf1, hf2, he0, he1, hl0, hl1, hb0, hb1, hsm⟩ := Pa.facts hok
 have hkn := hok.known
 have hiC := h.iC
 have hkC := h.kC
 have hrC := h.rC
 have hfew := h.few
 have H := Hp.startPa h
 obtain ⟨ep, ld, isr, iA, iC, kn, kA, kC, reps, rA, rC, fw, bs⟩ := p
 simp only [Pa.a] at hkn
 dsimp only at H hn1 hn2 hil hkl hf1 hf2 he0 he1 hl0 hl1 hb0 hb1 hsm hiC hkC hrC hfew
 dsimp only at hr
 show CW _ _ _ _ (args [.agg #[.int .i64 (ep), .int .i64 (ld), .slice iA isr.length iC, .slice kA kn.length kC, .slice rA reps.length rC, .int .i64 (fw), .int .i64 (bs)], .int .i64 (((r : Nat) : Int)), .int .i64 (((keep : Nat) : Int))]) w
 refine cw_seq ?_
 refine cw_region ?_
 refine bxA H rfl rfl ?_; intro w1 b3 H
 refine alo H z_Part rfl ?_; intro w2 b6 H
 refine l1 (asI_r rfl) rfl rfl rfl ?_
 refine lw_nil ?_
 refine cw_seq ?_
 refine cw_region ?_
 refine l1 (ldW_r agg_Part rfl (H.ent (i := 1) rfl) rfl) rfl rfl rfl ?_
 refine l1 (mvI_r rfl) rfl rfl rfl ?_
 refine cal cb_part_at (pAt_ok ⟨ep, ld, isr, iA, iC, kn, kA, kC, reps, rA, rC, fw, bs⟩ r _ (Hp.pa H 0 rfl) hok hr) rfl rfl ?_
 rintro _ w3 ⟨⟨ep2, ld2, is2, iA2, c1, kn2, kA2, c2, rs, rA2, c3, fw2, bs2⟩, g1, g2, g3, u1, u2, u3, rfl, ha2, ho⟩
 simp only [Pa.a, PaA.mk.injEq] at ha2
 obtain ⟨e1, e2, e3, e4, hma, e6, e7⟩ := ha2
 obtain rfl : ep = ep2 := e1.symm
 obtain rfl : ld = ld2 := e2.symm
 obtain rfl : isr = is2 := e3.symm
 obtain rfl : kn = kn2 := e4.symm
 obtain rfl : fw = fw2 := e6.symm
 obtain rfl : bs = bs2 := e7.symm
 have hrl : rs.length = reps.length := by have := congrArg List.length hma; simpa using this
 obtain ⟨i1, i2, i3, row1, row2, row3, hcp, hlos, -, hjn⟩ := ho
 dsimp only at i1 i2 i3 row1 row2 row3 hcp hlos hjn
 subst i1; subst i2; subst i3
 have hlo0 := H.size
 replace H := H.joinF hjn (by intro f hf; obtain ⟨r, hr, rfl⟩ := List.mem_map.1 hf; exact hlos r hr)
 replace hlos : ∀ r ∈ rs, w.heap.size ≤ r.lo := fun r hr => Nat.le_trans hlo0 (hlos r hr)
 clear hjn
 have hlg := Logs.of (F := [FPa 0 w.heap.size ⟨ep, ld, isr, iA, iC, kn, kA, kC, reps, rA, rC, fw, bs⟩, FRd boolL 0 w.heap.size iA isr, FRd intL 0 w.heap.size kA kn, FRd repL 0 w.heap.size rA reps]) hcp hlos
 have hok2 : ∀ {i : Nat} {x : Rep}, rs[i]? = some x → GL x.es x.s ∧ 0 ≤ x.high ∧ x.high ≤ x.es.length := fun hx => ok_of hma hok hx
 obtain ⟨x, hx⟩ : ∃ x, rs[r]? = some x := ⟨_, List.getElem?_eq_getElem (by omega)⟩
 have hxa := mapa hma hx
 refine l1 (mvU_r rfl) rfl rfl rfl ?_
 refine l1 (exA_r rfl rfl) rfl rfl rfl ?_
 refine l1 (exI_r rfl rfl) rfl rfl rfl ?_
 refine stN H 4 (#[.int .i64 (ep), .int .i64 (ld), .slice (some ⟨g1, 0, none⟩) isr.length c1, .slice (some ⟨g2, 0, none⟩) kn.length c2, .slice (some ⟨g3, 0, none⟩) rs.length c3, .int .i64 (fw), .int .i64 (bs)]) siz_Part rfl rfl rfl rfl rfl (by kernel_rfl) (by kernel_rfl) ?_; intro w4 H
 refine l1 (asI_r rfl) rfl rfl rfl ?_
 refine lw_nil ?_
 refine cw_seq ?_
 refine cw_seq ?_
 refine cw_region ?_
 refine l1 (mvI_r rfl) rfl rfl rfl ?_
 refine l1 (neqF_r rfl rfl rfl) rfl rfl rfl ?_
 refine lw_nil ?_
 refine cw_false rfl ?_
 refine cw_skip ?_
 refine cw_seq ?_
 refine cw_region ?_
 refine l1 (fad_r fd_Part_4 rfl) rfl rfl rfl ?_
 refine l1 (ld_r one_LReplica rfl (cellE (H.ent (i := 4) rfl) rfl)) rfl rfl rfl ?_
 refine l1 (mvI_r rfl) rfl rfl rfl ?_
 refine l1 (ixR_r sl_LReplica rfl rfl (by first | omega | (simp only [List.length_set]; omega))) rfl rfl rfl ?_
 refine l1 (asP_r rfl) rfl rfl rfl ?_
 refine lw_nil ?_
 refine cw_seq ?_
 refine cw_seq ?_
 refine cw_region ?_
 refine l1 (mvP_r rfl) rfl rfl rfl ?_
 refine l1 (nck_r rfl) rfl rfl rfl ?_
 refine l1 (fad_r fd_Replica_0 rfl) rfl rfl rfl ?_
 refine lwB (ldR_r one_bool row3 hx 0 rfl (H.ent (i := 2) rfl) rfl) rfl rfl rfl (fun h30 => ?_) (fun h30 => ?_)
 ·
  refine l1 (not_r rfl) rfl rfl rfl ?_
  refine lw_nil ?_
  refine cw_false rfl ?_
  refine cw_skip ?_
  refine cw_seq ?_
  obtain ⟨m, hm⟩ : ∃ m, crashN x.es x.s keep = m := ⟨_, rfl⟩
  have hlo := H.size
  refine cw_region ?_
  refine l1 (mvP_r rfl) rfl rfl rfl ?_
  refine l1 (nck_r rfl) rfl rfl rfl ?_
  refine l1 (fad_r fd_Replica_1 rfl) rfl rfl rfl ?_
  refine l1 (ldRS_r 1 [.slice x.A ((flat x.es).length) x.cap, .int .i64 (((lsz x.es x.s : Nat) : Int))] agg_Log row3 hx rfl rfl (H.ent (i := 2) rfl) rfl) rfl rfl rfl ?_
  refine l1 (mvI_r rfl) rfl rfl rfl ?_
  refine cal cb_seg_Crash ((by have hA := segCrash_ok (Rep.log x) keep _ (hlg.log H hx (hok2 hx).1) hkp; dsimp only [Rep.log] at hA; rw [hm] at hA; exact hA)) rfl rfl ?_
  rintro _ w5 ⟨A39, c39, rfl, ⟨hgl9, hc39, hr39⟩, hb39⟩; replace H := H.learnRd hb39 hr39; clear hb39 hr39
  refine l1 (mvU_r rfl) rfl rfl rfl ?_
  refine l1 (exA_r rfl rfl) rfl rfl rfl ?_
  refine l1 (exI_r rfl rfl) rfl rfl rfl ?_
  refine alo H z_Log rfl ?_; intro w6 b10 H
  refine stN H 0 (#[.slice A39 ((flat (x.es.take m)).length) c39, .int .i64 (((lsz (x.es.take m) m : Nat) : Int))]) siz_Log rfl rfl rfl rfl rfl (by kernel_rfl) (by kernel_rfl) ?_; intro w7 H
  refine l1 (asI_r rfl) rfl rfl rfl ?_
  refine lw_nil ?_
  refine cw_seq ?_
  refine cw_seq ?_
  refine cw_region ?_
  refine l1 (mvI_r rfl) rfl rfl rfl ?_
  refine l1 (neqF_r rfl rfl rfl) rfl rfl rfl ?_
  refine lw_nil ?_
  refine cw_false rfl ?_
  refine cw_skip ?_
  refine cw_seq ?_
  obtain ⟨kx, hkx⟩ : ∃ kx, kn[r]? = some kx := ⟨_, List.getElem?_eq_getElem (by omega)⟩
  refine cw_cut (τ := Unit) [46, 47, 48, 49, 50, 51, 52, 53, 54, 55, 56] (fun _ => []) (fun _ w' => ∃ v2 v3, Row intL (kn.set r 0) c2 v2 ∧ Row repL (rs.set r { x with up := false, A := A39, cap := c39, es := (x.es.take m), s := m, lo := w4.heap.size, hi := w5.heap.size }) c3 v3 ∧ Hp w w' [(b10, .cells #[.slice A39 ((flat (x.es.take m)).length) c39, .int .i64 (((lsz (x.es.take m) m : Nat) : Int))] T_Log (0, 0)), (g1, .cells u1 T_bool (0, 0)), (g2, .cells v2 T_int (0, 0)), (g3, .cells v3 T_Replica (0, 0)), (b6, .cells #[.int .i64 0, .int .i64 0, .slice none 0 0, .slice none 0 0, .slice none 0 0, .int .i64 0, .int .i64 0] T_Part (0, 0)), (b3, .cells #[.int .i64 (ep), .int .i64 (ld), .slice (some ⟨g1, 0, none⟩) isr.length c1, .slice (some ⟨g2, 0, none⟩) kn.length c2, .slice (some ⟨g3, 0, none⟩) rs.length c3, .int .i64 (fw), .int .i64 (bs)] T_Part (0, 0))] ([FRd byteL w4.heap.size w5.heap.size A39 (flat (x.es.take m)), FPa 0 w.heap.size ⟨ep, ld, isr, iA, iC, kn, kA, kC, reps, rA, rC, fw, bs⟩, FRd boolL 0 w.heap.size iA isr, FRd intL 0 w.heap.size kA kn, FRd repL 0 w.heap.size rA reps] ++ repsF rs)) ?_ ?_
  ·
   skip
  
   refine cw_tree mixed [0, 1, 2, 4] [3, 5, 6, 7, 8, 9, 10, 11, 12, 13] [0, 1, 2, 4] 10 (by kernel_rfl) (by kernel_rfl) (by kernel_rfl) (fun _ _ _ h => h) ?_
   refine aw rfl rfl rfl rfl rfl (fun w' hw' => mvP_r rfl) ?_
   refine aw rfl rfl rfl rfl rfl (fun w' hw' => mvP_r rfl) ?_
   refine aw rfl rfl rfl rfl rfl (fun w' hw' => fad_r fd_Part_3 rfl) ?_
   refine aw rfl rfl rfl rfl rfl (fun w' hw' => mvI_r rfl) ?_
   refine aw_nil ?_
   intro w8 hw'; replace H := H.later hw'; clear hw'
   refine xw2 3 5 (by kernel_rfl) rfl rfl ?_ ?_ 
   ·
    refine l1 (ld_r one_Lint rfl (cellE (H.ent (i := 5) rfl) rfl)) rfl rfl rfl ?_
    refine lw_nil ?_
    refine xw1 5 (by kernel_rfl) rfl ?_ 
    refine l1 (ldW_r agg_Log rfl (H.ent (i := 0) rfl) rfl) rfl rfl rfl ?_
    refine lw_nil ?_
    refine xw1 6 (by kernel_rfl) rfl ?_ 
    refine l1 (nck_r rfl) rfl rfl rfl ?_
    refine lw_nil ?_
    refine xw1 7 (by kernel_rfl) rfl ?_ 
    refine l1 (fad_r fd_Replica_1 rfl) rfl rfl rfl ?_
    refine lw_nil ?_
    refine xw1 8 (by kernel_rfl) rfl ?_ 
    refine stR H 3 ({ x with A := A39, cap := c39, es := (x.es.take m), s := m, lo := w4.heap.size, hi := w5.heap.size }) siz_Log row3 hx 1 rfl rfl rfl rfl rfl rfl (by kernel_rfl) ?_; intro w10 cur9 row9 H
    have hs11 : (rs.set r ({ x with A := A39, cap := c39, es := (x.es.take m), s := m, lo := w4.heap.size, hi := w5.heap.size }))[r]? = some ({ x with A := A39, cap := c39, es := (x.es.take m), s := m, lo := w4.heap.size, hi := w5.heap.size }) := List.getElem?_set_self (getE hx).1
    refine lw_nil ?_
    refine xw1 9 (by kernel_rfl) rfl ?_ 
    refine l1 (nck_r rfl) rfl rfl rfl ?_
    refine lw_nil ?_
    refine xw1 10 (by kernel_rfl) rfl ?_ 
    refine l1 (fad_r fd_Replica_0 rfl) rfl rfl rfl ?_
    refine lw_nil ?_
    refine xw1 11 (by kernel_rfl) rfl ?_ 
    refine stR H 3 ({ x with up := false, A := A39, cap := c39, es := (x.es.take m), s := m, lo := w4.heap.size, hi := w5.heap.size }) siz_bool row9 hs11 0 rfl rfl rfl rfl rfl rfl (by kernel_rfl) ?_; intro w13 cur12 row12 H
    have hs14 : ((rs.set r ({ x with A := A39, cap := c39, es := (x.es.take m), s := m, lo := w4.heap.size, hi := w5.heap.size })).set r ({ x with up := false, A := A39, cap := c39, es := (x.es.take m), s := m, lo := w4.heap.size, hi := w5.heap.size }))[r]? = some ({ x with up := false, A := A39, cap := c39, es := (x.es.take m), s := m, lo := w4.heap.size, hi := w5.heap.size }) := List.getElem?_set_self (getE hs11).1
    refine lw_nil ?_
    refine xw1 12 (by kernel_rfl) rfl ?_ 
    refine l1 (ixR_r sl_Lint rfl rfl (by first | omega | (simp only [List.length_set]; omega))) rfl rfl rfl ?_
    refine lw_nil ?_
    refine xw1 13 (by kernel_rfl) rfl ?_ 
    refine stR H 2 ((0)) siz_int row2 hkx 0 rfl rfl rfl rfl rfl rfl (by kernel_rfl) ?_; intro w16 cur15 row15 H
    have hs17 : (kn.set r ((0)))[r]? = some ((0)) := List.getElem?_set_self (getE hkx).1
    refine lw_nil ?_
    refine xw_end (by kernel_rfl) ?_
    exact ⟨(), ⟨_, _, row15, (by have := row12; rwa [List.set_set] at this), H⟩, sl0, by repeat (first | exact Agr.refl _ _ | exact agr_ovr | refine agr_upd rfl ?_ | refine agr_updL _ rfl ?_ | refine agr_ovr2 rfl ?_)⟩
   ·
    refine l1 (ldW_r agg_Log rfl (H.ent (i := 0) rfl) rfl) rfl rfl rfl ?_
    refine lw_nil ?_
    refine xw2 3 6 (by kernel_rfl) rfl rfl ?_ ?_ 
    ·
     refine l1 (ld_r one_Lint rfl (cellE (H.ent (i := 5) rfl) rfl)) rfl rfl rfl ?_
     refine lw_nil ?_
     refine xw1 6 (by kernel_rfl) rfl ?_ 
     refine l1 (nck_r rfl) rfl rfl rfl ?_
     refine lw_nil ?_
     refine xw1 7 (by kernel_rfl) rfl ?_ 
     refine l1 (fad_r fd_Replica_1 rfl) rfl rfl rfl ?_
     refine lw_nil ?_
     refine xw1 8 (by kernel_rfl) rfl ?_ 
     refine stR H 3 ({ x with A := A39, cap := c39, es := (x.es.take m), s := m, lo := w4.heap.size, hi := w5.heap.size }) siz_Log row3 hx 1 rfl rfl rfl rfl rfl rfl (by kernel_rfl) ?_; intro w19 cur18 row18 H
     have hs20 : (rs.set r ({ x with A := A39, cap := c39, es := (x.es.take m), s := m, lo := w4.heap.size, hi := w5.heap.size }))[r]? = some ({ x with A := A39, cap := c39, es := (x.es.take m), s := m, lo := w4.heap.size, hi := w5.heap.size }) := List.getElem?_set_self (getE hx).1
     refine lw_nil ?_
     refine xw1 9 (by kernel_rfl) rfl ?_ 
     refine l1 (nck_r rfl) rfl rfl rfl ?_
     refine lw_nil ?_
     refine xw1 10 (by kernel_rfl) rfl ?_ 
     refine l1 (fad_r fd_Replica_0 rfl) rfl rfl rfl ?_
     refine lw_nil ?_
     refine xw1 11 (by kernel_rfl) rfl ?_ 
     refine stR H 3 ({ x with up := false, A := A39, cap := c39, es := (x.es.take m), s := m, lo := w4.heap.size, hi := w5.heap.size }) siz_bool row18 hs20 0 rfl rfl rfl rfl rfl rfl (by kernel_rfl) ?_; intro w22 cur21 row21 H
     have hs23 : ((rs.set r ({ x with A := A39, cap := c39, es := (x.es.take m), s := m, lo := w4.heap.size, hi := w5.heap.size })).set r ({ x with up := false, A := A39, cap := c39, es := (x.es.take m), s := m, lo := w4.heap.size, hi := w5.heap.size }))[r]? = some ({ x with up := false, A := A39, cap := c39, es := (x.es.take m), s := m, lo := w4.heap.size, hi := w5.heap.size }) := List.getElem?_set_self (getE hs20).1
     refine lw_nil ?_
     refine xw1 12 (by kernel_rfl) rfl ?_ 
     refine l1 (ixR_r sl_Lint rfl rfl (by first | omega | (simp only [List.length_set]; omega))) rfl rfl rfl ?_
     refine lw_nil ?_
     refine xw1 13 (by kernel_rfl) rfl ?_ 
     refine stR H 2 ((0)) siz_int row2 hkx 0 rfl rfl rfl rfl rfl rfl (by kernel_rfl) ?_; intro w25 cur24 row24 H
     have hs26 : (kn.set r ((0)))[r]? = some ((0)) := List.getElem?_set_self (getE hkx).1
     refine lw_nil ?_
     refine xw_end (by kernel_rfl) ?_
     exact ⟨(), ⟨_, _, row24, (by have := row21; rwa [List.set_set] at this), H⟩, sl0, by repeat (first | exact Agr.refl _ _ | exact agr_ovr | refine agr_upd rfl ?_ | refine agr_updL _ rfl ?_ | refine agr_ovr2 rfl ?_)⟩
    ·
     refine l1 (nck_r rfl) rfl rfl rfl ?_
     refine lw_nil ?_
     refine xw2 3 7 (by kernel_rfl) rfl rfl ?_ ?_ 
     ·
      refine l1 (ld_r one_Lint rfl (cellE (H.ent (i := 5) rfl) rfl)) rfl rfl rfl ?_
      refine lw_nil ?_
      refine xw1 7 (by kernel_rfl) rfl ?_ 
      refine l1 (fad_r fd_Replica_1 rfl) rfl rfl rfl ?_
      refine lw_nil ?_
      refine xw1 8 (by kernel_rfl) rfl ?_ 
      refine stR H 3 ({ x with A := A39, cap := c39, es := (x.es.take m), s := m, lo := w4.heap.size, hi := w5.heap.size }) siz_Log row3 hx 1 rfl rfl rfl rfl rfl rfl (by kernel_rfl) ?_; intro w28 cur27 row27 H
      have hs29 : (rs.set r ({ x with A := A39, cap := c39, es := (x.es.take m), s := m, lo := w4.heap.size, hi := w5.heap.size }))[r]? = some ({ x with A := A39, cap := c39, es := (x.es.take m), s := m, lo := w4.heap.size, hi := w5.heap.size }) := List.getElem?_set_self (getE hx).1
      refine lw_nil ?_
      refine xw1 9 (by kernel_rfl) rfl ?_ 
      refine l1 (nck_r rfl) rfl rfl rfl ?_
      refine lw_nil ?_
      refine xw1 10 (by kernel_rfl) rfl ?_ 
      refine l1 (fad_r fd_Replica_0 rfl) rfl rfl rfl ?_
      refine lw_nil ?_
      refine xw1 11 (by kernel_rfl) rfl ?_ 
      refine stR H 3 ({ x with up := false, A := A39, cap := c39, es := (x.es.take m), s := m, lo := w4.heap.size, hi := w5.heap.size }) siz_bool row27 hs29 0 rfl rfl rfl rfl rfl rfl (by kernel_rfl) ?_; intro w31 cur30 row30 H
      have hs32 : ((rs.set r ({ x with A := A39, cap := c39, es := (x.es.take m), s := m, lo := w4.heap.size, hi := w5.heap.size })).set r ({ x with up := false, A := A39, cap := c39, es := (x.es.take m), s := m, lo := w4.heap.size, hi := w5.heap.size }))[r]? = some ({ x with up := false, A := A39, cap := c39, es := (x.es.take m), s := m, lo := w4.heap.size, hi := w5.heap.size }) := List.getElem?_set_self (getE hs29).1
      refine lw_nil ?_
      refine xw1 12 (by kernel_rfl) rfl ?_ 
      refine l1 (ixR_r sl_Lint rfl rfl (by first | omega | (simp only [List.length_set]; omega))) rfl rfl rfl ?_
      refine lw_nil ?_
      refine xw1 13 (by kernel_rfl) rfl ?_ 
      refine stR H 2 ((0)) siz_int row2 hkx 0 rfl rfl rfl rfl rfl rfl (by kernel_rfl) ?_; intro w34 cur33 row33 H
      have hs35 : (kn.set r ((0)))[r]? = some ((0)) := List.getElem?_set_self (getE hkx).1
      refine lw_nil ?_
      refine xw_end (by kernel_rfl) ?_
      exact ⟨(), ⟨_, _, row33, (by have := row30; rwa [List.set_set] at this), H⟩, sl0, by repeat (first | exact Agr.refl _ _ | exact agr_ovr | refine agr_upd rfl ?_ | refine agr_updL _ rfl ?_ | refine agr_ovr2 rfl ?_)⟩
     ·
      refine l1 (fad_r fd_Replica_1 rfl) rfl rfl rfl ?_
      refine lw_nil ?_
      refine xw2 3 8 (by kernel_rfl) rfl rfl ?_ ?_ 
      ·
       refine l1 (ld_r one_Lint rfl (cellE (H.ent (i := 5) rfl) rfl)) rfl rfl rfl ?_
       refine lw_nil ?_
       refine xw1 8 (by kernel_rfl) rfl ?_ 
       refine stR H 3 ({ x with A := A39, cap := c39, es := (x.es.take m), s := m, lo := w4.heap.size, hi := w5.heap.size }) siz_Log row3 hx 1 rfl rfl rfl rfl rfl rfl (by kernel_rfl) ?_; intro w37 cur36 row36 H
       have hs38 : (rs.set r ({ x with A := A39, cap := c39, es := (x.es.take m), s := m, lo := w4.heap.size, hi := w5.heap.size }))[r]? = some ({ x with A := A39, cap := c39, es := (x.es.take m), s := m, lo := w4.heap.size, hi := w5.heap.size }) := List.getElem?_set_self (getE hx).1
       refine lw_nil ?_
       refine xw1 9 (by kernel_rfl) rfl ?_ 
       refine l1 (nck_r rfl) rfl rfl rfl ?_
       refine lw_nil ?_
       refine xw1 10 (by kernel_rfl) rfl ?_ 
       refine l1 (fad_r fd_Replica_0 rfl) rfl rfl rfl ?_
       refine lw_nil ?_
       refine xw1 11 (by kernel_rfl) rfl ?_ 
       refine stR H 3 ({ x with up := false, A := A39, cap := c39, es := (x.es.take m), s := m, lo := w4.heap.size, hi := w5.heap.size }) siz_bool row36 hs38 0 rfl rfl rfl rfl rfl rfl (by kernel_rfl) ?_; intro w40 cur39 row39 H
       have hs41 : ((rs.set r ({ x with A := A39, cap := c39, es := (x.es.take m), s := m, lo := w4.heap.size, hi := w5.heap.size })).set r ({ x with up := false, A := A39, cap := c39, es := (x.es.take m), s := m, lo := w4.heap.size, hi := w5.heap.size }))[r]? = some ({ x with up := false, A := A39, cap := c39, es := (x.es.take m), s := m, lo := w4.heap.size, hi := w5.heap.size }) := List.getElem?_set_self (getE hs38).1
       refine lw_nil ?_
       refine xw1 12 (by kernel_rfl) rfl ?_ 
       refine l1 (ixR_r sl_Lint rfl rfl (by first | omega | (simp only [List.length_set]; omega))) rfl rfl rfl ?_
       refine lw_nil ?_
       refine xw1 13 (by kernel_rfl) rfl ?_ 
       refine stR H 2 ((0)) siz_int row2 hkx 0 rfl rfl rfl rfl rfl rfl (by kernel_rfl) ?_; intro w43 cur42 row42 H
       have hs44 : (kn.set r ((0)))[r]? = some ((0)) := List.getElem?_set_self (getE hkx).1
       refine lw_nil ?_
       refine xw_end (by kernel_rfl) ?_
       exact ⟨(), ⟨_, _, row42, (by have := row39; rwa [List.set_set] at this), H⟩, sl0, by repeat (first | exact Agr.refl _ _ | exact agr_ovr | refine agr_upd rfl ?_ | refine agr_updL _ rfl ?_ | refine agr_ovr2 rfl ?_)⟩
      ·
       refine stR H 3 ({ x with A := A39, cap := c39, es := (x.es.take m), s := m, lo := w4.heap.size, hi := w5.heap.size }) siz_Log row3 hx 1 rfl rfl rfl rfl rfl rfl (by kernel_rfl) ?_; intro w46 cur45 row45 H
       have hs47 : (rs.set r ({ x with A := A39, cap := c39, es := (x.es.take m), s := m, lo := w4.heap.size, hi := w5.heap.size }))[r]? = some ({ x with A := A39, cap := c39, es := (x.es.take m), s := m, lo := w4.heap.size, hi := w5.heap.size }) := List.getElem?_set_self (getE hx).1
       refine lw_nil ?_
       refine xw2 3 9 (by kernel_rfl) rfl rfl ?_ ?_ 
       ·
        refine l1 (ld_r one_Lint rfl (cellE (H.ent (i := 5) rfl) rfl)) rfl rfl rfl ?_
        refine lw_nil ?_
        refine xw1 9 (by kernel_rfl) rfl ?_ 
        refine l1 (nck_r rfl) rfl rfl rfl ?_
        refine lw_nil ?_
        refine xw1 10 (by kernel_rfl) rfl ?_ 
        refine l1 (fad_r fd_Replica_0 rfl) rfl rfl rfl ?_
        refine lw_nil ?_
        refine xw1 11 (by kernel_rfl) rfl ?_ 
        refine stR H 3 ({ x with up := false, A := A39, cap := c39, es := (x.es.take m), s := m, lo := w4.heap.size, hi := w5.heap.size }) siz_bool row45 hs47 0 rfl rfl rfl rfl rfl rfl (by kernel_rfl) ?_; intro w49 cur48 row48 H
        have hs50 : ((rs.set r ({ x with A := A39, cap := c39, es := (x.es.take m), s := m, lo := w4.heap.size, hi := w5.heap.size })).set r ({ x with up := false, A := A39, cap := c39, es := (x.es.take m), s := m, lo := w4.heap.size, hi := w5.heap.size }))[r]? = some ({ x with up := false, A := A39, cap := c39, es := (x.es.take m), s := m, lo := w4.heap.size, hi := w5.heap.size }) := List.getElem?_set_self (getE hs47).1
        refine lw_nil ?_
        refine xw1 12 (by kernel_rfl) rfl ?_ 
        refine l1 (ixR_r sl_Lint rfl rfl (by first | omega | (simp only [List.length_set]; omega))) rfl rfl rfl ?_
        refine lw_nil ?_
        refine xw1 13 (by kernel_rfl) rfl ?_ 
        refine stR H 2 ((0)) siz_int row2 hkx 0 rfl rfl rfl rfl rfl rfl (by kernel_rfl) ?_; intro w52 cur51 row51 H
        have hs53 : (kn.set r ((0)))[r]? = some ((0)) := List.getElem?_set_self (getE hkx).1
        refine lw_nil ?_
        refine xw_end (by kernel_rfl) ?_
        exact ⟨(), ⟨_, _, row51, (by have := row48; rwa [List.set_set] at this), H⟩, sl0, by repeat (first | exact Agr.refl _ _ | exact agr_ovr | refine agr_upd rfl ?_ | refine agr_updL _ rfl ?_ | refine agr_ovr2 rfl ?_)⟩
       ·
        refine l1 (nck_r rfl) rfl rfl rfl ?_
        refine lw_nil ?_
        refine xw2 3 10 (by kernel_rfl) rfl rfl ?_ ?_ 
        ·
         refine l1 (ld_r one_Lint rfl (cellE (H.ent (i := 5) rfl) rfl)) rfl rfl rfl ?_
         refine lw_nil ?_
         refine xw1 10 (by kernel_rfl) rfl ?_ 
         refine l1 (fad_r fd_Replica_0 rfl) rfl rfl rfl ?_
         refine lw_nil ?_
         refine xw1 11 (by kernel_rfl) rfl ?_ 
         refine stR H 3 ({ x with up := false, A := A39, cap := c39, es := (x.es.take m), s := m, lo := w4.heap.size, hi := w5.heap.size }) siz_bool row45 hs47 0 rfl rfl rfl rfl rfl rfl (by kernel_rfl) ?_; intro w55 cur54 row54 H
         have hs56 : ((rs.set r ({ x with A := A39, cap := c39, es := (x.es.take m), s := m, lo := w4.heap.size, hi := w5.heap.size })).set r ({ x with up := false, A := A39, cap := c39, es := (x.es.take m), s := m, lo := w4.heap.size, hi := w5.heap.size }))[r]? = some ({ x with up := false, A := A39, cap := c39, es := (x.es.take m), s := m, lo := w4.heap.size, hi := w5.heap.size }) := List.getElem?_set_self (getE hs47).1
         refine lw_nil ?_
         refine xw1 12 (by kernel_rfl) rfl ?_ 
         refine l1 (ixR_r sl_Lint rfl rfl (by first | omega | (simp only [List.length_set]; omega))) rfl rfl rfl ?_
         refine lw_nil ?_
         refine xw1 13 (by kernel_rfl) rfl ?_ 
         refine stR H 2 ((0)) siz_int row2 hkx 0 rfl rfl rfl rfl rfl rfl (by kernel_rfl) ?_; intro w58 cur57 row57 H
         have hs59 : (kn.set r ((0)))[r]? = some ((0)) := List.getElem?_set_self (getE hkx).1
         refine lw_nil ?_
         refine xw_end (by kernel_rfl) ?_
         exact ⟨(), ⟨_, _, row57, (by have := row54; rwa [List.set_set] at this), H⟩, sl0, by repeat (first | exact Agr.refl _ _ | exact agr_ovr | refine agr_upd rfl ?_ | refine agr_updL _ rfl ?_ | refine agr_ovr2 rfl ?_)⟩
        ·
         refine l1 (fad_r fd_Replica_0 rfl) rfl rfl rfl ?_
         refine lw_nil ?_
         refine xw2 3 11 (by kernel_rfl) rfl rfl ?_ ?_ 
         ·
          refine l1 (ld_r one_Lint rfl (cellE (H.ent (i := 5) rfl) rfl)) rfl rfl rfl ?_
          refine lw_nil ?_
          refine xw1 11 (by kernel_rfl) rfl ?_ 
          refine stR H 3 ({ x with up := false, A := A39, cap := c39, es := (x.es.take m), s := m, lo := w4.heap.size, hi := w5.heap.size }) siz_bool row45 hs47 0 rfl rfl rfl rfl rfl rfl (by kernel_rfl) ?_; intro w61 cur60 row60 H
          have hs62 : ((rs.set r ({ x with A := A39, cap := c39, es := (x.es.take m), s := m, lo := w4.heap.size, hi := w5.heap.size })).set r ({ x with up := false, A := A39, cap := c39, es := (x.es.take m), s := m, lo := w4.heap.size, hi := w5.heap.size }))[r]? = some ({ x with up := false, A := A39, cap := c39, es := (x.es.take m), s := m, lo := w4.heap.size, hi := w5.heap.size }) := List.getElem?_set_self (getE hs47).1
          refine lw_nil ?_
          refine xw1 12 (by kernel_rfl) rfl ?_ 
          refine l1 (ixR_r sl_Lint rfl rfl (by first | omega | (simp only [List.length_set]; omega))) rfl rfl rfl ?_
          refine lw_nil ?_
          refine xw1 13 (by kernel_rfl) rfl ?_ 
          refine stR H 2 ((0)) siz_int row2 hkx 0 rfl rfl rfl rfl rfl rfl (by kernel_rfl) ?_; intro w64 cur63 row63 H
          have hs65 : (kn.set r ((0)))[r]? = some ((0)) := List.getElem?_set_self (getE hkx).1
          refine lw_nil ?_
          refine xw_end (by kernel_rfl) ?_
          exact ⟨(), ⟨_, _, row63, (by have := row60; rwa [List.set_set] at this), H⟩, sl0, by repeat (first | exact Agr.refl _ _ | exact agr_ovr | refine agr_upd rfl ?_ | refine agr_updL _ rfl ?_ | refine agr_ovr2 rfl ?_)⟩
         ·
          refine stR H 3 ({ x with up := false, A := A39, cap := c39, es := (x.es.take m), s := m, lo := w4.heap.size, hi := w5.heap.size }) siz_bool row45 hs47 0 rfl rfl rfl rfl rfl rfl (by kernel_rfl) ?_; intro w67 cur66 row66 H
          have hs68 : ((rs.set r ({ x with A := A39, cap := c39, es := (x.es.take m), s := m, lo := w4.heap.size, hi := w5.heap.size })).set r ({ x with up := false, A := A39, cap := c39, es := (x.es.take m), s := m, lo := w4.heap.size, hi := w5.heap.size }))[r]? = some ({ x with up := false, A := A39, cap := c39, es := (x.es.take m), s := m, lo := w4.heap.size, hi := w5.heap.size }) := List.getElem?_set_self (getE hs47).1
          refine lw_nil ?_
          refine xw1 3 (by kernel_rfl) rfl ?_ 
          refine l1 (ld_r one_Lint rfl (cellE (H.ent (i := 5) rfl) rfl)) rfl rfl rfl ?_
          refine lw_nil ?_
          refine xw1 12 (by kernel_rfl) rfl ?_ 
          refine l1 (ixR_r sl_Lint rfl rfl (by first | omega | (simp only [List.length_set]; omega))) rfl rfl rfl ?_
          refine lw_nil ?_
          refine xw1 13 (by kernel_rfl) rfl ?_ 
          refine stR H 2 ((0)) siz_int row2 hkx 0 rfl rfl rfl rfl rfl rfl (by kernel_rfl) ?_; intro w70 cur69 row69 H
          have hs71 : (kn.set r ((0)))[r]? = some ((0)) := List.getElem?_set_self (getE hkx).1
          refine lw_nil ?_
          refine xw_end (by kernel_rfl) ?_
          exact ⟨(), ⟨_, _, row69, (by have := row66; rwa [List.set_set] at this), H⟩, sl0, by repeat (first | exact Agr.refl _ _ | exact agr_ovr | refine agr_upd rfl ?_ | refine agr_updL _ rfl ?_ | refine agr_ovr2 rfl ?_)⟩
  rintro ⟨⟩ ρ1 w72 ⟨v2, v3, row2b, row3b, H⟩
  have hs2 : (rs.set r { x with up := false, A := A39, cap := c39, es := (x.es.take m), s := m, lo := w4.heap.size, hi := w5.heap.size })[r]? = some { x with up := false, A := A39, cap := c39, es := (x.es.take m), s := m, lo := w4.heap.size, hi := w5.heap.size } := List.getElem?_set_self (by omega)
  refine cw_seq ?_
  have hlg2 := (hlg.cons (f := FRd byteL w4.heap.size w5.heap.size A39 (flat (x.es.take m)))).set r (x := { x with up := false, A := A39, cap := c39, es := (x.es.take m), s := m, lo := w4.heap.size, hi := w5.heap.size }) ⟨hc39, hlo, List.Mem.head _⟩
  refine cw_region ?_
  refine l1 (ldW_r agg_Part rfl (H.ent (i := 5) rfl) rfl) rfl rfl rfl ?_
  refine l1 (mvI_r rfl) rfl rfl rfl ?_
  refine cal cb_part_ends ((by have hA := pEnds_ok ⟨ep, ld, isr, some ⟨g1, 0, none⟩, c1, kn.set r 0, some ⟨g2, 0, none⟩, c2, rs.set r { x with up := false, A := A39, cap := c39, es := (x.es.take m), s := m, lo := w4.heap.size, hi := w5.heap.size }, some ⟨g3, 0, none⟩, c3, fw, bs⟩ r { x with up := false, A := A39, cap := c39, es := (x.es.take m), s := m, lo := w4.heap.size, hi := w5.heap.size } _ (row3b.rd0 (H.ent (i := 3) rfl)) hs2 (hlg2.log H hs2 hgl9); simp only [Pa.v, Pa.c, List.length_set] at hA; exact hA)) rfl rfl ?_
  rintro _ w73 ⟨rfl, hb⟩; replace H := H.later hb; clear hb
  refine l1 (mvU_r rfl) rfl rfl rfl ?_
  refine l1 (exI_r rfl rfl) rfl rfl rfl ?_
  refine l1 (exI_r rfl rfl) rfl rfl rfl ?_
  refine l1 (asI_r rfl) rfl rfl rfl ?_
  refine l1 (asI_r rfl) rfl rfl rfl ?_
  refine lw_nil ?_
  refine cw_seq ?_
  refine cw_region ?_
  refine l1 (mvP_r rfl) rfl rfl rfl ?_
  refine l1 (mvP_r rfl) rfl rfl rfl ?_
  refine l1 (nck_r rfl) rfl rfl rfl ?_
  refine l1 (fad_r fd_Replica_2 rfl) rfl rfl rfl ?_
  refine l1 (ldR_r one_int row3b hs2 3 rfl (H.ent (i := 3) rfl) rfl) rfl rfl rfl ?_
  refine l1 (mvI_r rfl) rfl rfl rfl ?_
  refine l1 (minI_r rfl rfl) rfl rfl rfl ?_
  refine l1 (nck_r rfl) rfl rfl rfl ?_
  refine l1 (fad_r fd_Replica_2 rfl) rfl rfl rfl ?_
  refine stR H 3 ({ x with up := false, A := A39, cap := c39, es := (x.es.take m), s := m, lo := w4.heap.size, hi := w5.heap.size, high := min x.high (((x.es.take m).length : Nat) : Int) }) siz_int row3b hs2 3 rfl rfl rfl rfl rfl rfl (by kernel_rfl) ?_; intro w75 cur74 row74 H
  have hs76 : ((rs.set r { x with up := false, A := A39, cap := c39, es := (x.es.take m), s := m, lo := w4.heap.size, hi := w5.heap.size }).set r ({ x with up := false, A := A39, cap := c39, es := (x.es.take m), s := m, lo := w4.heap.size, hi := w5.heap.size, high := min x.high (((x.es.take m).length : Nat) : Int) }))[r]? = some ({ x with up := false, A := A39, cap := c39, es := (x.es.take m), s := m, lo := w4.heap.size, hi := w5.heap.size, high := min x.high (((x.es.take m).length : Nat) : Int) }) := List.getElem?_set_self (getE hs2).1
  refine lw_nil ?_
  refine cw_seq ?_
  refine cw_seq ?_
  refine cw_region ?_
  refine l1 (fad_r fd_Part_1 rfl) rfl rfl rfl ?_
  refine l1 (ld_r one_int rfl (cellE (H.ent (i := 5) rfl) rfl)) rfl rfl rfl ?_
  refine l1 (mvI_r rfl) rfl rfl rfl ?_
  refine lwD (eql_r rfl rfl) rfl rfl rfl (fun h75 => ?_) (fun h75 => ?_)
  ·
   refine lw_nil ?_
   refine cw_true rfl ?_
   refine cw_region ?_
   refine l1 (fad_r fd_Part_1 rfl) rfl rfl rfl ?_
   refine stN H 5 (#[.int .i64 (ep), .int .i64 ((-1)), .slice (some ⟨g1, 0, none⟩) isr.length c1, .slice (some ⟨g2, 0, none⟩) kn.length c2, .slice (some ⟨g3, 0, none⟩) rs.length c3, .int .i64 (fw), .int .i64 (bs)]) siz_int rfl rfl rfl rfl rfl (by kernel_rfl) (by kernel_rfl) ?_; intro w77 H
   refine lw_nil ?_
   refine cw_seq ?_
   refine cw_region ?_
   refine l1 (ldW_r agg_Part rfl (H.ent (i := 5) rfl) rfl) rfl rfl rfl ?_
   refine stN H 4 (#[.int .i64 (ep), .int .i64 ((-1)), .slice (some ⟨g1, 0, none⟩) isr.length c1, .slice (some ⟨g2, 0, none⟩) kn.length c2, .slice (some ⟨g3, 0, none⟩) rs.length c3, .int .i64 (fw), .int .i64 (bs)]) siz_Part rfl rfl rfl rfl rfl (by kernel_rfl) (by kernel_rfl) ?_; intro w78 H
   refine l1 (asI_r rfl) rfl rfl rfl ?_
   refine lw_nil ?_
   refine cw_ret ?_
   have hlg3 := hlg2.same r (x' := { x with up := false, A := A39, cap := c39, es := (x.es.take m), s := m, lo := w4.heap.size, hi := w5.heap.size, high := min x.high (((x.es.take m).length : Nat) : Int) }) (List.getElem?_set_self (by omega)) rfl rfl rfl rfl rfl
   have hS : crashA (Pa.a ⟨ep, ld, isr, iA, iC, kn, kA, kC, reps, rA, rC, fw, bs⟩) r keep = ({ Pa.a ⟨ep, ld, isr, iA, iC, kn, kA, kC, reps, rA, rC, fw, bs⟩ with reps := (reps.map Rep.a).set r { up := false, es := x.es.take m, s := m, high := min x.high (((x.es.take m).length : Nat) : Int) }, known := kn.set r 0, leader := -1 }, 0) := by simp [crashA, Pa.a, hxa, Rep.a, h30, hm, h75]
   rw [hS]
   exact finCTn (cs0 := #[.int .i64 (ep), .int .i64 ((-1)), .slice (some ⟨g1, 0, none⟩) isr.length c1, .slice (some ⟨g2, 0, none⟩) kn.length c2, .slice (some ⟨g3, 0, none⟩) rs.length c3, .int .i64 (fw), .int .i64 (bs)]) (v1 := .int .i64 0) rfl agg_Part rfl (H.ent (i := 4) rfl) rfl rfl ⟨_, by simp [Pa.c], by simp [Pa.a, List.map_set, hma, Rep.a], (NewPa.mk_ (p := ⟨ep, -1, isr, some ⟨g1, 0, none⟩, c1, kn.set r 0, some ⟨g2, 0, none⟩, c2, _, some ⟨g3, 0, none⟩, c3, fw, bs⟩) rfl rfl rfl row1 row2b row74 hlg3 (by dsimp only; try simp only [List.length_set]; omega) H ⟨by simp, by simp, by simp⟩)⟩
  ·
   refine lw_nil ?_
   refine cw_false rfl ?_
   refine cw_skip ?_
   refine cw_seq ?_
   refine cw_region ?_
   refine l1 (ldW_r agg_Part rfl (H.ent (i := 5) rfl) rfl) rfl rfl rfl ?_
   refine stN H 4 (#[.int .i64 (ep), .int .i64 (ld), .slice (some ⟨g1, 0, none⟩) isr.length c1, .slice (some ⟨g2, 0, none⟩) kn.length c2, .slice (some ⟨g3, 0, none⟩) rs.length c3, .int .i64 (fw), .int .i64 (bs)]) siz_Part rfl rfl rfl rfl rfl (by kernel_rfl) (by kernel_rfl) ?_; intro w79 H
   refine l1 (asI_r rfl) rfl rfl rfl ?_
   refine lw_nil ?_
   refine cw_ret ?_
   have hlg3 := hlg2.same r (x' := { x with up := false, A := A39, cap := c39, es := (x.es.take m), s := m, lo := w4.heap.size, hi := w5.heap.size, high := min x.high (((x.es.take m).length : Nat) : Int) }) (List.getElem?_set_self (by omega)) rfl rfl rfl rfl rfl
   have hS : crashA (Pa.a ⟨ep, ld, isr, iA, iC, kn, kA, kC, reps, rA, rC, fw, bs⟩) r keep = ({ Pa.a ⟨ep, ld, isr, iA, iC, kn, kA, kC, reps, rA, rC, fw, bs⟩ with reps := (reps.map Rep.a).set r { up := false, es := x.es.take m, s := m, high := min x.high (((x.es.take m).length : Nat) : Int) }, known := kn.set r 0, leader := ld }, 0) := by simp [crashA, Pa.a, hxa, Rep.a, h30, hm, h75]
   rw [hS]
   exact finCTn (cs0 := #[.int .i64 (ep), .int .i64 (ld), .slice (some ⟨g1, 0, none⟩) isr.length c1, .slice (some ⟨g2, 0, none⟩) kn.length c2, .slice (some ⟨g3, 0, none⟩) rs.length c3, .int .i64 (fw), .int .i64 (bs)]) (v1 := .int .i64 0) rfl agg_Part rfl (H.ent (i := 4) rfl) rfl rfl ⟨_, by simp [Pa.c], by simp [Pa.a, List.map_set, hma, Rep.a], (NewPa.mk_ (p := ⟨ep, ld, isr, some ⟨g1, 0, none⟩, c1, kn.set r 0, some ⟨g2, 0, none⟩, c2, _, some ⟨g3, 0, none⟩, c3, fw, bs⟩) rfl rfl rfl row1 row2b row74 hlg3 (by dsimp only; try simp only [List.length_set]; omega) H ⟨by simp, by simp, by simp⟩)⟩
 ·
  refine l1 (not_r rfl) rfl rfl rfl ?_
  refine lw_nil ?_
  refine cw_true rfl ?_
  refine cw_seq ?_
  refine cw_region ?_
  refine l1 (bld_r (cs := #[.int .i64 (0), .int .i64 (0), .slice none 0 0, .slice none 0 0, .slice none 0 0, .int .i64 (0), .int .i64 (0)]) st_Part z_Part (by kernel_rfl)) rfl rfl rfl ?_
  refine stN H 3 (#[.int .i64 (0), .int .i64 (0), .slice none 0 0, .slice none 0 0, .slice none 0 0, .int .i64 (0), .int .i64 (0)]) siz_Part rfl rfl rfl rfl rfl (by kernel_rfl) (by kernel_rfl) ?_; intro w80 H
  refine l1 (asI_r rfl) rfl rfl rfl ?_
  refine lw_nil ?_
  refine cw_ret ?_
  have hS : crashA (Pa.a ⟨ep, ld, isr, iA, iC, kn, kA, kC, reps, rA, rC, fw, bs⟩) r keep = (zPaA, 7) := by simp [crashA, Pa.a, hxa, Rep.a, h30]
  rw [hS]
  exact finCTn (cs0 := #[.int .i64 0, .int .i64 0, .slice none 0 0, .slice none 0 0, .slice none 0 0, .int .i64 0, .int .i64 0]) (v1 := .int .i64 7) rfl agg_Part rfl (H.ent (i := 3) rfl) rfl rfl ⟨zPa, rfl, rfl, NewPa.zero H.below⟩
set_option maxHeartbeats 4000000 in
set_option maxRecDepth 10000 in
theorem pWipe_ok (p : Pa) (r : Nat) (w : World) (h : p.rd 0 w.heap.size w) (hok : p.a.ok) (hr : r < p.reps.length) : Ret Try.prog i_part_Wipe [p.v, .int .i64 (r : Nat)] w fun v w2 => ∃ p' : Pa, v = .tuple #[p'.v, .int .i64 (wipeA p.a r).2] ∧ p'.a = (wipeA p.a r).1 ∧ NewPa w w2 p' := by
 refine ret_of fn_part_Wipe rfl rfl ?_
 obtain ⟨hn1, hn2, hil, hkl, hf1, hf2, he0, he1, hl0, hl1, hb0, hb1, hsm⟩ := Pa.facts hok
 have hkn := hok.known
 have hiC := h.iC
 have hkC := h.kC
 have hrC := h.rC
 have hfew := h.few
 have H := Hp.startPa h
 obtain ⟨ep, ld, isr, iA, iC, kn, kA, kC, reps, rA, rC, fw, bs⟩ := p
 simp only [Pa.a] at hkn
 dsimp only at H hn1 hn2 hil hkl hf1 hf2 he0 he1 hl0 hl1 hb0 hb1 hsm hiC hkC hrC hfew
 dsimp only at hr
 show CW _ _ _ _ (args [.agg #[.int .i64 (ep), .int .i64 (ld), .slice iA isr.length iC, .slice kA kn.length kC, .slice rA reps.length rC, .int .i64 (fw), .int .i64 (bs)], .int .i64 (((r : Nat) : Int))]) w
 refine cw_seq ?_
 refine cw_region ?_
 refine bxA H rfl rfl ?_; intro w1 b2 H
 refine alo H z_Part rfl ?_; intro w2 b4 H
 refine l1 (asI_r rfl) rfl rfl rfl ?_
 refine lw_nil ?_
 refine cw_seq ?_
 refine cw_region ?_
 refine l1 (ldW_r agg_Part rfl (H.ent (i := 1) rfl) rfl) rfl rfl rfl ?_
 refine l1 (mvI_r rfl) rfl rfl rfl ?_
 refine cal cb_part_at (pAt_ok ⟨ep, ld, isr, iA, iC, kn, kA, kC, reps, rA, rC, fw, bs⟩ r _ (Hp.pa H 0 rfl) hok hr) rfl rfl ?_
 rintro _ w3 ⟨⟨ep2, ld2, is2, iA2, c1, kn2, kA2, c2, rs, rA2, c3, fw2, bs2⟩, g1, g2, g3, u1, u2, u3, rfl, ha2, ho⟩
 simp only [Pa.a, PaA.mk.injEq] at ha2
 obtain ⟨e1, e2, e3, e4, hma, e6, e7⟩ := ha2
 obtain rfl : ep = ep2 := e1.symm
 obtain rfl : ld = ld2 := e2.symm
 obtain rfl : isr = is2 := e3.symm
 obtain rfl : kn = kn2 := e4.symm
 obtain rfl : fw = fw2 := e6.symm
 obtain rfl : bs = bs2 := e7.symm
 have hrl : rs.length = reps.length := by have := congrArg List.length hma; simpa using this
 obtain ⟨i1, i2, i3, row1, row2, row3, hcp, hlos, -, hjn⟩ := ho
 dsimp only at i1 i2 i3 row1 row2 row3 hcp hlos hjn
 subst i1; subst i2; subst i3
 have hlo0 := H.size
 replace H := H.joinF hjn (by intro f hf; obtain ⟨r, hr, rfl⟩ := List.mem_map.1 hf; exact hlos r hr)
 replace hlos : ∀ r ∈ rs, w.heap.size ≤ r.lo := fun r hr => Nat.le_trans hlo0 (hlos r hr)
 clear hjn
 have hlg := Logs.of (F := [FPa 0 w.heap.size ⟨ep, ld, isr, iA, iC, kn, kA, kC, reps, rA, rC, fw, bs⟩, FRd boolL 0 w.heap.size iA isr, FRd intL 0 w.heap.size kA kn, FRd repL 0 w.heap.size rA reps]) hcp hlos
 have hok2 : ∀ {i : Nat} {x : Rep}, rs[i]? = some x → GL x.es x.s ∧ 0 ≤ x.high ∧ x.high ≤ x.es.length := fun hx => ok_of hma hok hx
 obtain ⟨x, hx⟩ : ∃ x, rs[r]? = some x := ⟨_, List.getElem?_eq_getElem (by omega)⟩
 have hxa := mapa hma hx
 refine l1 (mvU_r rfl) rfl rfl rfl ?_
 refine l1 (exA_r rfl rfl) rfl rfl rfl ?_
 refine l1 (exI_r rfl rfl) rfl rfl rfl ?_
 refine stN H 4 (#[.int .i64 (ep), .int .i64 (ld), .slice (some ⟨g1, 0, none⟩) isr.length c1, .slice (some ⟨g2, 0, none⟩) kn.length c2, .slice (some ⟨g3, 0, none⟩) rs.length c3, .int .i64 (fw), .int .i64 (bs)]) siz_Part rfl rfl rfl rfl rfl (by kernel_rfl) (by kernel_rfl) ?_; intro w4 H
 refine l1 (asI_r rfl) rfl rfl rfl ?_
 refine lw_nil ?_
 refine cw_seq ?_
 refine cw_seq ?_
 refine cw_region ?_
 refine l1 (mvI_r rfl) rfl rfl rfl ?_
 refine l1 (neqF_r rfl rfl rfl) rfl rfl rfl ?_
 refine lw_nil ?_
 refine cw_false rfl ?_
 refine cw_skip ?_
 refine cw_seq ?_
 refine cw_seq ?_
 refine cw_region ?_
 refine l1 (fad_r fd_Part_4 rfl) rfl rfl rfl ?_
 refine l1 (ld_r one_LReplica rfl (cellE (H.ent (i := 4) rfl) rfl)) rfl rfl rfl ?_
 refine l1 (mvI_r rfl) rfl rfl rfl ?_
 refine l1 (ixR_r sl_LReplica rfl rfl (by first | omega | (simp only [List.length_set]; omega))) rfl rfl rfl ?_
 refine l1 (fad_r fd_Replica_0 rfl) rfl rfl rfl ?_
 refine lwB (ldR_r one_bool row3 hx 0 rfl (H.ent (i := 2) rfl) rfl) rfl rfl rfl (fun h22 => ?_) (fun h22 => ?_)
 ·
  refine lw_nil ?_
  refine cw_true rfl ?_
  refine cw_seq ?_
  refine cw_region ?_
  refine l1 (bld_r (cs := #[.int .i64 (0), .int .i64 (0), .slice none 0 0, .slice none 0 0, .slice none 0 0, .int .i64 (0), .int .i64 (0)]) st_Part z_Part (by kernel_rfl)) rfl rfl rfl ?_
  refine stN H 3 (#[.int .i64 (0), .int .i64 (0), .slice none 0 0, .slice none 0 0, .slice none 0 0, .int .i64 (0), .int .i64 (0)]) siz_Part rfl rfl rfl rfl rfl (by kernel_rfl) (by kernel_rfl) ?_; intro w5 H
  refine l1 (asI_r rfl) rfl rfl rfl ?_
  refine lw_nil ?_
  refine cw_ret ?_
  have hS : wipeA (Pa.a ⟨ep, ld, isr, iA, iC, kn, kA, kC, reps, rA, rC, fw, bs⟩) r = (zPaA, 12) := by simp [wipeA, Pa.a, hxa, Rep.a, h22]
  rw [hS]
  exact finCTn (cs0 := #[.int .i64 0, .int .i64 0, .slice none 0 0, .slice none 0 0, .slice none 0 0, .int .i64 0, .int .i64 0]) (v1 := .int .i64 12) rfl agg_Part rfl (H.ent (i := 3) rfl) rfl rfl ⟨zPa, rfl, rfl, NewPa.zero H.below⟩
 ·
  refine lw_nil ?_
  refine cw_false rfl ?_
  refine cw_skip ?_
  refine cw_seq ?_
  obtain ⟨b, hb⟩ : ∃ b, isr[r]? = some b := ⟨_, List.getElem?_eq_getElem (by omega)⟩
  refine cw_region ?_
  refine l1 (fad_r fd_Part_2 rfl) rfl rfl rfl ?_
  refine l1 (ld_r one_Lbool rfl (cellE (H.ent (i := 4) rfl) rfl)) rfl rfl rfl ?_
  refine l1 (mvI_r rfl) rfl rfl rfl ?_
  refine l1 (ixR_r sl_Lbool rfl rfl (by first | omega | (simp only [List.length_set]; omega))) rfl rfl rfl ?_
  refine stR H 0 ((false)) siz_bool row1 hb 0 rfl rfl rfl rfl rfl rfl (by kernel_rfl) ?_; intro w7 cur6 row6 H
  have hs8 : (isr.set r ((false)))[r]? = some ((false)) := List.getElem?_set_self (getE hb).1
  refine lw_nil ?_
  refine cw_seq ?_
  refine cw_seq ?_
  refine cw_region ?_
  refine l1 (fad_r fd_Part_2 rfl) rfl rfl rfl ?_
  refine l1 (ld_r one_Lbool rfl (cellE (H.ent (i := 4) rfl) rfl)) rfl rfl rfl ?_
  refine cal cb_slices_Contains_Lbool_bool ((by have hA := contains_true_ok (isr.set r false) (some ⟨g1, 0, none⟩) c1 _ (row6.rd0 (H.ent (i := 0) rfl)) (by simp only [List.length_set]; omega); simp only [List.length_set] at hA; exact hA)) rfl rfl ?_
  rintro _ w9 ⟨rfl, hb⟩; replace H := H.later hb; clear hb
  refine l1 (not_r rfl) rfl rfl rfl ?_
  refine lw_nil ?_
  refine cw_if rfl (fun hc31 => ?_) (fun hc31 => ?_)
  ·
   refine cw_seq ?_
   refine cw_region ?_
   refine l1 (bld_r (cs := #[.int .i64 (0), .int .i64 (0), .slice none 0 0, .slice none 0 0, .slice none 0 0, .int .i64 (0), .int .i64 (0)]) st_Part z_Part (by kernel_rfl)) rfl rfl rfl ?_
   refine stN H 3 (#[.int .i64 (0), .int .i64 (0), .slice none 0 0, .slice none 0 0, .slice none 0 0, .int .i64 (0), .int .i64 (0)]) siz_Part rfl rfl rfl rfl rfl (by kernel_rfl) (by kernel_rfl) ?_; intro w10 H
   refine l1 (asI_r rfl) rfl rfl rfl ?_
   refine lw_nil ?_
   refine cw_ret ?_
   have hno : true ∉ isr.set r false := by simpa using hc31
   have hS : wipeA (Pa.a ⟨ep, ld, isr, iA, iC, kn, kA, kC, reps, rA, rC, fw, bs⟩) r = (zPaA, 8) := by simp [wipeA, Pa.a, hxa, Rep.a, h22, hno]
   rw [hS]
   exact finCTn (cs0 := #[.int .i64 0, .int .i64 0, .slice none 0 0, .slice none 0 0, .slice none 0 0, .int .i64 0, .int .i64 0]) (v1 := .int .i64 8) rfl agg_Part rfl (H.ent (i := 3) rfl) rfl rfl ⟨zPa, rfl, rfl, NewPa.zero H.below⟩
  ·
   refine cw_skip ?_
   refine cw_seq ?_
   obtain ⟨kx, hkx⟩ : ∃ kx, kn[r]? = some kx := ⟨_, List.getElem?_eq_getElem (by omega)⟩
   refine cw_cut (τ := Unit) [33, 34, 35, 36, 37, 38, 39, 40, 41] (fun _ => []) (fun _ w' => ∃ v2 v3, Row intL (kn.set r 0) c2 v2 ∧ Row repL (rs.set r ⟨false, none, 0, [], 0, 0, w.heap.size, w.heap.size⟩) c3 v3 ∧ Hp w w' [(g1, .cells cur6 T_bool (0, 0)), (g2, .cells v2 T_int (0, 0)), (g3, .cells v3 T_Replica (0, 0)), (b4, .cells #[.int .i64 0, .int .i64 0, .slice none 0 0, .slice none 0 0, .slice none 0 0, .int .i64 0, .int .i64 0] T_Part (0, 0)), (b2, .cells #[.int .i64 (ep), .int .i64 (ld), .slice (some ⟨g1, 0, none⟩) isr.length c1, .slice (some ⟨g2, 0, none⟩) kn.length c2, .slice (some ⟨g3, 0, none⟩) rs.length c3, .int .i64 (fw), .int .i64 (bs)] T_Part (0, 0))] ([FPa 0 w.heap.size ⟨ep, ld, isr, iA, iC, kn, kA, kC, reps, rA, rC, fw, bs⟩, FRd boolL 0 w.heap.size iA isr, FRd intL 0 w.heap.size kA kn, FRd repL 0 w.heap.size rA reps] ++ repsF rs)) ?_ ?_
   ·
    skip
   
    refine cw_tree mixed [0, 2, 3, 5, 6] [1, 4, 7, 8, 9, 10] [0, 2, 3, 5, 6] 6 (by kernel_rfl) (by kernel_rfl) (by kernel_rfl) (fun _ _ _ h => h) ?_
    refine aw rfl rfl rfl rfl rfl (fun w' hw' => fad_r fd_Part_4 rfl) ?_
    refine aw rfl rfl rfl rfl rfl (fun w' hw' => mvI_r rfl) ?_
    refine aw rfl rfl rfl rfl rfl (fun w' hw' => fad_r fd_Part_3 rfl) ?_
    refine aw rfl rfl rfl rfl rfl (fun w' hw' => mvI_r rfl) ?_
    refine aw rfl rfl rfl rfl rfl (fun w' hw' => bld_r (cs := #[.bool (false), .slice none 0 0, .int .i64 (0), .int .i64 (0)]) st_Replica z_Replica (by kernel_rfl)) ?_
    refine aw_nil ?_
    intro w11 hw'; replace H := H.later hw'; clear hw'
    refine xw2 1 4 (by kernel_rfl) rfl rfl ?_ ?_ 
    ·
     refine l1 (ld_r one_LReplica rfl (cellE (H.ent (i := 4) rfl) rfl)) rfl rfl rfl ?_
     refine lw_nil ?_
     refine xw2 4 7 (by kernel_rfl) rfl rfl ?_ ?_ 
     ·
      refine l1 (ld_r one_Lint rfl (cellE (H.ent (i := 4) rfl) rfl)) rfl rfl rfl ?_
      refine lw_nil ?_
      refine xw1 7 (by kernel_rfl) rfl ?_ 
      refine l1 (ixR_r sl_LReplica rfl rfl (by first | omega | (simp only [List.length_set]; omega))) rfl rfl rfl ?_
      refine lw_nil ?_
      refine xw1 8 (by kernel_rfl) rfl ?_ 
      refine stR H 2 (⟨false, none, 0, [], 0, 0, w.heap.size, w.heap.size⟩) siz_Replica row3 hx 0 rfl rfl rfl rfl rfl rfl (by kernel_rfl) ?_; intro w13 cur12 row12 H
      have hs14 : (rs.set r (⟨false, none, 0, [], 0, 0, w.heap.size, w.heap.size⟩))[r]? = some (⟨false, none, 0, [], 0, 0, w.heap.size, w.heap.size⟩) := List.getElem?_set_self (getE hx).1
      refine lw_nil ?_
      refine xw1 9 (by kernel_rfl) rfl ?_ 
      refine l1 (ixR_r sl_Lint rfl rfl (by first | omega | (simp only [List.length_set]; omega))) rfl rfl rfl ?_
      refine lw_nil ?_
      refine xw1 10 (by kernel_rfl) rfl ?_ 
      refine stR H 1 ((0)) siz_int row2 hkx 0 rfl rfl rfl rfl rfl rfl (by kernel_rfl) ?_; intro w16 cur15 row15 H
      have hs17 : (kn.set r ((0)))[r]? = some ((0)) := List.getElem?_set_self (getE hkx).1
      refine lw_nil ?_
      refine xw_end (by kernel_rfl) ?_
      exact ⟨(), ⟨_, _, row15, row12, H⟩, sl0, by repeat (first | exact Agr.refl _ _ | exact agr_ovr | refine agr_upd rfl ?_ | refine agr_updL _ rfl ?_ | refine agr_ovr2 rfl ?_)⟩
     ·
      refine l1 (ixR_r sl_LReplica rfl rfl (by first | omega | (simp only [List.length_set]; omega))) rfl rfl rfl ?_
      refine lw_nil ?_
      refine xw2 4 8 (by kernel_rfl) rfl rfl ?_ ?_ 
      ·
       refine l1 (ld_r one_Lint rfl (cellE (H.ent (i := 4) rfl) rfl)) rfl rfl rfl ?_
       refine lw_nil ?_
       refine xw1 8 (by kernel_rfl) rfl ?_ 
       refine stR H 2 (⟨false, none, 0, [], 0, 0, w.heap.size, w.heap.size⟩) siz_Replica row3 hx 0 rfl rfl rfl rfl rfl rfl (by kernel_rfl) ?_; intro w19 cur18 row18 H
       have hs20 : (rs.set r (⟨false, none, 0, [], 0, 0, w.heap.size, w.heap.size⟩))[r]? = some (⟨false, none, 0, [], 0, 0, w.heap.size, w.heap.size⟩) := List.getElem?_set_self (getE hx).1
       refine lw_nil ?_
       refine xw1 9 (by kernel_rfl) rfl ?_ 
       refine l1 (ixR_r sl_Lint rfl rfl (by first | omega | (simp only [List.length_set]; omega))) rfl rfl rfl ?_
       refine lw_nil ?_
       refine xw1 10 (by kernel_rfl) rfl ?_ 
       refine stR H 1 ((0)) siz_int row2 hkx 0 rfl rfl rfl rfl rfl rfl (by kernel_rfl) ?_; intro w22 cur21 row21 H
       have hs23 : (kn.set r ((0)))[r]? = some ((0)) := List.getElem?_set_self (getE hkx).1
       refine lw_nil ?_
       refine xw_end (by kernel_rfl) ?_
       exact ⟨(), ⟨_, _, row21, row18, H⟩, sl0, by repeat (first | exact Agr.refl _ _ | exact agr_ovr | refine agr_upd rfl ?_ | refine agr_updL _ rfl ?_ | refine agr_ovr2 rfl ?_)⟩
      ·
       refine stR H 2 (⟨false, none, 0, [], 0, 0, w.heap.size, w.heap.size⟩) siz_Replica row3 hx 0 rfl rfl rfl rfl rfl rfl (by kernel_rfl) ?_; intro w25 cur24 row24 H
       have hs26 : (rs.set r (⟨false, none, 0, [], 0, 0, w.heap.size, w.heap.size⟩))[r]? = some (⟨false, none, 0, [], 0, 0, w.heap.size, w.heap.size⟩) := List.getElem?_set_self (getE hx).1
       refine lw_nil ?_
       refine xw1 4 (by kernel_rfl) rfl ?_ 
       refine l1 (ld_r one_Lint rfl (cellE (H.ent (i := 4) rfl) rfl)) rfl rfl rfl ?_
       refine lw_nil ?_
       refine xw1 9 (by kernel_rfl) rfl ?_ 
       refine l1 (ixR_r sl_Lint rfl rfl (by first | omega | (simp only [List.length_set]; omega))) rfl rfl rfl ?_
       refine lw_nil ?_
       refine xw1 10 (by kernel_rfl) rfl ?_ 
       refine stR H 1 ((0)) siz_int row2 hkx 0 rfl rfl rfl rfl rfl rfl (by kernel_rfl) ?_; intro w28 cur27 row27 H
       have hs29 : (kn.set r ((0)))[r]? = some ((0)) := List.getElem?_set_self (getE hkx).1
       refine lw_nil ?_
       refine xw_end (by kernel_rfl) ?_
       exact ⟨(), ⟨_, _, row27, row24, H⟩, sl0, by repeat (first | exact Agr.refl _ _ | exact agr_ovr | refine agr_upd rfl ?_ | refine agr_updL _ rfl ?_ | refine agr_ovr2 rfl ?_)⟩
    ·
     refine l1 (ld_r one_Lint rfl (cellE (H.ent (i := 4) rfl) rfl)) rfl rfl rfl ?_
     refine lw_nil ?_
     refine xw1 1 (by kernel_rfl) rfl ?_ 
     refine l1 (ld_r one_LReplica rfl (cellE (H.ent (i := 4) rfl) rfl)) rfl rfl rfl ?_
     refine lw_nil ?_
     refine xw1 7 (by kernel_rfl) rfl ?_ 
     refine l1 (ixR_r sl_LReplica rfl rfl (by first | omega | (simp only [List.length_set]; omega))) rfl rfl rfl ?_
     refine lw_nil ?_
     refine xw1 8 (by kernel_rfl) rfl ?_ 
     refine stR H 2 (⟨false, none, 0, [], 0, 0, w.heap.size, w.heap.size⟩) siz_Replica row3 hx 0 rfl rfl rfl rfl rfl rfl (by kernel_rfl) ?_; intro w31 cur30 row30 H
     have hs32 : (rs.set r (⟨false, none, 0, [], 0, 0, w.heap.size, w.heap.size⟩))[r]? = some (⟨false, none, 0, [], 0, 0, w.heap.size, w.heap.size⟩) := List.getElem?_set_self (getE hx).1
     refine lw_nil ?_
     refine xw1 9 (by kernel_rfl) rfl ?_ 
     refine l1 (ixR_r sl_Lint rfl rfl (by first | omega | (simp only [List.length_set]; omega))) rfl rfl rfl ?_
     refine lw_nil ?_
     refine xw1 10 (by kernel_rfl) rfl ?_ 
     refine stR H 1 ((0)) siz_int row2 hkx 0 rfl rfl rfl rfl rfl rfl (by kernel_rfl) ?_; intro w34 cur33 row33 H
     have hs35 : (kn.set r ((0)))[r]? = some ((0)) := List.getElem?_set_self (getE hkx).1
     refine lw_nil ?_
     refine xw_end (by kernel_rfl) ?_
     exact ⟨(), ⟨_, _, row33, row30, H⟩, sl0, by repeat (first | exact Agr.refl _ _ | exact agr_ovr | refine agr_upd rfl ?_ | refine agr_updL _ rfl ?_ | refine agr_ovr2 rfl ?_)⟩
   rintro ⟨⟩ ρ1 w36 ⟨v2, v3, row2b, row3b, H⟩
   refine cw_seq ?_
   refine cw_region ?_
   refine l1 (ldW_r agg_Part rfl (H.ent (i := 4) rfl) rfl) rfl rfl rfl ?_
   refine stN H 3 (#[.int .i64 (ep), .int .i64 (ld), .slice (some ⟨g1, 0, none⟩) isr.length c1, .slice (some ⟨g2, 0, none⟩) kn.length c2, .slice (some ⟨g3, 0, none⟩) rs.length c3, .int .i64 (fw), .int .i64 (bs)]) siz_Part rfl rfl rfl rfl rfl (by kernel_rfl) (by kernel_rfl) ?_; intro w37 H
   refine l1 (asI_r rfl) rfl rfl rfl ?_
   refine lw_nil ?_
   refine cw_ret ?_
   have hye : true ∈ isr.set r false := by simpa using hc31
   have hS : wipeA (Pa.a ⟨ep, ld, isr, iA, iC, kn, kA, kC, reps, rA, rC, fw, bs⟩) r = ({ Pa.a ⟨ep, ld, isr, iA, iC, kn, kA, kC, reps, rA, rC, fw, bs⟩ with reps := (reps.map Rep.a).set r ⟨false, [], 0, 0⟩, known := kn.set r 0, isr := isr.set r false }, 0) := by simp [wipeA, Pa.a, hxa, Rep.a, h22, hye]
   rw [hS]
   replace H := H.learnNil (Y := byteL) w.heap.size H.size none
   have hlg1 := (hlg.cons (f := FRd byteL w.heap.size w.heap.size none [])).set r (x := ⟨false, none, 0, [], 0, 0, w.heap.size, w.heap.size⟩) ⟨by simp [flat], Nat.le_refl _, List.Mem.head _⟩
   exact finCTn (cs0 := #[.int .i64 (ep), .int .i64 (ld), .slice (some ⟨g1, 0, none⟩) isr.length c1, .slice (some ⟨g2, 0, none⟩) kn.length c2, .slice (some ⟨g3, 0, none⟩) rs.length c3, .int .i64 (fw), .int .i64 (bs)]) (v1 := .int .i64 0) rfl agg_Part rfl (H.ent (i := 3) rfl) rfl rfl ⟨_, by simp [Pa.c], by simp [Pa.a, List.map_set, hma, Rep.a], (NewPa.mk_ (p := ⟨ep, ld, isr.set r false, some ⟨g1, 0, none⟩, c1, kn.set r 0, some ⟨g2, 0, none⟩, c2, _, some ⟨g3, 0, none⟩, c3, fw, bs⟩) rfl rfl rfl row6 row2b row3b hlg1 (by dsimp only; try simp only [List.length_set]; omega) H ⟨by simp, by simp, by simp⟩)⟩
end Go.Proofs.Ytemnchkebhclpaa
end
