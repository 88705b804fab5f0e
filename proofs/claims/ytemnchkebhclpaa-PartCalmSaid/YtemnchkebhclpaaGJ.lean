/- GJ: a part of the proofs over this seat: what stands in its theorems holds for every input that they name. -/
import Derived.Test.YtemnchkebhclpaaGH
section
namespace Go.Proofs.Ytemnchkebhclpaa
open Go Go.Eng Go.RowKit
set_option linter.unusedSimpArgs false
theorem info_int : (Try.prog.info? T_int).map (fun i => (i.zero, i.size, i.bytes)) = some (some (.int .i64 0), 1, 8) := by kernel_rfl
theorem rep_row (m : Nat) (h : m ≤ 1000000) : Row intL (List.replicate m (0 : Int)) m (List.replicate m (Value.int .i64 0)).toArray := by
 have hl : ∀ m : Nat, intL.all (List.replicate m (0 : Int)) = List.replicate m (Value.int .i64 0) := by
  intro m
  induction m with
  | zero => rfl
  | succ m ih => rw [List.replicate_succ, List.replicate_succ, ← ih]; rfl
 refine ⟨by simp [intL], ?_, by simp, by simp only [maxLen]; omega⟩
 rw [hl]
 simp [intL]
/-- P4.9: a replica is elected -/
def electA (p : PaA) (r : Nat) : PaA × Int := match p.reps[r]? with
 | none => (zPaA, 5)
 | some x => if x.up = false then (zPaA, 7) else if p.isr[r]? = some false then (zPaA, 13) else if p.leader = r then (zPaA, 6) else if p.epoch = 1073741824 then (zPaA, 2) else
  (advA { p with epoch := p.epoch + 1, leader := r, known := (List.replicate p.reps.length 0).set r x.s, base := x.es.length }, 0)
def shrinkA (p : PaA) (r : Nat) : PaA × Int := if p.leader < 0 ∨ p.leader = r then (zPaA, 8) else if p.isr[r]? = some false then (zPaA, 13) else (advA { p with isr := p.isr.set r false }, 0)
def highOf (p : PaA) : Int := match p.reps[p.leader.toNat]? with
 | some x => x.high
 | none => 0
def expandA (p : PaA) (r : Nat) : PaA × Int := if p.leader < 0 ∨ p.leader = r then (zPaA, 8) else if p.isr[r]? = some true then (zPaA, 6) else match p.reps[r]? with
 | none => (zPaA, 5)
 | some x => if x.up = false then (zPaA, 7) else if p.known.getD r 0 < max p.base (highOf p) then (zPaA, 13) else ({ p with isr := p.isr.set r true }, 0)
set_option maxHeartbeats 4000000 in
set_option maxRecDepth 10000 in
theorem pElect_ok (p : Pa) (r : Nat) (w : World) (h : p.rd 0 w.heap.size w) (hok : p.a.ok) (hr : r < p.reps.length) : Ret Try.prog i_part_Elect [p.v, .int .i64 (r : Nat)] w fun v w2 => ∃ p' : Pa, v = .tuple #[p'.v, .int .i64 (electA p.a r).2] ∧ p'.a = (electA p.a r).1 ∧ NewPa w w2 p' := by
 refine ret_of fn_part_Elect rfl rfl ?_
 obtain ⟨hn1, hn2, hil, hkl, hf1, hf2, he0, he1, hl0, hl1, hb0, hb1, hsm⟩ := Pa.facts hok
 have hkn := hok.known
 have hiC := h.iC
 have hkC := h.kC
 have hrC := h.rC
 have hfew := h.few
 have H := Hp.startPa h
 obtain ⟨ep, ld, isr, iA, iC, kn, kA, kC, reps, rA, rC, fw, bs⟩ := p
 simp only [Pa.a] at hkn
 dsimp only at H hn1 hn2 hil hkl hf1 hf2 he0 he1 hl0 hl1 hb0 hb1 hsm hiC hkC hrC hfew
 dsimp only at hr
 show CW _ _ _ _ (args [.agg #[.int .i64 (ep), .int .i64 (ld), .slice iA isr.length iC, .slice kA kn.length kC, .slice rA reps.length rC, .int .i64 (fw), .int .i64 (bs)], .int .i64 (((r : Nat) : Int))]) w
 refine cw_seq ?_
 refine cw_region ?_
 refine bxA H rfl rfl ?_; intro w1 b2 H
 refine alo H z_Part rfl ?_; intro w2 b4 H
 refine l1 (asI_r rfl) rfl rfl rfl ?_
 refine lw_nil ?_
 refine cw_seq ?_
 refine cw_region ?_
 refine l1 (ldW_r agg_Part rfl (H.ent (i := 1) rfl) rfl) rfl rfl rfl ?_
 refine l1 (mvI_r rfl) rfl rfl rfl ?_
 refine cal cb_part_at (pAt_ok ⟨ep, ld, isr, iA, iC, kn, kA, kC, reps, rA, rC, fw, bs⟩ r _ (Hp.pa H 0 rfl) hok hr) rfl rfl ?_
 rintro _ w3 ⟨⟨ep2, ld2, is2, iA2, c1, kn2, kA2, c2, rs, rA2, c3, fw2, bs2⟩, g1, g2, g3, u1, u2, u3, rfl, ha2, ho⟩
 simp only [Pa.a, PaA.mk.injEq] at ha2
 obtain ⟨e1, e2, e3, e4, hma, e6, e7⟩ := ha2
 obtain rfl : ep = ep2 := e1.symm
 obtain rfl : ld = ld2 := e2.symm
 obtain rfl : isr = is2 := e3.symm
 obtain rfl : kn = kn2 := e4.symm
 obtain rfl : fw = fw2 := e6.symm
 obtain rfl : bs = bs2 := e7.symm
 have hrl : rs.length = reps.length := by have := congrArg List.length hma; simpa using this
 obtain ⟨i1, i2, i3, row1, row2, row3, hcp, hlos, -, hjn⟩ := ho
 dsimp only at i1 i2 i3 row1 row2 row3 hcp hlos hjn
 subst i1; subst i2; subst i3
 have hlo0 := H.size
 replace H := H.joinF hjn (by intro f hf; obtain ⟨r, hr, rfl⟩ := List.mem_map.1 hf; exact hlos r hr)
 replace hlos : ∀ r ∈ rs, w.heap.size ≤ r.lo := fun r hr => Nat.le_trans hlo0 (hlos r hr)
 clear hjn
 have hlg := Logs.of (F := [FPa 0 w.heap.size ⟨ep, ld, isr, iA, iC, kn, kA, kC, reps, rA, rC, fw, bs⟩, FRd boolL 0 w.heap.size iA isr, FRd intL 0 w.heap.size kA kn, FRd repL 0 w.heap.size rA reps]) hcp hlos
 have hok2 : ∀ {i : Nat} {x : Rep}, rs[i]? = some x → GL x.es x.s ∧ 0 ≤ x.high ∧ x.high ≤ x.es.length := fun hx => ok_of hma hok hx
 obtain ⟨x, hx⟩ : ∃ x, rs[r]? = some x := ⟨_, List.getElem?_eq_getElem (by omega)⟩
 have hxa := mapa hma hx
 refine l1 (mvU_r rfl) rfl rfl rfl ?_
 refine l1 (exA_r rfl rfl) rfl rfl rfl ?_
 refine l1 (exI_r rfl rfl) rfl rfl rfl ?_
 refine stN H 4 (#[.int .i64 (ep), .int .i64 (ld), .slice (some ⟨g1, 0, none⟩) isr.length c1, .slice (some ⟨g2, 0, none⟩) kn.length c2, .slice (some ⟨g3, 0, none⟩) rs.length c3, .int .i64 (fw), .int .i64 (bs)]) siz_Part rfl rfl rfl rfl rfl (by kernel_rfl) (by kernel_rfl) ?_; intro w4 H
 refine l1 (asI_r rfl) rfl rfl rfl ?_
 refine lw_nil ?_
 refine cw_seq ?_
 refine cw_seq ?_
 refine cw_region ?_
 refine l1 (mvI_r rfl) rfl rfl rfl ?_
 refine l1 (neqF_r rfl rfl rfl) rfl rfl rfl ?_
 refine lw_nil ?_
 refine cw_false rfl ?_
 refine cw_skip ?_
 refine cw_seq ?_
 refine cw_block ?_
 refine cw_seq ?_
 obtain ⟨b, hb⟩ : ∃ b, isr[r]? = some b := ⟨_, List.getElem?_eq_getElem (by omega)⟩
 refine cw_region ?_
 refine l1 (fad_r fd_Part_4 rfl) rfl rfl rfl ?_
 refine l1 (ld_r one_LReplica rfl (cellE (H.ent (i := 4) rfl) rfl)) rfl rfl rfl ?_
 refine l1 (mvI_r rfl) rfl rfl rfl ?_
 refine l1 (ixR_r sl_LReplica rfl rfl (by first | omega | (simp only [List.length_set]; omega))) rfl rfl rfl ?_
 refine l1 (fad_r fd_Replica_0 rfl) rfl rfl rfl ?_
 refine lwB (ldR_r one_bool row3 hx 0 rfl (H.ent (i := 2) rfl) rfl) rfl rfl rfl (fun h23 => ?_) (fun h23 => ?_)
 ·
  refine l1 (not_r rfl) rfl rfl rfl ?_
  refine l1 (asB_r rfl) rfl rfl rfl ?_
  refine lw_nil ?_
  refine cw_false rfl ?_
  refine cw_seq ?_
  refine cw_region ?_
  refine l1 (fad_r fd_Part_2 rfl) rfl rfl rfl ?_
  refine l1 (ld_r one_Lbool rfl (cellE (H.ent (i := 4) rfl) rfl)) rfl rfl rfl ?_
  refine l1 (mvI_r rfl) rfl rfl rfl ?_
  refine l1 (ixR_r sl_Lbool rfl rfl (by first | omega | (simp only [List.length_set]; omega))) rfl rfl rfl ?_
  refine lwB (ldR_r one_bool row1 hb 0 rfl (H.ent (i := 0) rfl) rfl) rfl rfl rfl (fun h31 => ?_) (fun h31 => ?_)
  ·
   refine l1 (not_r rfl) rfl rfl rfl ?_
   refine l1 (asB_r rfl) rfl rfl rfl ?_
   refine lw_nil ?_
   refine cw_false rfl ?_
   refine cw_seq ?_
   refine cw_region ?_
   refine l1 (fad_r fd_Part_1 rfl) rfl rfl rfl ?_
   refine l1 (ld_r one_int rfl (cellE (H.ent (i := 4) rfl) rfl)) rfl rfl rfl ?_
   refine l1 (mvI_r rfl) rfl rfl rfl ?_
   refine lwD (eql_r rfl rfl) rfl rfl rfl (fun h38 => ?_) (fun h38 => ?_)
   ·
    refine l1 (asB_r rfl) rfl rfl rfl ?_
    refine lw_nil ?_
    refine cw_true rfl ?_
    refine cw_seq ?_
    refine cw_region ?_
    refine l1 (bld_r (cs := #[.int .i64 (0), .int .i64 (0), .slice none 0 0, .slice none 0 0, .slice none 0 0, .int .i64 (0), .int .i64 (0)]) st_Part z_Part (by kernel_rfl)) rfl rfl rfl ?_
    refine stN H 3 (#[.int .i64 (0), .int .i64 (0), .slice none 0 0, .slice none 0 0, .slice none 0 0, .int .i64 (0), .int .i64 (0)]) siz_Part rfl rfl rfl rfl rfl (by kernel_rfl) (by kernel_rfl) ?_; intro w5 H
    refine l1 (asI_r rfl) rfl rfl rfl ?_
    refine lw_nil ?_
    refine cw_ret ?_
    have hS : electA (Pa.a ⟨ep, ld, isr, iA, iC, kn, kA, kC, reps, rA, rC, fw, bs⟩) r = (zPaA, 6) := by simp [electA, Pa.a, hxa, Rep.a, h23, hb, h31, ← h38]
    rw [hS]
    exact finCTn (cs0 := #[.int .i64 0, .int .i64 0, .slice none 0 0, .slice none 0 0, .slice none 0 0, .int .i64 0, .int .i64 0]) (v1 := .int .i64 6) rfl agg_Part rfl (H.ent (i := 3) rfl) rfl rfl ⟨zPa, rfl, rfl, NewPa.zero H.below⟩
   ·
    refine l1 (asB_r rfl) rfl rfl rfl ?_
    refine lw_nil ?_
    refine cw_false rfl ?_
    refine cw_seq ?_
    refine cw_region ?_
    refine l1 (fad_r fd_Part_0 rfl) rfl rfl rfl ?_
    refine l1 (ld_r one_int rfl (cellE (H.ent (i := 4) rfl) rfl)) rfl rfl rfl ?_
    refine lwD (eql_r rfl rfl) rfl rfl rfl (fun h43 => ?_) (fun h43 => ?_)
    ·
     refine l1 (asB_r rfl) rfl rfl rfl ?_
     refine lw_nil ?_
     refine cw_true rfl ?_
     refine cw_seq ?_
     refine cw_region ?_
     refine l1 (bld_r (cs := #[.int .i64 (0), .int .i64 (0), .slice none 0 0, .slice none 0 0, .slice none 0 0, .int .i64 (0), .int .i64 (0)]) st_Part z_Part (by kernel_rfl)) rfl rfl rfl ?_
     refine stN H 3 (#[.int .i64 (0), .int .i64 (0), .slice none 0 0, .slice none 0 0, .slice none 0 0, .int .i64 (0), .int .i64 (0)]) siz_Part rfl rfl rfl rfl rfl (by kernel_rfl) (by kernel_rfl) ?_; intro w6 H
     refine l1 (asI_r rfl) rfl rfl rfl ?_
     refine lw_nil ?_
     refine cw_ret ?_
     have hS : electA (Pa.a ⟨ep, ld, isr, iA, iC, kn, kA, kC, reps, rA, rC, fw, bs⟩) r = (zPaA, 2) := by simp [electA, Pa.a, hxa, Rep.a, h23, hb, h31, h38, h43]
     rw [hS]
     exact finCTn (cs0 := #[.int .i64 0, .int .i64 0, .slice none 0 0, .slice none 0 0, .slice none 0 0, .int .i64 0, .int .i64 0]) (v1 := .int .i64 2) rfl agg_Part rfl (H.ent (i := 3) rfl) rfl rfl ⟨zPa, rfl, rfl, NewPa.zero H.below⟩
    ·
     refine l1 (asB_r rfl) rfl rfl rfl ?_
     refine lw_nil ?_
     refine cw_false rfl ?_
     refine cw_skip ?_
     refine cw_seq ?_
     refine cw_region ?_
     refine l1 (fad_r fd_Part_0 rfl) rfl rfl rfl ?_
     refine l1 (ld_r one_int rfl (cellE (H.ent (i := 4) rfl) rfl)) rfl rfl rfl ?_
     refine l1 (add_r rfl rfl (by omega) (by omega)) rfl rfl rfl ?_
     refine l1 (fad_r fd_Part_0 rfl) rfl rfl rfl ?_
     refine stN H 4 (#[.int .i64 (ep + 1), .int .i64 (ld), .slice (some ⟨g1, 0, none⟩) isr.length c1, .slice (some ⟨g2, 0, none⟩) kn.length c2, .slice (some ⟨g3, 0, none⟩) rs.length c3, .int .i64 (fw), .int .i64 (bs)]) siz_int rfl rfl rfl rfl rfl (by kernel_rfl) (by kernel_rfl) ?_; intro w7 H
     refine lw_nil ?_
     refine cw_seq ?_
     refine cw_region ?_
     refine l1 (mvI_r rfl) rfl rfl rfl ?_
     refine l1 (fad_r fd_Part_1 rfl) rfl rfl rfl ?_
     refine stN H 4 (#[.int .i64 (ep + 1), .int .i64 (((r : Nat) : Int)), .slice (some ⟨g1, 0, none⟩) isr.length c1, .slice (some ⟨g2, 0, none⟩) kn.length c2, .slice (some ⟨g3, 0, none⟩) rs.length c3, .int .i64 (fw), .int .i64 (bs)]) siz_int rfl rfl rfl rfl rfl (by kernel_rfl) (by kernel_rfl) ?_; intro w8 H
     refine lw_nil ?_
     refine cw_seq ?_
     refine cw_region ?_
     refine l1 (fad_r fd_Part_4 rfl) rfl rfl rfl ?_
     refine l1 (ld_r one_LReplica rfl (cellE (H.ent (i := 4) rfl) rfl)) rfl rfl rfl ?_
     refine l1 (lenS_r len_LReplica rfl) rfl rfl rfl ?_
     refine mks (m := rs.length) H sl_Lint info_int rfl rfl rfl (by omega) (by omega) rfl ?_; intro w9 b54 H
     have row54 := rep_row rs.length (by omega)
     refine l1 (fad_r fd_Part_3 rfl) rfl rfl rfl ?_
     refine stN H 5 (#[.int .i64 (ep + 1), .int .i64 (((r : Nat) : Int)), .slice (some ⟨g1, 0, none⟩) isr.length c1, .slice (some ⟨b54, 0, none⟩) rs.length rs.length, .slice (some ⟨g3, 0, none⟩) rs.length c3, .int .i64 (fw), .int .i64 (bs)]) siz_Lint rfl rfl rfl rfl rfl (by kernel_rfl) (by kernel_rfl) ?_; intro w10 H
     refine lw_nil ?_
     refine cw_seq ?_
    
     refine cw_draw mixed [0, 1, 2, 3, 4, 5, 6, 7, 8, 9] [10, 11, 12] [5] [0, 2, 4, 6, 7, 8, 9] (sp [(5, Sp.one (.tuple #[.int .i64 ((x.es.length : Nat) : Int), .int .i64 ((x.s : Nat) : Int)]))]) (by kernel_rfl) (by kernel_rfl) (by kernel_rfl) (by kernel_rfl) (fun _ _ _ h => h) (sp_st _) ?_
     refine aw rfl rfl rfl rfl rfl (fun w' hw' => fad_r fd_Part_3 rfl) ?_
     refine aw rfl rfl rfl rfl rfl (fun w' hw' => ld_r one_Lint rfl (cellE ((H.later hw').ent (i := 5) rfl) rfl)) ?_
     refine aw rfl rfl rfl rfl rfl (fun w' hw' => mvI_r rfl) ?_
     refine aw rfl rfl rfl rfl rfl (fun w' hw' => ldW_r agg_Part rfl ((H.later hw').ent (i := 5) rfl) rfl) ?_
     refine aw rfl rfl rfl rfl rfl (fun w' hw' => mvI_r rfl) ?_
     refine awCalV cb_part_ends rfl rfl rfl rfl rfl (fun w' hw' => (by have hA := pEnds_ok ⟨ep + 1, (r : Nat), isr, some ⟨g1, 0, none⟩, c1, List.replicate rs.length 0, some ⟨b54, 0, none⟩, rs.length, rs, some ⟨g3, 0, none⟩, c3, fw, bs⟩ r x w' (row3.rd0 ((H.later hw').ent (i := 3) rfl)) hx (hlg.log (H.later hw') hx (hok2 hx).1); simp only [Pa.v, Pa.c, List.length_replicate] at hA; exact hA)) rfl ?_
     refine aw rfl rfl rfl rfl rfl (fun w' hw' => mvU_r rfl) ?_
     refine aw rfl rfl rfl rfl rfl (fun w' hw' => exI_r rfl rfl) ?_
     refine aw rfl rfl rfl rfl rfl (fun w' hw' => exI_r rfl rfl) ?_
     refine aw rfl rfl rfl rfl rfl (fun w' hw' => fad_r fd_Part_6 rfl) ?_
     refine aw_nil ?_
     intro w11 hw' hF
     replace H := H.later hw'; clear hw' hF
     refine stN H 5 (#[.int .i64 (ep + 1), .int .i64 (((r : Nat) : Int)), .slice (some ⟨g1, 0, none⟩) isr.length c1, .slice (some ⟨b54, 0, none⟩) rs.length rs.length, .slice (some ⟨g3, 0, none⟩) rs.length c3, .int .i64 (fw), .int .i64 (((x.es.length : Nat) : Int))]) siz_int rfl rfl rfl rfl rfl (by kernel_rfl) (by kernel_rfl) ?_; intro w12 H
     refine l1 (ixR_r sl_Lint rfl rfl (by first | omega | (simp only [List.length_set]; omega))) rfl rfl rfl ?_
     refine stR H 0 ((((x.s : Nat) : Int))) siz_int row54 (show (List.replicate rs.length (0 : Int))[r]? = some 0 by rw [List.getElem?_replicate, if_pos (by omega)]) 0 rfl rfl rfl rfl rfl rfl (by kernel_rfl) ?_; intro w14 cur13 row13 H
     have hs15 : ((List.replicate rs.length (0 : Int)).set r ((((x.s : Nat) : Int))))[r]? = some ((((x.s : Nat) : Int))) := List.getElem?_set_self (getE (show (List.replicate rs.length (0 : Int))[r]? = some 0 by rw [List.getElem?_replicate, if_pos (by omega)])).1
     refine lw_nil ?_
     refine cw_seq ?_
     refine cw_region ?_
     refine l1 (ldW_r agg_Part rfl (H.ent (i := 5) rfl) rfl) rfl rfl rfl ?_
     refine cal cb_part_advance ((by have hA := pAdv_ok (g2 := b54) (M := [(g2, .cells u2 T_int (0, 0)), (b4, .cells #[.int .i64 0, .int .i64 0, .slice none 0 0, .slice none 0 0, .slice none 0 0, .int .i64 0, .int .i64 0] T_Part (0, 0)), (b2, .cells #[.int .i64 (ep + 1), .int .i64 (((r : Nat) : Int)), .slice (some ⟨g1, 0, none⟩) isr.length c1, .slice (some ⟨b54, 0, none⟩) rs.length rs.length, .slice (some ⟨g3, 0, none⟩) rs.length c3, .int .i64 (fw), .int .i64 (((x.es.length : Nat) : Int))] T_Part (0, 0))]) (ep + 1) ((r : Nat) : Int) isr c1 ((List.replicate rs.length 0).set r ((x.s : Nat) : Int)) rs.length rs c3 fw ((x.es.length : Nat) : Int) r x (H.perm ((List.Perm.swap _ _ _).trans (.cons _ (.cons _ (List.Perm.swap _ _ _))))) row1 row13 row3 (by omega) (by simp) (by omega) rfl hx (hlg _ (List.mem_of_getElem? hx)).2.2 (hok2 hx).1 (hlg _ (List.mem_of_getElem? hx)).1; simp only [Pa.v, Pa.c, List.length_set, List.length_replicate] at hA; exact hA)) rfl rfl ?_
     rintro _ w16 ⟨u9, rfl, row9, H⟩
     refine stN H 4 (#[.int .i64 (ep + 1), .int .i64 (((r : Nat) : Int)), .slice (some ⟨g1, 0, none⟩) isr.length c1, .slice (some ⟨b54, 0, none⟩) rs.length rs.length, .slice (some ⟨g3, 0, none⟩) rs.length c3, .int .i64 (fw), .int .i64 (((x.es.length : Nat) : Int))]) siz_Part rfl rfl rfl rfl rfl (by kernel_rfl) (by kernel_rfl) ?_; intro w17 H
     refine l1 (asI_r rfl) rfl rfl rfl ?_
     refine lw_nil ?_
     refine cw_ret ?_
     have hS : electA (Pa.a ⟨ep, ld, isr, iA, iC, kn, kA, kC, reps, rA, rC, fw, bs⟩) r = (advA { Pa.a ⟨ep, ld, isr, iA, iC, kn, kA, kC, reps, rA, rC, fw, bs⟩ with epoch := ep + 1, leader := (r : Nat), known := (List.replicate (reps.map Rep.a).length 0).set r ((x.s : Nat) : Int), base := ((x.es.length : Nat) : Int) }, 0) := by simp [electA, Pa.a, hxa, Rep.a, h23, hb, h31, h38, h43]
     rw [hS]
     rw [advA_at (l := r) (r := x.a) rfl hxa]
     have hlg1 := hlg.same r (x' := { x with high := max x.high (min (leastA isr ((List.replicate rs.length 0).set r ((x.s : Nat) : Int)) 400) (x.es.length : Nat)) }) hx rfl rfl rfl rfl rfl
     exact finCTn (cs0 := #[.int .i64 (ep + 1), .int .i64 (((r : Nat) : Int)), .slice (some ⟨g1, 0, none⟩) isr.length c1, .slice (some ⟨b54, 0, none⟩) rs.length rs.length, .slice (some ⟨g3, 0, none⟩) rs.length c3, .int .i64 (fw), .int .i64 (((x.es.length : Nat) : Int))]) (v1 := .int .i64 0) rfl agg_Part rfl (H.ent (i := 4) rfl) rfl rfl ⟨_, by simp [Pa.c], by simp [Pa.a, List.map_set, hma, hrl, Rep.a], (NewPa.mk_ (p := ⟨ep + 1, (r : Nat), isr, some ⟨g1, 0, none⟩, c1, (List.replicate rs.length 0).set r ((x.s : Nat) : Int), some ⟨b54, 0, none⟩, rs.length, _, some ⟨g3, 0, none⟩, c3, fw, ((x.es.length : Nat) : Int)⟩) rfl rfl rfl row1 row13 row9 hlg1 (by dsimp only; try simp only [List.length_set, List.length_replicate]; omega) H ⟨by simp, by simp, by simp⟩)⟩
  ·
   refine l1 (not_r rfl) rfl rfl rfl ?_
   refine l1 (asB_r rfl) rfl rfl rfl ?_
   refine lw_nil ?_
   refine cw_true rfl ?_
   refine cw_seq ?_
   refine cw_region ?_
   refine l1 (bld_r (cs := #[.int .i64 (0), .int .i64 (0), .slice none 0 0, .slice none 0 0, .slice none 0 0, .int .i64 (0), .int .i64 (0)]) st_Part z_Part (by kernel_rfl)) rfl rfl rfl ?_
   refine stN H 3 (#[.int .i64 (0), .int .i64 (0), .slice none 0 0, .slice none 0 0, .slice none 0 0, .int .i64 (0), .int .i64 (0)]) siz_Part rfl rfl rfl rfl rfl (by kernel_rfl) (by kernel_rfl) ?_; intro w18 H
   refine l1 (asI_r rfl) rfl rfl rfl ?_
   refine lw_nil ?_
   refine cw_ret ?_
   have hS : electA (Pa.a ⟨ep, ld, isr, iA, iC, kn, kA, kC, reps, rA, rC, fw, bs⟩) r = (zPaA, 13) := by simp [electA, Pa.a, hxa, Rep.a, h23, hb, h31]
   rw [hS]
   exact finCTn (cs0 := #[.int .i64 0, .int .i64 0, .slice none 0 0, .slice none 0 0, .slice none 0 0, .int .i64 0, .int .i64 0]) (v1 := .int .i64 13) rfl agg_Part rfl (H.ent (i := 3) rfl) rfl rfl ⟨zPa, rfl, rfl, NewPa.zero H.below⟩
 ·
  refine l1 (not_r rfl) rfl rfl rfl ?_
  refine l1 (asB_r rfl) rfl rfl rfl ?_
  refine lw_nil ?_
  refine cw_true rfl ?_
  refine cw_seq ?_
  refine cw_region ?_
  refine l1 (bld_r (cs := #[.int .i64 (0), .int .i64 (0), .slice none 0 0, .slice none 0 0, .slice none 0 0, .int .i64 (0), .int .i64 (0)]) st_Part z_Part (by kernel_rfl)) rfl rfl rfl ?_
  refine stN H 3 (#[.int .i64 (0), .int .i64 (0), .slice none 0 0, .slice none 0 0, .slice none 0 0, .int .i64 (0), .int .i64 (0)]) siz_Part rfl rfl rfl rfl rfl (by kernel_rfl) (by kernel_rfl) ?_; intro w19 H
  refine l1 (asI_r rfl) rfl rfl rfl ?_
  refine lw_nil ?_
  refine cw_ret ?_
  have hS : electA (Pa.a ⟨ep, ld, isr, iA, iC, kn, kA, kC, reps, rA, rC, fw, bs⟩) r = (zPaA, 7) := by simp [electA, Pa.a, hxa, Rep.a, h23]
  rw [hS]
  exact finCTn (cs0 := #[.int .i64 0, .int .i64 0, .slice none 0 0, .slice none 0 0, .slice none 0 0, .int .i64 0, .int .i64 0]) (v1 := .int .i64 7) rfl agg_Part rfl (H.ent (i := 3) rfl) rfl rfl ⟨zPa, rfl, rfl, NewPa.zero H.below⟩
set_option maxHeartbeats 4000000 in
set_option maxRecDepth 10000 in
theorem pElect_none (p : Pa) (r : Int) (w : World) (h : p.rd 0 w.heap.size w) (hok : p.a.ok) (hr : r < 0 ∨ p.reps.length ≤ r) : Ret Try.prog i_part_Elect [p.v, .int .i64 r] w fun v w2 => v = .tuple #[.agg #[.int .i64 0, .int .i64 0, .slice none 0 0, .slice none 0 0, .slice none 0 0, .int .i64 0, .int .i64 0], .int .i64 5] ∧ Below w.heap.size w w2 := by
 refine ret_of fn_part_Elect rfl rfl ?_
 obtain ⟨hn1, hn2, hil, hkl, hf1, hf2, he0, he1, hl0, hl1, hb0, hb1, hsm⟩ := Pa.facts hok
 have hkn := hok.known
 have hiC := h.iC
 have hkC := h.kC
 have hrC := h.rC
 have hfew := h.few
 have H := Hp.startPa h
 obtain ⟨ep, ld, isr, iA, iC, kn, kA, kC, reps, rA, rC, fw, bs⟩ := p
 simp only [Pa.a] at hkn
 dsimp only at H hn1 hn2 hil hkl hf1 hf2 he0 he1 hl0 hl1 hb0 hb1 hsm hiC hkC hrC hfew
 dsimp only at hr
 show CW _ _ _ _ (args [.agg #[.int .i64 (ep), .int .i64 (ld), .slice iA isr.length iC, .slice kA kn.length kC, .slice rA reps.length rC, .int .i64 (fw), .int .i64 (bs)], .int .i64 (r)]) w
 refine cw_seq ?_
 refine cw_region ?_
 refine bxA H rfl rfl ?_; intro w1 b2 H
 refine alo H z_Part rfl ?_; intro w2 b4 H
 refine l1 (asI_r rfl) rfl rfl rfl ?_
 refine lw_nil ?_
 refine cw_seq ?_
 refine cw_region ?_
 refine l1 (ldW_r agg_Part rfl (H.ent (i := 1) rfl) rfl) rfl rfl rfl ?_
 refine l1 (mvI_r rfl) rfl rfl rfl ?_
 refine cal cb_part_at (pAt_none ⟨ep, ld, isr, iA, iC, kn, kA, kC, reps, rA, rC, fw, bs⟩ r _ (Hp.pa H 0 rfl) hok hr) rfl rfl ?_
 rintro _ w3 ⟨rfl, hb⟩; replace H := H.later hb; clear hb
 refine l1 (mvU_r rfl) rfl rfl rfl ?_
 refine l1 (exA_r rfl rfl) rfl rfl rfl ?_
 refine l1 (exI_r rfl rfl) rfl rfl rfl ?_
 refine stN H 1 (#[.int .i64 (0), .int .i64 (0), .slice none 0 0, .slice none 0 0, .slice none 0 0, .int .i64 (0), .int .i64 (0)]) siz_Part rfl rfl rfl rfl rfl (by kernel_rfl) (by kernel_rfl) ?_; intro w4 H
 refine l1 (asI_r rfl) rfl rfl rfl ?_
 refine lw_nil ?_
 refine cw_seq ?_
 refine cw_seq ?_
 refine cw_region ?_
 refine l1 (mvI_r rfl) rfl rfl rfl ?_
 refine l1 (neqT_r rfl rfl (by decide)) rfl rfl rfl ?_
 refine lw_nil ?_
 refine cw_true rfl ?_
 refine cw_seq ?_
 refine cw_region ?_
 refine l1 (bld_r (cs := #[.int .i64 (0), .int .i64 (0), .slice none 0 0, .slice none 0 0, .slice none 0 0, .int .i64 (0), .int .i64 (0)]) st_Part z_Part (by kernel_rfl)) rfl rfl rfl ?_
 refine l1 (mvI_r rfl) rfl rfl rfl ?_
 refine stN H 0 (#[.int .i64 (0), .int .i64 (0), .slice none 0 0, .slice none 0 0, .slice none 0 0, .int .i64 (0), .int .i64 (0)]) siz_Part rfl rfl rfl rfl rfl (by kernel_rfl) (by kernel_rfl) ?_; intro w5 H
 refine l1 (asI_r rfl) rfl rfl rfl ?_
 refine lw_nil ?_
 refine cw_ret ?_
 exact finCTn (cs0 := #[.int .i64 0, .int .i64 0, .slice none 0 0, .slice none 0 0, .slice none 0 0, .int .i64 0, .int .i64 0]) (v1 := .int .i64 5) rfl agg_Part rfl (H.ent (i := 0) rfl) rfl rfl ⟨rfl, H.below⟩
set_option maxHeartbeats 4000000 in
set_option maxRecDepth 10000 in
theorem pShrink_led (p : Pa) (r : Nat) (w : World) (h : p.rd 0 w.heap.size w) (hok : p.a.ok) (hr : r < p.reps.length) (hl : 0 ≤ p.leader) (hne : p.leader ≠ r) : Ret Try.prog i_part_Shrink [p.v, .int .i64 (r : Nat)] w fun v w2 => ∃ p' : Pa, v = .tuple #[p'.v, .int .i64 (shrinkA p.a r).2] ∧ p'.a = (shrinkA p.a r).1 ∧ NewPa w w2 p' := by
 refine ret_of fn_part_Shrink rfl rfl ?_
 obtain ⟨hn1, hn2, hil, hkl, hf1, hf2, he0, he1, hl0, hl1, hb0, hb1, hsm⟩ := Pa.facts hok
 have hkn := hok.known
 have hiC := h.iC
 have hkC := h.kC
 have hrC := h.rC
 have hfew := h.few
 have H := Hp.startPa h
 obtain ⟨ep, ld, isr, iA, iC, kn, kA, kC, reps, rA, rC, fw, bs⟩ := p
 simp only [Pa.a] at hkn
 dsimp only at H hn1 hn2 hil hkl hf1 hf2 he0 he1 hl0 hl1 hb0 hb1 hsm hiC hkC hrC hfew
 dsimp only at hr hl hne
 show CW _ _ _ _ (args [.agg #[.int .i64 (ep), .int .i64 (ld), .slice iA isr.length iC, .slice kA kn.length kC, .slice rA reps.length rC, .int .i64 (fw), .int .i64 (bs)], .int .i64 (((r : Nat) : Int))]) w
 refine cw_seq ?_
 refine cw_region ?_
 refine bxA H rfl rfl ?_; intro w1 b2 H
 refine alo H z_Part rfl ?_; intro w2 b4 H
 refine l1 (asI_r rfl) rfl rfl rfl ?_
 refine lw_nil ?_
 refine cw_seq ?_
 refine cw_region ?_
 refine l1 (ldW_r agg_Part rfl (H.ent (i := 1) rfl) rfl) rfl rfl rfl ?_
 refine l1 (mvI_r rfl) rfl rfl rfl ?_
 refine cal cb_part_led (pLed_ok ⟨ep, ld, isr, iA, iC, kn, kA, kC, reps, rA, rC, fw, bs⟩ r _ (Hp.pa H 0 rfl) hok hr hl hne) rfl rfl ?_
 rintro _ w3 ⟨⟨ep2, ld2, is2, iA2, c1, kn2, kA2, c2, rs, rA2, c3, fw2, bs2⟩, g1, g2, g3, u1, u2, u3, rfl, ha2, ho⟩
 simp only [Pa.a, PaA.mk.injEq] at ha2
 obtain ⟨e1, e2, e3, e4, hma, e6, e7⟩ := ha2
 obtain rfl : ep = ep2 := e1.symm
 obtain rfl : ld = ld2 := e2.symm
 obtain rfl : isr = is2 := e3.symm
 obtain rfl : kn = kn2 := e4.symm
 obtain rfl : fw = fw2 := e6.symm
 obtain rfl : bs = bs2 := e7.symm
 have hrl : rs.length = reps.length := by have := congrArg List.length hma; simpa using this
 obtain ⟨i1, i2, i3, row1, row2, row3, hcp, hlos, -, hjn⟩ := ho
 dsimp only at i1 i2 i3 row1 row2 row3 hcp hlos hjn
 subst i1; subst i2; subst i3
 have hlo0 := H.size
 replace H := H.joinF hjn (by intro f hf; obtain ⟨r, hr, rfl⟩ := List.mem_map.1 hf; exact hlos r hr)
 replace hlos : ∀ r ∈ rs, w.heap.size ≤ r.lo := fun r hr => Nat.le_trans hlo0 (hlos r hr)
 clear hjn
 have hlg := Logs.of (F := [FPa 0 w.heap.size ⟨ep, ld, isr, iA, iC, kn, kA, kC, reps, rA, rC, fw, bs⟩, FRd boolL 0 w.heap.size iA isr, FRd intL 0 w.heap.size kA kn, FRd repL 0 w.heap.size rA reps]) hcp hlos
 have hok2 : ∀ {i : Nat} {x : Rep}, rs[i]? = some x → GL x.es x.s ∧ 0 ≤ x.high ∧ x.high ≤ x.es.length := fun hx => ok_of hma hok hx
 obtain ⟨x, hx⟩ : ∃ x, rs[r]? = some x := ⟨_, List.getElem?_eq_getElem (by omega)⟩
 have hxa := mapa hma hx
 refine l1 (mvU_r rfl) rfl rfl rfl ?_
 refine l1 (exA_r rfl rfl) rfl rfl rfl ?_
 refine l1 (exI_r rfl rfl) rfl rfl rfl ?_
 refine stN H 4 (#[.int .i64 (ep), .int .i64 (ld), .slice (some ⟨g1, 0, none⟩) isr.length c1, .slice (some ⟨g2, 0, none⟩) kn.length c2, .slice (some ⟨g3, 0, none⟩) rs.length c3, .int .i64 (fw), .int .i64 (bs)]) siz_Part rfl rfl rfl rfl rfl (by kernel_rfl) (by kernel_rfl) ?_; intro w4 H
 refine l1 (asI_r rfl) rfl rfl rfl ?_
 refine lw_nil ?_
 refine cw_seq ?_
 refine cw_seq ?_
 refine cw_region ?_
 refine l1 (mvI_r rfl) rfl rfl rfl ?_
 refine l1 (neqF_r rfl rfl rfl) rfl rfl rfl ?_
 refine lw_nil ?_
 refine cw_false rfl ?_
 refine cw_skip ?_
 refine cw_seq ?_
 refine cw_seq ?_
 obtain ⟨b, hb⟩ : ∃ b, isr[r]? = some b := ⟨_, List.getElem?_eq_getElem (by omega)⟩
 have hneg : ¬ ld < 0 := by omega
 obtain ⟨l, hld⟩ : ∃ l : Nat, ld = l := ⟨ld.toNat, by omega⟩
 obtain ⟨y, hy⟩ : ∃ y, rs[l]? = some y := ⟨_, List.getElem?_eq_getElem (by omega)⟩
 refine cw_region ?_
 refine l1 (fad_r fd_Part_2 rfl) rfl rfl rfl ?_
 refine l1 (ld_r one_Lbool rfl (cellE (H.ent (i := 4) rfl) rfl)) rfl rfl rfl ?_
 refine l1 (mvI_r rfl) rfl rfl rfl ?_
 refine l1 (ixR_r sl_Lbool rfl rfl (by first | omega | (simp only [List.length_set]; omega))) rfl rfl rfl ?_
 refine lwB (ldR_r one_bool row1 hb 0 rfl (H.ent (i := 0) rfl) rfl) rfl rfl rfl (fun h21 => ?_) (fun h21 => ?_)
 ·
  refine l1 (not_r rfl) rfl rfl rfl ?_
  refine lw_nil ?_
  refine cw_false rfl ?_
  refine cw_skip ?_
  refine cw_seq ?_
  refine cw_region ?_
  refine l1 (fad_r fd_Part_2 rfl) rfl rfl rfl ?_
  refine l1 (ld_r one_Lbool rfl (cellE (H.ent (i := 4) rfl) rfl)) rfl rfl rfl ?_
  refine l1 (mvI_r rfl) rfl rfl rfl ?_
  refine l1 (ixR_r sl_Lbool rfl rfl (by first | omega | (simp only [List.length_set]; omega))) rfl rfl rfl ?_
  refine stR H 0 ((false)) siz_bool row1 hb 0 rfl rfl rfl rfl rfl rfl (by kernel_rfl) ?_; intro w6 cur5 row5 H
  have hs7 : (isr.set r ((false)))[r]? = some ((false)) := List.getElem?_set_self (getE hb).1
  refine lw_nil ?_
  refine cw_seq ?_
  refine cw_region ?_
  refine l1 (ldW_r agg_Part rfl (H.ent (i := 4) rfl) rfl) rfl rfl rfl ?_
  refine cal cb_part_advance ((by have hA := pAdv_ok ep ld (isr.set r false) c1 kn c2 rs c3 fw bs l y H row5 row2 row3 (by simp only [List.length_set]; omega) (by omega) (by omega) hld hy (hlg _ (List.mem_of_getElem? hy)).2.2 (hok2 hy).1 (hlg _ (List.mem_of_getElem? hy)).1; simp only [Pa.v, Pa.c, List.length_set] at hA; exact hA)) rfl rfl ?_
  rintro _ w8 ⟨u9, rfl, row9, H⟩
  refine stN H 3 (#[.int .i64 (ep), .int .i64 (ld), .slice (some ⟨g1, 0, none⟩) isr.length c1, .slice (some ⟨g2, 0, none⟩) kn.length c2, .slice (some ⟨g3, 0, none⟩) rs.length c3, .int .i64 (fw), .int .i64 (bs)]) siz_Part rfl rfl rfl rfl rfl (by kernel_rfl) (by kernel_rfl) ?_; intro w9 H
  refine l1 (asI_r rfl) rfl rfl rfl ?_
  refine lw_nil ?_
  refine cw_ret ?_
  have hS : shrinkA (Pa.a ⟨ep, ld, isr, iA, iC, kn, kA, kC, reps, rA, rC, fw, bs⟩) r = (advA { Pa.a ⟨ep, ld, isr, iA, iC, kn, kA, kC, reps, rA, rC, fw, bs⟩ with isr := isr.set r false }, 0) := by simp [shrinkA, Pa.a, hneg, hne, hb, h21]
  rw [hS]
  rw [advA_at (l := l) (r := y.a) hld (mapa hma hy)]
  have hlg1 := hlg.same l (x' := { y with high := max y.high (min (leastA (isr.set r false) kn 400) (y.es.length : Nat)) }) hy rfl rfl rfl rfl rfl
  exact finCTn (cs0 := #[.int .i64 (ep), .int .i64 (ld), .slice (some ⟨g1, 0, none⟩) isr.length c1, .slice (some ⟨g2, 0, none⟩) kn.length c2, .slice (some ⟨g3, 0, none⟩) rs.length c3, .int .i64 (fw), .int .i64 (bs)]) (v1 := .int .i64 0) rfl agg_Part rfl (H.ent (i := 3) rfl) rfl rfl ⟨_, by simp [Pa.c], by simp [Pa.a, List.map_set, hma, hrl, Rep.a], (NewPa.mk_ (p := ⟨ep, ld, isr.set r false, some ⟨g1, 0, none⟩, c1, kn, some ⟨g2, 0, none⟩, c2, _, some ⟨g3, 0, none⟩, c3, fw, bs⟩) rfl rfl rfl row5 row2 row9 hlg1 (by dsimp only; try simp only [List.length_set, List.length_replicate]; omega) H ⟨by simp, by simp, by simp⟩)⟩
 ·
  refine l1 (not_r rfl) rfl rfl rfl ?_
  refine lw_nil ?_
  refine cw_true rfl ?_
  refine cw_seq ?_
  refine cw_region ?_
  refine l1 (bld_r (cs := #[.int .i64 (0), .int .i64 (0), .slice none 0 0, .slice none 0 0, .slice none 0 0, .int .i64 (0), .int .i64 (0)]) st_Part z_Part (by kernel_rfl)) rfl rfl rfl ?_
  refine stN H 3 (#[.int .i64 (0), .int .i64 (0), .slice none 0 0, .slice none 0 0, .slice none 0 0, .int .i64 (0), .int .i64 (0)]) siz_Part rfl rfl rfl rfl rfl (by kernel_rfl) (by kernel_rfl) ?_; intro w10 H
  refine l1 (asI_r rfl) rfl rfl rfl ?_
  refine lw_nil ?_
  refine cw_ret ?_
  have hS : shrinkA (Pa.a ⟨ep, ld, isr, iA, iC, kn, kA, kC, reps, rA, rC, fw, bs⟩) r = (zPaA, 13) := by simp [shrinkA, Pa.a, hneg, hne, hb, h21]
  rw [hS]
  exact finCTn (cs0 := #[.int .i64 0, .int .i64 0, .slice none 0 0, .slice none 0 0, .slice none 0 0, .int .i64 0, .int .i64 0]) (v1 := .int .i64 13) rfl agg_Part rfl (H.ent (i := 3) rfl) rfl rfl ⟨zPa, rfl, rfl, NewPa.zero H.below⟩
set_option maxHeartbeats 4000000 in
set_option maxRecDepth 10000 in
theorem pShrink_bad (p : Pa) (r : Nat) (w : World) (h : p.rd 0 w.heap.size w) (hok : p.a.ok) (hr : r < p.reps.length) (hl : p.leader < 0 ∨ p.leader = r) : Ret Try.prog i_part_Shrink [p.v, .int .i64 (r : Nat)] w fun v w2 => v = .tuple #[.agg #[.int .i64 0, .int .i64 0, .slice none 0 0, .slice none 0 0, .slice none 0 0, .int .i64 0, .int .i64 0], .int .i64 8] ∧ Below w.heap.size w w2 := by
 refine ret_of fn_part_Shrink rfl rfl ?_
 obtain ⟨hn1, hn2, hil, hkl, hf1, hf2, he0, he1, hl0, hl1, hb0, hb1, hsm⟩ := Pa.facts hok
 have hkn := hok.known
 have hiC := h.iC
 have hkC := h.kC
 have hrC := h.rC
 have hfew := h.few
 have H := Hp.startPa h
 obtain ⟨ep, ld, isr, iA, iC, kn, kA, kC, reps, rA, rC, fw, bs⟩ := p
 simp only [Pa.a] at hkn
 dsimp only at H hn1 hn2 hil hkl hf1 hf2 he0 he1 hl0 hl1 hb0 hb1 hsm hiC hkC hrC hfew
 dsimp only at hr hl
 show CW _ _ _ _ (args [.agg #[.int .i64 (ep), .int .i64 (ld), .slice iA isr.length iC, .slice kA kn.length kC, .slice rA reps.length rC, .int .i64 (fw), .int .i64 (bs)], .int .i64 (((r : Nat) : Int))]) w
 refine cw_seq ?_
 refine cw_region ?_
 refine bxA H rfl rfl ?_; intro w1 b2 H
 refine alo H z_Part rfl ?_; intro w2 b4 H
 refine l1 (asI_r rfl) rfl rfl rfl ?_
 refine lw_nil ?_
 refine cw_seq ?_
 refine cw_region ?_
 refine l1 (ldW_r agg_Part rfl (H.ent (i := 1) rfl) rfl) rfl rfl rfl ?_
 refine l1 (mvI_r rfl) rfl rfl rfl ?_
 refine cal cb_part_led (pLed_bad ⟨ep, ld, isr, iA, iC, kn, kA, kC, reps, rA, rC, fw, bs⟩ r _ (Hp.pa H 0 rfl) hok hr hl) rfl rfl ?_
 rintro _ w3 ⟨rfl, hb⟩; replace H := H.later hb; clear hb
 refine l1 (mvU_r rfl) rfl rfl rfl ?_
 refine l1 (exA_r rfl rfl) rfl rfl rfl ?_
 refine l1 (exI_r rfl rfl) rfl rfl rfl ?_
 refine stN H 1 (#[.int .i64 (0), .int .i64 (0), .slice none 0 0, .slice none 0 0, .slice none 0 0, .int .i64 (0), .int .i64 (0)]) siz_Part rfl rfl rfl rfl rfl (by kernel_rfl) (by kernel_rfl) ?_; intro w4 H
 refine l1 (asI_r rfl) rfl rfl rfl ?_
 refine lw_nil ?_
 refine cw_seq ?_
 refine cw_seq ?_
 refine cw_region ?_
 refine l1 (mvI_r rfl) rfl rfl rfl ?_
 refine l1 (neqT_r rfl rfl (by decide)) rfl rfl rfl ?_
 refine lw_nil ?_
 refine cw_true rfl ?_
 refine cw_seq ?_
 refine cw_region ?_
 refine l1 (bld_r (cs := #[.int .i64 (0), .int .i64 (0), .slice none 0 0, .slice none 0 0, .slice none 0 0, .int .i64 (0), .int .i64 (0)]) st_Part z_Part (by kernel_rfl)) rfl rfl rfl ?_
 refine l1 (mvI_r rfl) rfl rfl rfl ?_
 refine stN H 0 (#[.int .i64 (0), .int .i64 (0), .slice none 0 0, .slice none 0 0, .slice none 0 0, .int .i64 (0), .int .i64 (0)]) siz_Part rfl rfl rfl rfl rfl (by kernel_rfl) (by kernel_rfl) ?_; intro w5 H
 refine l1 (asI_r rfl) rfl rfl rfl ?_
 refine lw_nil ?_
 refine cw_ret ?_
 exact finCTn (cs0 := #[.int .i64 0, .int .i64 0, .slice none 0 0, .slice none 0 0, .slice none 0 0, .int .i64 0, .int .i64 0]) (v1 := .int .i64 8) rfl agg_Part rfl (H.ent (i := 0) rfl) rfl rfl ⟨rfl, H.below⟩
set_option maxHeartbeats 4000000 in
set_option maxRecDepth 10000 in
theorem pExpand_bad (p : Pa) (r : Nat) (w : World) (h : p.rd 0 w.heap.size w) (hok : p.a.ok) (hr : r < p.reps.length) (hl : p.leader < 0 ∨ p.leader = r) : Ret Try.prog i_part_Expand [p.v, .int .i64 (r : Nat)] w fun v w2 => v = .tuple #[.agg #[.int .i64 0, .int .i64 0, .slice none 0 0, .slice none 0 0, .slice none 0 0, .int .i64 0, .int .i64 0], .int .i64 8] ∧ Below w.heap.size w w2 := by
 refine ret_of fn_part_Expand rfl rfl ?_
 obtain ⟨hn1, hn2, hil, hkl, hf1, hf2, he0, he1, hl0, hl1, hb0, hb1, hsm⟩ := Pa.facts hok
 have hkn := hok.known
 have hiC := h.iC
 have hkC := h.kC
 have hrC := h.rC
 have hfew := h.few
 have H := Hp.startPa h
 obtain ⟨ep, ld, isr, iA, iC, kn, kA, kC, reps, rA, rC, fw, bs⟩ := p
 simp only [Pa.a] at hkn
 dsimp only at H hn1 hn2 hil hkl hf1 hf2 he0 he1 hl0 hl1 hb0 hb1 hsm hiC hkC hrC hfew
 dsimp only at hr hl
 show CW _ _ _ _ (args [.agg #[.int .i64 (ep), .int .i64 (ld), .slice iA isr.length iC, .slice kA kn.length kC, .slice rA reps.length rC, .int .i64 (fw), .int .i64 (bs)], .int .i64 (((r : Nat) : Int))]) w
 refine cw_seq ?_
 refine cw_region ?_
 refine bxA H rfl rfl ?_; intro w1 b2 H
 refine alo H z_Part rfl ?_; intro w2 b4 H
 refine l1 (asI_r rfl) rfl rfl rfl ?_
 refine lw_nil ?_
 refine cw_seq ?_
 refine cw_region ?_
 refine l1 (ldW_r agg_Part rfl (H.ent (i := 1) rfl) rfl) rfl rfl rfl ?_
 refine l1 (mvI_r rfl) rfl rfl rfl ?_
 refine cal cb_part_led (pLed_bad ⟨ep, ld, isr, iA, iC, kn, kA, kC, reps, rA, rC, fw, bs⟩ r _ (Hp.pa H 0 rfl) hok hr hl) rfl rfl ?_
 rintro _ w3 ⟨rfl, hb⟩; replace H := H.later hb; clear hb
 refine l1 (mvU_r rfl) rfl rfl rfl ?_
 refine l1 (exA_r rfl rfl) rfl rfl rfl ?_
 refine l1 (exI_r rfl rfl) rfl rfl rfl ?_
 refine stN H 1 (#[.int .i64 (0), .int .i64 (0), .slice none 0 0, .slice none 0 0, .slice none 0 0, .int .i64 (0), .int .i64 (0)]) siz_Part rfl rfl rfl rfl rfl (by kernel_rfl) (by kernel_rfl) ?_; intro w4 H
 refine l1 (asI_r rfl) rfl rfl rfl ?_
 refine lw_nil ?_
 refine cw_seq ?_
 refine cw_seq ?_
 refine cw_region ?_
 refine l1 (mvI_r rfl) rfl rfl rfl ?_
 refine l1 (neqT_r rfl rfl (by decide)) rfl rfl rfl ?_
 refine lw_nil ?_
 refine cw_true rfl ?_
 refine cw_seq ?_
 refine cw_region ?_
 refine l1 (bld_r (cs := #[.int .i64 (0), .int .i64 (0), .slice none 0 0, .slice none 0 0, .slice none 0 0, .int .i64 (0), .int .i64 (0)]) st_Part z_Part (by kernel_rfl)) rfl rfl rfl ?_
 refine l1 (mvI_r rfl) rfl rfl rfl ?_
 refine stN H 0 (#[.int .i64 (0), .int .i64 (0), .slice none 0 0, .slice none 0 0, .slice none 0 0, .int .i64 (0), .int .i64 (0)]) siz_Part rfl rfl rfl rfl rfl (by kernel_rfl) (by kernel_rfl) ?_; intro w5 H
 refine l1 (asI_r rfl) rfl rfl rfl ?_
 refine lw_nil ?_
 refine cw_ret ?_
 exact finCTn (cs0 := #[.int .i64 0, .int .i64 0, .slice none 0 0, .slice none 0 0, .slice none 0 0, .int .i64 0, .int .i64 0]) (v1 := .int .i64 8) rfl agg_Part rfl (H.ent (i := 0) rfl) rfl rfl ⟨rfl, H.below⟩
set_option maxHeartbeats 4000000 in
set_option maxRecDepth 10000 in
theorem pExpand_led (p : Pa) (r : Nat) (w : World) (h : p.rd 0 w.heap.size w) (hok : p.a.ok) (hr : r < p.reps.length) (hl : 0 ≤ p.leader) (hne : p.leader ≠ r) : Ret Try.prog i_part_Expand [p.v, .int .i64 (r : Nat)] w fun v w2 => ∃ p' : Pa, v = .tuple #[p'.v, .int .i64 (expandA p.a r).2] ∧ p'.a = (expandA p.a r).1 ∧ NewPa w w2 p' := by
 refine ret_of fn_part_Expand rfl rfl ?_
 obtain ⟨hn1, hn2, hil, hkl, hf1, hf2, he0, he1, hl0, hl1, hb0, hb1, hsm⟩ := Pa.facts hok
 have hkn := hok.known
 have hiC := h.iC
 have hkC := h.kC
 have hrC := h.rC
 have hfew := h.few
 have H := Hp.startPa h
 obtain ⟨ep, ld, isr, iA, iC, kn, kA, kC, reps, rA, rC, fw, bs⟩ := p
 simp only [Pa.a] at hkn
 dsimp only at H hn1 hn2 hil hkl hf1 hf2 he0 he1 hl0 hl1 hb0 hb1 hsm hiC hkC hrC hfew
 dsimp only at hr hl hne
 show CW _ _ _ _ (args [.agg #[.int .i64 (ep), .int .i64 (ld), .slice iA isr.length iC, .slice kA kn.length kC, .slice rA reps.length rC, .int .i64 (fw), .int .i64 (bs)], .int .i64 (((r : Nat) : Int))]) w
 refine cw_seq ?_
 refine cw_region ?_
 refine bxA H rfl rfl ?_; intro w1 b2 H
 refine alo H z_Part rfl ?_; intro w2 b4 H
 refine l1 (asI_r rfl) rfl rfl rfl ?_
 refine lw_nil ?_
 refine cw_seq ?_
 refine cw_region ?_
 refine l1 (ldW_r agg_Part rfl (H.ent (i := 1) rfl) rfl) rfl rfl rfl ?_
 refine l1 (mvI_r rfl) rfl rfl rfl ?_
 refine cal cb_part_led (pLed_ok ⟨ep, ld, isr, iA, iC, kn, kA, kC, reps, rA, rC, fw, bs⟩ r _ (Hp.pa H 0 rfl) hok hr hl hne) rfl rfl ?_
 rintro _ w3 ⟨⟨ep2, ld2, is2, iA2, c1, kn2, kA2, c2, rs, rA2, c3, fw2, bs2⟩, g1, g2, g3, u1, u2, u3, rfl, ha2, ho⟩
 simp only [Pa.a, PaA.mk.injEq] at ha2
 obtain ⟨e1, e2, e3, e4, hma, e6, e7⟩ := ha2
 obtain rfl : ep = ep2 := e1.symm
 obtain rfl : ld = ld2 := e2.symm
 obtain rfl : isr = is2 := e3.symm
 obtain rfl : kn = kn2 := e4.symm
 obtain rfl : fw = fw2 := e6.symm
 obtain rfl : bs = bs2 := e7.symm
 have hrl : rs.length = reps.length := by have := congrArg List.length hma; simpa using this
 obtain ⟨i1, i2, i3, row1, row2, row3, hcp, hlos, -, hjn⟩ := ho
 dsimp only at i1 i2 i3 row1 row2 row3 hcp hlos hjn
 subst i1; subst i2; subst i3
 have hlo0 := H.size
 replace H := H.joinF hjn (by intro f hf; obtain ⟨r, hr, rfl⟩ := List.mem_map.1 hf; exact hlos r hr)
 replace hlos : ∀ r ∈ rs, w.heap.size ≤ r.lo := fun r hr => Nat.le_trans hlo0 (hlos r hr)
 clear hjn
 have hlg := Logs.of (F := [FPa 0 w.heap.size ⟨ep, ld, isr, iA, iC, kn, kA, kC, reps, rA, rC, fw, bs⟩, FRd boolL 0 w.heap.size iA isr, FRd intL 0 w.heap.size kA kn, FRd repL 0 w.heap.size rA reps]) hcp hlos
 have hok2 : ∀ {i : Nat} {x : Rep}, rs[i]? = some x → GL x.es x.s ∧ 0 ≤ x.high ∧ x.high ≤ x.es.length := fun hx => ok_of hma hok hx
 obtain ⟨x, hx⟩ : ∃ x, rs[r]? = some x := ⟨_, List.getElem?_eq_getElem (by omega)⟩
 have hxa := mapa hma hx
 refine l1 (mvU_r rfl) rfl rfl rfl ?_
 refine l1 (exA_r rfl rfl) rfl rfl rfl ?_
 refine l1 (exI_r rfl rfl) rfl rfl rfl ?_
 refine stN H 4 (#[.int .i64 (ep), .int .i64 (ld), .slice (some ⟨g1, 0, none⟩) isr.length c1, .slice (some ⟨g2, 0, none⟩) kn.length c2, .slice (some ⟨g3, 0, none⟩) rs.length c3, .int .i64 (fw), .int .i64 (bs)]) siz_Part rfl rfl rfl rfl rfl (by kernel_rfl) (by kernel_rfl) ?_; intro w4 H
 refine l1 (asI_r rfl) rfl rfl rfl ?_
 refine lw_nil ?_
 refine cw_seq ?_
 refine cw_seq ?_
 refine cw_region ?_
 refine l1 (mvI_r rfl) rfl rfl rfl ?_
 refine l1 (neqF_r rfl rfl rfl) rfl rfl rfl ?_
 refine lw_nil ?_
 refine cw_false rfl ?_
 refine cw_skip ?_
 refine cw_seq ?_
 refine cw_block ?_
 refine cw_seq ?_
 obtain ⟨b, hb⟩ : ∃ b, isr[r]? = some b := ⟨_, List.getElem?_eq_getElem (by omega)⟩
 have hneg : ¬ ld < 0 := by omega
 obtain ⟨l, hld⟩ : ∃ l : Nat, ld = l := ⟨ld.toNat, by omega⟩
 obtain ⟨y, hy⟩ : ∃ y, rs[l]? = some y := ⟨_, List.getElem?_eq_getElem (by omega)⟩
 refine cw_region ?_
 refine l1 (fad_r fd_Part_2 rfl) rfl rfl rfl ?_
 refine l1 (ld_r one_Lbool rfl (cellE (H.ent (i := 4) rfl) rfl)) rfl rfl rfl ?_
 refine l1 (mvI_r rfl) rfl rfl rfl ?_
 refine l1 (ixR_r sl_Lbool rfl rfl (by first | omega | (simp only [List.length_set]; omega))) rfl rfl rfl ?_
 refine lwB (ldR_r one_bool row1 hb 0 rfl (H.ent (i := 0) rfl) rfl) rfl rfl rfl (fun h22 => ?_) (fun h22 => ?_)
 ·
  refine l1 (asB_r rfl) rfl rfl rfl ?_
  refine lw_nil ?_
  refine cw_true rfl ?_
  refine cw_seq ?_
  refine cw_region ?_
  refine l1 (bld_r (cs := #[.int .i64 (0), .int .i64 (0), .slice none 0 0, .slice none 0 0, .slice none 0 0, .int .i64 (0), .int .i64 (0)]) st_Part z_Part (by kernel_rfl)) rfl rfl rfl ?_
  refine stN H 3 (#[.int .i64 (0), .int .i64 (0), .slice none 0 0, .slice none 0 0, .slice none 0 0, .int .i64 (0), .int .i64 (0)]) siz_Part rfl rfl rfl rfl rfl (by kernel_rfl) (by kernel_rfl) ?_; intro w5 H
  refine l1 (asI_r rfl) rfl rfl rfl ?_
  refine lw_nil ?_
  refine cw_ret ?_
  have hS : expandA (Pa.a ⟨ep, ld, isr, iA, iC, kn, kA, kC, reps, rA, rC, fw, bs⟩) r = (zPaA, 6) := by simp [expandA, Pa.a, hneg, hne, hb, hxa, Rep.a, h22]
  rw [hS]
  exact finCTn (cs0 := #[.int .i64 0, .int .i64 0, .slice none 0 0, .slice none 0 0, .slice none 0 0, .int .i64 0, .int .i64 0]) (v1 := .int .i64 6) rfl agg_Part rfl (H.ent (i := 3) rfl) rfl rfl ⟨zPa, rfl, rfl, NewPa.zero H.below⟩
 ·
  refine l1 (asB_r rfl) rfl rfl rfl ?_
  refine lw_nil ?_
  refine cw_false rfl ?_
  refine cw_seq ?_
  refine cw_region ?_
  refine l1 (fad_r fd_Part_4 rfl) rfl rfl rfl ?_
  refine l1 (ld_r one_LReplica rfl (cellE (H.ent (i := 4) rfl) rfl)) rfl rfl rfl ?_
  refine l1 (mvI_r rfl) rfl rfl rfl ?_
  refine l1 (ixR_r sl_LReplica rfl rfl (by first | omega | (simp only [List.length_set]; omega))) rfl rfl rfl ?_
  refine l1 (fad_r fd_Replica_0 rfl) rfl rfl rfl ?_
  refine lwB (ldR_r one_bool row3 hx 0 rfl (H.ent (i := 2) rfl) rfl) rfl rfl rfl (fun h30 => ?_) (fun h30 => ?_)
  ·
   refine l1 (not_r rfl) rfl rfl rfl ?_
   refine l1 (asB_r rfl) rfl rfl rfl ?_
   refine lw_nil ?_
   refine cw_false rfl ?_
   refine cw_seq ?_
  
   obtain ⟨kx, hkx⟩ : ∃ kx, kn[r]? = some kx := ⟨_, List.getElem?_eq_getElem (by omega)⟩
   refine cw_draw mixed [0, 1, 2, 3, 4, 5, 6, 7, 8, 9, 10, 11, 12, 13, 14, 15, 16] [] [] [0, 2, 3, 5, 7, 9, 11, 12, 14, 15, 16] (sp []) (by kernel_rfl) (by kernel_rfl) (by kernel_rfl) (by kernel_rfl) (fun _ _ _ h => h) (sp_st _) ?_
   refine aw rfl rfl rfl rfl rfl (fun w' hw' => fad_r fd_Part_3 rfl) ?_
   refine aw rfl rfl rfl rfl rfl (fun w' hw' => ld_r one_Lint rfl (cellE ((H.later hw').ent (i := 4) rfl) rfl)) ?_
   refine aw rfl rfl rfl rfl rfl (fun w' hw' => mvI_r rfl) ?_
   refine aw rfl rfl rfl rfl rfl (fun w' hw' => ixR_r sl_Lint rfl rfl (by first | omega | (simp only [List.length_set]; omega))) ?_
   refine aw rfl rfl rfl rfl rfl (fun w' hw' => ldR_r one_int row2 hkx 0 rfl ((H.later hw').ent (i := 1) rfl) rfl) ?_
   refine aw rfl rfl rfl rfl rfl (fun w' hw' => fad_r fd_Part_6 rfl) ?_
   refine aw rfl rfl rfl rfl rfl (fun w' hw' => ld_r one_int rfl (cellE ((H.later hw').ent (i := 4) rfl) rfl)) ?_
   refine aw rfl rfl rfl rfl rfl (fun w' hw' => fad_r fd_Part_4 rfl) ?_
   refine aw rfl rfl rfl rfl rfl (fun w' hw' => ld_r one_LReplica rfl (cellE ((H.later hw').ent (i := 4) rfl) rfl)) ?_
   refine aw rfl rfl rfl rfl rfl (fun w' hw' => fad_r fd_Part_1 rfl) ?_
   refine aw rfl rfl rfl rfl rfl (fun w' hw' => ld_r one_int rfl (cellE ((H.later hw').ent (i := 4) rfl) rfl)) ?_
   refine aw rfl rfl rfl rfl rfl (fun w' hw' => ixR_r (k := l) sl_LReplica rfl (congrArg (Value.int .i64) hld) (by first | omega | (simp only [List.length_set]; omega))) ?_
   refine aw rfl rfl rfl rfl rfl (fun w' hw' => fad_r fd_Replica_2 rfl) ?_
   refine aw rfl rfl rfl rfl rfl (fun w' hw' => ldR_r one_int row3 hy 3 rfl ((H.later hw').ent (i := 2) rfl) rfl) ?_
   refine aw rfl rfl rfl rfl rfl (fun w' hw' => maxI_r rfl rfl) ?_
   refine awD rfl rfl rfl rfl rfl (fun w' hw' => lss_r rfl rfl) (fun h49 => ?_) (fun h49 => ?_)
   ·
    refine aw rfl rfl rfl rfl rfl (fun w' hw' => asB_r rfl) ?_
    refine aw_nil ?_
    intro w6 hw' hF
    replace H := H.later hw'; clear hw' hF
    refine lw_nil ?_
    refine cw_true rfl ?_
    refine cw_seq ?_
    refine cw_region ?_
    refine l1 (bld_r (cs := #[.int .i64 (0), .int .i64 (0), .slice none 0 0, .slice none 0 0, .slice none 0 0, .int .i64 (0), .int .i64 (0)]) st_Part z_Part (by kernel_rfl)) rfl rfl rfl ?_
    refine stN H 3 (#[.int .i64 (0), .int .i64 (0), .slice none 0 0, .slice none 0 0, .slice none 0 0, .int .i64 (0), .int .i64 (0)]) siz_Part rfl rfl rfl rfl rfl (by kernel_rfl) (by kernel_rfl) ?_; intro w7 H
    refine l1 (asI_r rfl) rfl rfl rfl ?_
    refine lw_nil ?_
    refine cw_ret ?_
    have hho : highOf (Pa.a ⟨ep, ld, isr, iA, iC, kn, kA, kC, reps, rA, rC, fw, bs⟩) = y.high := by unfold highOf; rw [show (Pa.a ⟨ep, ld, isr, iA, iC, kn, kA, kC, reps, rA, rC, fw, bs⟩).leader.toNat = l by show ld.toNat = l; omega, show (Pa.a ⟨ep, ld, isr, iA, iC, kn, kA, kC, reps, rA, rC, fw, bs⟩).reps[l]? = some y.a from mapa hma hy]; rfl
    have hkg : kn.getD r 0 = kx := by rw [List.getD_eq_getElem?_getD, hkx]; rfl
    simp only [Pa.a] at hho
    have hS : expandA (Pa.a ⟨ep, ld, isr, iA, iC, kn, kA, kC, reps, rA, rC, fw, bs⟩) r = (zPaA, 13) := by simp [expandA, Pa.a, hneg, hne, hb, hxa, Rep.a, h22, h30, hho, hkx, h49]
    rw [hS]
    exact finCTn (cs0 := #[.int .i64 0, .int .i64 0, .slice none 0 0, .slice none 0 0, .slice none 0 0, .int .i64 0, .int .i64 0]) (v1 := .int .i64 13) rfl agg_Part rfl (H.ent (i := 3) rfl) rfl rfl ⟨zPa, rfl, rfl, NewPa.zero H.below⟩
   ·
    refine aw rfl rfl rfl rfl rfl (fun w' hw' => asB_r rfl) ?_
    refine aw_nil ?_
    intro w8 hw' hF
    replace H := H.later hw'; clear hw' hF
    refine lw_nil ?_
    refine cw_false rfl ?_
    refine cw_skip ?_
    refine cw_seq ?_
    refine cw_region ?_
    refine l1 (fad_r fd_Part_2 rfl) rfl rfl rfl ?_
    refine l1 (ld_r one_Lbool rfl (cellE (H.ent (i := 4) rfl) rfl)) rfl rfl rfl ?_
    refine l1 (mvI_r rfl) rfl rfl rfl ?_
    refine l1 (ixR_r sl_Lbool rfl rfl (by first | omega | (simp only [List.length_set]; omega))) rfl rfl rfl ?_
    refine stR H 0 ((true)) siz_bool row1 hb 0 rfl rfl rfl rfl rfl rfl (by kernel_rfl) ?_; intro w10 cur9 row9 H
    have hs11 : (isr.set r ((true)))[r]? = some ((true)) := List.getElem?_set_self (getE hb).1
    refine lw_nil ?_
    refine cw_seq ?_
    refine cw_region ?_
    refine l1 (ldW_r agg_Part rfl (H.ent (i := 4) rfl) rfl) rfl rfl rfl ?_
    refine stN H 3 (#[.int .i64 (ep), .int .i64 (ld), .slice (some ⟨g1, 0, none⟩) isr.length c1, .slice (some ⟨g2, 0, none⟩) kn.length c2, .slice (some ⟨g3, 0, none⟩) rs.length c3, .int .i64 (fw), .int .i64 (bs)]) siz_Part rfl rfl rfl rfl rfl (by kernel_rfl) (by kernel_rfl) ?_; intro w12 H
    refine l1 (asI_r rfl) rfl rfl rfl ?_
    refine lw_nil ?_
    refine cw_ret ?_
    have hho : highOf (Pa.a ⟨ep, ld, isr, iA, iC, kn, kA, kC, reps, rA, rC, fw, bs⟩) = y.high := by unfold highOf; rw [show (Pa.a ⟨ep, ld, isr, iA, iC, kn, kA, kC, reps, rA, rC, fw, bs⟩).leader.toNat = l by show ld.toNat = l; omega, show (Pa.a ⟨ep, ld, isr, iA, iC, kn, kA, kC, reps, rA, rC, fw, bs⟩).reps[l]? = some y.a from mapa hma hy]; rfl
    have hkg : kn.getD r 0 = kx := by rw [List.getD_eq_getElem?_getD, hkx]; rfl
    simp only [Pa.a] at hho
    have hS : expandA (Pa.a ⟨ep, ld, isr, iA, iC, kn, kA, kC, reps, rA, rC, fw, bs⟩) r = ({ Pa.a ⟨ep, ld, isr, iA, iC, kn, kA, kC, reps, rA, rC, fw, bs⟩ with isr := isr.set r true }, 0) := by simp [expandA, Pa.a, hneg, hne, hb, hxa, Rep.a, h22, h30, hho, hkx, show ¬ kx < max bs y.high from h49]
    rw [hS]
    exact finCTn (cs0 := #[.int .i64 (ep), .int .i64 (ld), .slice (some ⟨g1, 0, none⟩) isr.length c1, .slice (some ⟨g2, 0, none⟩) kn.length c2, .slice (some ⟨g3, 0, none⟩) rs.length c3, .int .i64 (fw), .int .i64 (bs)]) (v1 := .int .i64 0) rfl agg_Part rfl (H.ent (i := 3) rfl) rfl rfl ⟨_, by simp [Pa.c], by simp [Pa.a, hma], (NewPa.mk_ (p := ⟨ep, ld, isr.set r true, some ⟨g1, 0, none⟩, c1, kn, some ⟨g2, 0, none⟩, c2, rs, some ⟨g3, 0, none⟩, c3, fw, bs⟩) rfl rfl rfl row9 row2 row3 hlg (by dsimp only; try simp only [List.length_set, List.length_replicate]; omega) H ⟨by simp, by simp, by simp⟩)⟩
  ·
   refine l1 (not_r rfl) rfl rfl rfl ?_
   refine l1 (asB_r rfl) rfl rfl rfl ?_
   refine lw_nil ?_
   refine cw_true rfl ?_
   refine cw_seq ?_
   refine cw_region ?_
   refine l1 (bld_r (cs := #[.int .i64 (0), .int .i64 (0), .slice none 0 0, .slice none 0 0, .slice none 0 0, .int .i64 (0), .int .i64 (0)]) st_Part z_Part (by kernel_rfl)) rfl rfl rfl ?_
   refine stN H 3 (#[.int .i64 (0), .int .i64 (0), .slice none 0 0, .slice none 0 0, .slice none 0 0, .int .i64 (0), .int .i64 (0)]) siz_Part rfl rfl rfl rfl rfl (by kernel_rfl) (by kernel_rfl) ?_; intro w13 H
   refine l1 (asI_r rfl) rfl rfl rfl ?_
   refine lw_nil ?_
   refine cw_ret ?_
   have hS : expandA (Pa.a ⟨ep, ld, isr, iA, iC, kn, kA, kC, reps, rA, rC, fw, bs⟩) r = (zPaA, 7) := by simp [expandA, Pa.a, hneg, hne, hb, hxa, Rep.a, h22, h30]
   rw [hS]
   exact finCTn (cs0 := #[.int .i64 0, .int .i64 0, .slice none 0 0, .slice none 0 0, .slice none 0 0, .int .i64 0, .int .i64 0]) (v1 := .int .i64 7) rfl agg_Part rfl (H.ent (i := 3) rfl) rfl rfl ⟨zPa, rfl, rfl, NewPa.zero H.below⟩
theorem pShrink_ok (p : Pa) (r : Nat) (w : World) (h : p.rd 0 w.heap.size w) (hok : p.a.ok) (hr : r < p.reps.length) : Ret Try.prog i_part_Shrink [p.v, .int .i64 (r : Nat)] w fun v w2 => ∃ p' : Pa, v = .tuple #[p'.v, .int .i64 (shrinkA p.a r).2] ∧ p'.a = (shrinkA p.a r).1 ∧ NewPa w w2 p' := by
 by_cases hl : p.leader < 0 ∨ p.leader = r
 ·
  have hS : shrinkA p.a r = (zPaA, 8) := by unfold shrinkA; exact if_pos hl
  rw [hS]
  exact (pShrink_bad p r w h hok hr hl).mono fun _ _ ⟨h1, h2⟩ => ⟨zPa, h1, rfl, NewPa.zero h2⟩
 ·
  exact pShrink_led p r w h hok hr (by omega) (by omega)
theorem pExpand_ok (p : Pa) (r : Nat) (w : World) (h : p.rd 0 w.heap.size w) (hok : p.a.ok) (hr : r < p.reps.length) : Ret Try.prog i_part_Expand [p.v, .int .i64 (r : Nat)] w fun v w2 => ∃ p' : Pa, v = .tuple #[p'.v, .int .i64 (expandA p.a r).2] ∧ p'.a = (expandA p.a r).1 ∧ NewPa w w2 p' := by
 by_cases hl : p.leader < 0 ∨ p.leader = r
 ·
  have hS : expandA p.a r = (zPaA, 8) := by unfold expandA; exact if_pos hl
  rw [hS]
  exact (pExpand_bad p r w h hok hr hl).mono fun _ _ ⟨h1, h2⟩ => ⟨zPa, h1, rfl, NewPa.zero h2⟩
 ·
  exact pExpand_led p r w h hok hr (by omega) (by omega)
end Go.Proofs.Ytemnchkebhclpaa
end

section
namespace Go.Proofs.Ytemnchkebhclpaa
open Go Go.Eng Go.RowKit
set_option linter.unusedSimpArgs false
/-- how many of those that keep up are up -/
def upA : List Bool → List RA → Int → Int
 | b :: bs, y :: ys, n => upA bs ys (if (b && y.up) = true then n + 1 else n)
 | _, _, n => n
theorem up_step {isr : List Bool} {ys : List RA} {k : Nat} {b : Bool} {y : RA} {n : Int} (hb : isr[k]? = some b) (hy : ys[k]? = some y) : upA (isr.drop k) (ys.drop k) n = upA (isr.drop (k + 1)) (ys.drop (k + 1)) (if (b && y.up) = true then n + 1 else n) := by
 rw [take_drop_step hb, take_drop_step hy]
 rfl
/-- P4.4: an entry is put -/
def putA (p : PaA) (e : Ent) : PaA × Int × Int := if p.leader < 0 then (zPaA, 0, 8) else match p.reps[p.leader.toNat]? with
 | none => (zPaA, 0, 12)
 | some x => if entCheck { e with epoch := p.epoch } ≠ 0 then (zPaA, 0, entCheck { e with epoch := p.epoch }) else
  if (vchk x.es { e with epoch := p.epoch }).2 ≠ 0 then (zPaA, 0, (vchk x.es { e with epoch := p.epoch }).2) else
  if 0 ≤ (vchk x.es { e with epoch := p.epoch }).1 then (p, (vchk x.es { e with epoch := p.epoch }).1, 0) else
  if upA p.isr p.reps 0 < p.few then (zPaA, 0, 9) else ({ p with reps := p.reps.set p.leader.toNat { x with es := x.es ++ [{ e with epoch := p.epoch }] } }, (x.es.length : Nat), 0)
theorem not_full {es : List Ent} {s : Nat} {x : Ent} (h : GL es s) (hx : Good x) (hl : es.length < 400) : ¬ full es x := by
 have h1 := flat_le (es ++ [x]) (fun e he => by
  rcases List.mem_append.1 he with he | he
  ·
   exact h.good e he
  ·
   rw [List.mem_singleton.1 he]; exact hx)
 rw [flat_snoc, List.length_append, List.length_append] at h1
 simp only [List.length_singleton] at h1
 unfold full
 omega
theorem segAppend_row (l : LogR) (x : Ent) (w : World) (h : l.ok w) (hx : Good x) (hf : l.es.length < 400) : Ret Try.prog i_seg_Append [.agg l.c.toArray, x.v] w fun v w2 => ∃ A' c', v = .tuple #[.agg #[.slice A' (flat (l.es ++ [x])).length c', .int .i64 (lsz (l.es ++ [x]) l.s : Nat)], .int .i64 0] ∧ (flat (l.es ++ [x])).length ≤ c' ∧ Rd byteL w.heap.size w2.heap.size A' (flat (l.es ++ [x])) w2 ∧ Below w.heap.size w w2 :=
 (segAppend_ok l x w h hx (not_full h.gl hx hf)).mono fun _ _ ⟨A', c', h1, h2, h3⟩ => ⟨A', c', h1, h2.2.1, h2.2.2, h3⟩
theorem cellLog_apart {w : World} {b : Nat} {l : List UInt8} (h : w.heap[b]? = some (.cells #[.slice none 0 0, .int .i64 0] T_Log (0, 0))) (h0 : 0 < l.length) : ∃ (j : Nat) (u : Value), (byteL.all l)[j]? = some u ∧ ∀ k, w.cell? ⟨b, k, none⟩ ≠ some u := by
 obtain ⟨x, l, rfl⟩ : ∃ x t, l = x :: t := by cases l <;> simp at h0 ⊢
 refine ⟨0, .int .u8 (x.toNat : Nat), rfl, fun k hk => ?_⟩
 have := cell_in h hk
 simp at this
theorem flat_pos {es : List Ent} {x : Ent} : 0 < (flat (es ++ [x])).length := by rw [flat_snoc, List.length_append]; have := encB_ne (e := x); omega
set_option maxHeartbeats 4000000 in
set_option maxRecDepth 10000 in
theorem pPut_ok (p : Pa) (e : Ent) (w : World) (h : p.rd 0 w.heap.size w) (hok : p.a.ok) (hroom : ∀ (l : Nat) (x : Rep), p.leader = l → p.reps[l]? = some x → x.es.length < 400) : Ret Try.prog i_part_Put [p.v, e.v] w fun v w2 => ∃ p' : Pa, v = .tuple #[p'.v, .int .i64 (putA p.a e).2.1, .int .i64 (putA p.a e).2.2] ∧ p'.a = (putA p.a e).1 ∧ NewPa w w2 p' := by
 refine ret_of fn_part_Put rfl rfl ?_
 obtain ⟨hn1, hn2, hil, hkl, hf1, hf2, he0, he1, hl0, hl1, hb0, hb1, hsm⟩ := Pa.facts hok
 have hkn := hok.known
 have hiC := h.iC
 have hkC := h.kC
 have hrC := h.rC
 have hfew := h.few
 have H := Hp.startPa h
 obtain ⟨ep, ld, isr, iA, iC, kn, kA, kC, reps, rA, rC, fw, bs⟩ := p
 simp only [Pa.a] at hkn
 dsimp only at H hn1 hn2 hil hkl hf1 hf2 he0 he1 hl0 hl1 hb0 hb1 hsm hiC hkC hrC hfew
 dsimp only at hroom
 show CW _ _ _ _ (args [.agg #[.int .i64 (ep), .int .i64 (ld), .slice iA isr.length iC, .slice kA kn.length kC, .slice rA reps.length rC, .int .i64 (fw), .int .i64 (bs)], .agg #[.int .i64 (e.epoch), .int .i64 (e.pid), .int .i64 (e.ver), .int .i64 (e.seq), .int .i64 (e.kind), .bool (e.txn), .string (e.text)]]) w
 refine cw_seq ?_
 refine cw_region ?_
 refine bxA H rfl rfl ?_; intro w1 b2 H
 refine bxA H rfl rfl ?_; intro w2 b3 H
 refine alo H z_Part rfl ?_; intro w3 b4 H
 refine l1 (asI_r rfl) rfl rfl rfl ?_
 refine l1 (asI_r rfl) rfl rfl rfl ?_
 refine lw_nil ?_
 refine cw_seq ?_
 refine cw_seq ?_
 refine cw_region ?_
 refine l1 (ldW_r agg_Part rfl (H.ent (i := 2) rfl) rfl) rfl rfl rfl ?_
 refine cal cb_part_Check (pCheck_ok ⟨ep, ld, isr, iA, iC, kn, kA, kC, reps, rA, rC, fw, bs⟩ _ (Hp.pa H 0 rfl) hok) rfl rfl ?_
 rintro _ w4 ⟨rfl, hb⟩; replace H := H.later hb; clear hb
 refine l1 (asI_r rfl) rfl rfl rfl ?_
 refine lw_nil ?_
 refine cw_seq ?_
 refine cw_region ?_
 refine l1 (mvI_r rfl) rfl rfl rfl ?_
 refine l1 (neqF_r rfl rfl rfl) rfl rfl rfl ?_
 refine lw_nil ?_
 refine cw_false rfl ?_
 refine cw_skip ?_
 refine cw_seq ?_
 refine cw_seq ?_
 refine cw_region ?_
 refine l1 (fad_r fd_Part_1 rfl) rfl rfl rfl ?_
 refine l1 (ld_r one_int rfl (cellE (H.ent (i := 2) rfl) rfl)) rfl rfl rfl ?_
 refine lwD (lss_r rfl rfl) rfl rfl rfl (fun h27 => ?_) (fun h27 => ?_)
 ·
  refine lw_nil ?_
  refine cw_true rfl ?_
  refine cw_seq ?_
  refine cw_region ?_
  refine l1 (bld_r (cs := #[.int .i64 (0), .int .i64 (0), .slice none 0 0, .slice none 0 0, .slice none 0 0, .int .i64 (0), .int .i64 (0)]) st_Part z_Part (by kernel_rfl)) rfl rfl rfl ?_
  refine stN H 0 (#[.int .i64 (0), .int .i64 (0), .slice none 0 0, .slice none 0 0, .slice none 0 0, .int .i64 (0), .int .i64 (0)]) siz_Part rfl rfl rfl rfl rfl (by kernel_rfl) (by kernel_rfl) ?_; intro w5 H
  refine l1 (asI_r rfl) rfl rfl rfl ?_
  refine l1 (asI_r rfl) rfl rfl rfl ?_
  refine lw_nil ?_
  refine cw_ret ?_
  have hS : putA (Pa.a ⟨ep, ld, isr, iA, iC, kn, kA, kC, reps, rA, rC, fw, bs⟩) e = (zPaA, 0, 8) := by unfold putA; exact if_pos h27
  rw [hS]
  exact finCTT (cs0 := #[.int .i64 0, .int .i64 0, .slice none 0 0, .slice none 0 0, .slice none 0 0, .int .i64 0, .int .i64 0]) (v1 := .int .i64 (0)) (v2 := .int .i64 (8)) rfl agg_Part rfl (H.ent (i := 0) rfl) rfl rfl rfl ⟨zPa, rfl, rfl, NewPa.zero H.below⟩
 ·
  refine lw_nil ?_
  refine cw_false rfl ?_
  refine cw_skip ?_
  refine cw_seq ?_
  obtain ⟨l, hld⟩ : ∃ l : Nat, ld = l := ⟨ld.toNat, by omega⟩
  refine cw_region ?_
  refine l1 (ldW_r agg_Part rfl (H.ent (i := 2) rfl) rfl) rfl rfl rfl ?_
  refine cal cb_part_Copy (pCopy_ok ⟨ep, ld, isr, iA, iC, kn, kA, kC, reps, rA, rC, fw, bs⟩ _ (Hp.pa H 0 rfl) hok) rfl rfl ?_
  rintro _ w6 ⟨⟨ep2, ld2, is2, iA2, c1, kn2, kA2, c2, rs, rA2, c3, fw2, bs2⟩, g1, g2, g3, u1, u2, u3, rfl, ha2, ho⟩
  simp only [Pa.a, PaA.mk.injEq] at ha2
  obtain ⟨e1, e2, e3, e4, hma, e6, e7⟩ := ha2
  obtain rfl : ep = ep2 := e1.symm
  obtain rfl : ld = ld2 := e2.symm
  obtain rfl : isr = is2 := e3.symm
  obtain rfl : kn = kn2 := e4.symm
  obtain rfl : fw = fw2 := e6.symm
  obtain rfl : bs = bs2 := e7.symm
  have hrl : rs.length = reps.length := by have := congrArg List.length hma; simpa using this
  obtain ⟨i1, i2, i3, row1, row2, row3, hcp, hlos, -, hjn⟩ := ho
  dsimp only at i1 i2 i3 row1 row2 row3 hcp hlos hjn
  subst i1; subst i2; subst i3
  have hlo0 := H.size
  replace H := H.joinF hjn (by intro f hf; obtain ⟨r, hr, rfl⟩ := List.mem_map.1 hf; exact hlos r hr)
  replace hlos : ∀ r ∈ rs, w.heap.size ≤ r.lo := fun r hr => Nat.le_trans hlo0 (hlos r hr)
  clear hjn
  have hlg := Logs.of (F := [FPa 0 w.heap.size ⟨ep, ld, isr, iA, iC, kn, kA, kC, reps, rA, rC, fw, bs⟩, FRd boolL 0 w.heap.size iA isr, FRd intL 0 w.heap.size kA kn, FRd repL 0 w.heap.size rA reps]) hcp hlos
  have hok2 : ∀ {i : Nat} {x : Rep}, rs[i]? = some x → GL x.es x.s ∧ 0 ≤ x.high ∧ x.high ≤ x.es.length := fun hx => ok_of hma hok hx
  obtain ⟨x, hx⟩ : ∃ x, rs[l]? = some x := ⟨_, List.getElem?_eq_getElem (by omega)⟩
  have hxa := mapa hma hx
  refine stN H 5 (#[.int .i64 (ep), .int .i64 (ld), .slice (some ⟨g1, 0, none⟩) isr.length c1, .slice (some ⟨g2, 0, none⟩) kn.length c2, .slice (some ⟨g3, 0, none⟩) rs.length c3, .int .i64 (fw), .int .i64 (bs)]) siz_Part rfl rfl rfl rfl rfl (by kernel_rfl) (by kernel_rfl) ?_; intro w7 H
  refine lw_nil ?_
  refine cw_seq ?_
  refine cw_region ?_
  refine l1 (fad_r fd_Part_4 rfl) rfl rfl rfl ?_
  refine l1 (ld_r one_LReplica rfl (cellE (H.ent (i := 5) rfl) rfl)) rfl rfl rfl ?_
  refine l1 (fad_r fd_Part_1 rfl) rfl rfl rfl ?_
  refine l1 (ld_r one_int rfl (cellE (H.ent (i := 5) rfl) rfl)) rfl rfl rfl ?_
  refine l1 (ixR_r (k := l) sl_LReplica rfl (congrArg (Value.int .i64) hld) (by first | omega | (simp only [List.length_set]; omega))) rfl rfl rfl ?_
  refine l1 (asP_r rfl) rfl rfl rfl ?_
  refine lw_nil ?_
  refine cw_seq ?_
  refine cw_region ?_
  refine l1 (mvP_r rfl) rfl rfl rfl ?_
  refine l1 (nck_r rfl) rfl rfl rfl ?_
  refine l1 (fad_r fd_Replica_1 rfl) rfl rfl rfl ?_
  refine l1 (ldRS_r 1 [.slice x.A ((flat x.es).length) x.cap, .int .i64 (((lsz x.es x.s : Nat) : Int))] agg_Log row3 hx rfl rfl (H.ent (i := 2) rfl) rfl) rfl rfl rfl ?_
  refine cal cb_seg_Entries (segEntries_at x.A x.cap x.es x.s _ (hlg.log H hx (hok2 hx).1)) rfl rfl ?_
  have hloen := H.size
  rintro _ w8 ⟨Aen, cen, rfl, hren, hcen, hben⟩; replace H := H.learnRd hben hren; clear hren hben
  refine l1 (mvU_r rfl) rfl rfl rfl ?_
  refine l1 (exS_r rfl rfl) rfl rfl rfl ?_
  refine l1 (exI_r rfl rfl) rfl rfl rfl ?_
  refine l1 (exI_r rfl rfl) rfl rfl rfl ?_
  refine l1 (asS_r rfl) rfl rfl rfl ?_
  refine l1 (asI_r rfl) rfl rfl rfl ?_
  refine l1 (asI_r rfl) rfl rfl rfl ?_
  refine lw_nil ?_
  refine cw_seq ?_
  refine cw_region ?_
  refine l1 (fad_r fd_Part_0 rfl) rfl rfl rfl ?_
  refine l1 (ld_r one_int rfl (cellE (H.ent (i := 5) rfl) rfl)) rfl rfl rfl ?_
  refine l1 (fad_r fd_Entry_0 rfl) rfl rfl rfl ?_
  refine stN H 4 (#[.int .i64 (ep), .int .i64 (e.pid), .int .i64 (e.ver), .int .i64 (e.seq), .int .i64 (e.kind), .bool (e.txn), .string (e.text)]) siz_int rfl rfl rfl rfl rfl (by kernel_rfl) (by kernel_rfl) ?_; intro w9 H
  refine lw_nil ?_
  refine cw_seq ?_
  refine cw_seq ?_
  refine cw_region ?_
  refine l1 (ldW_r agg_Entry rfl (H.ent (i := 4) rfl) rfl) rfl rfl rfl ?_
  refine cal cb_wire_Check (wcheck_ok { e with epoch := ep } _) rfl rfl ?_
  rintro _ w10 ⟨rfl, hb⟩; replace H := H.later hb; clear hb
  refine l1 (asI_r rfl) rfl rfl rfl ?_
  refine lw_nil ?_
  refine cw_seq ?_
  refine cw_region ?_
  refine l1 (mvI_r rfl) rfl rfl rfl ?_
  refine lwND (neq_r rfl rfl) rfl rfl rfl (fun h51 => ?_) (fun h51 => ?_)
  ·
   refine lw_nil ?_
   refine cw_true rfl ?_
   refine cw_seq ?_
   refine cw_region ?_
   refine l1 (bld_r (cs := #[.int .i64 (0), .int .i64 (0), .slice none 0 0, .slice none 0 0, .slice none 0 0, .int .i64 (0), .int .i64 (0)]) st_Part z_Part (by kernel_rfl)) rfl rfl rfl ?_
   refine l1 (mvI_r rfl) rfl rfl rfl ?_
   refine stN H 3 (#[.int .i64 (0), .int .i64 (0), .slice none 0 0, .slice none 0 0, .slice none 0 0, .int .i64 (0), .int .i64 (0)]) siz_Part rfl rfl rfl rfl rfl (by kernel_rfl) (by kernel_rfl) ?_; intro w11 H
   refine l1 (asI_r rfl) rfl rfl rfl ?_
   refine l1 (asI_r rfl) rfl rfl rfl ?_
   refine lw_nil ?_
   refine cw_ret ?_
   have hlr : (Pa.a ⟨ep, ld, isr, iA, iC, kn, kA, kC, reps, rA, rC, fw, bs⟩).reps[ld.toNat]? = some x.a := by rw [show ld.toNat = l by omega]; exact hxa
   have hS : putA (Pa.a ⟨ep, ld, isr, iA, iC, kn, kA, kC, reps, rA, rC, fw, bs⟩) e = (zPaA, 0, entCheck { e with epoch := ep }) := by unfold putA; rw [if_neg (show ¬ (Pa.a ⟨ep, ld, isr, iA, iC, kn, kA, kC, reps, rA, rC, fw, bs⟩).leader < 0 from by show ¬ ld < 0; omega), show (Pa.a ⟨ep, ld, isr, iA, iC, kn, kA, kC, reps, rA, rC, fw, bs⟩).leader.toNat = ld.toNat from rfl, hlr]; simp [Pa.a, Rep.a, h51]
   rw [hS]
   exact finCTT (cs0 := #[.int .i64 0, .int .i64 0, .slice none 0 0, .slice none 0 0, .slice none 0 0, .int .i64 0, .int .i64 0]) (v1 := .int .i64 (0)) (v2 := .int .i64 (entCheck { e with epoch := ep })) rfl agg_Part rfl (H.ent (i := 3) rfl) rfl rfl rfl ⟨zPa, rfl, rfl, NewPa.zero H.below⟩
  ·
   refine lw_nil ?_
   refine cw_false rfl ?_
   refine cw_skip ?_
   refine cw_seq ?_
   refine cw_region ?_
   refine l1 (mvS_r rfl) rfl rfl rfl ?_
   refine l1 (ldW_r agg_Entry rfl (H.ent (i := 4) rfl) rfl) rfl rfl rfl ?_
   refine cal cb_view_Check (vcheck_ok x.es Aen cen { e with epoch := ep } _ (H.rd0 0 rfl) (by have := (hok2 hx).1.len; omega) (seqB_good (hok2 hx).1.good)) rfl rfl ?_
   rintro _ w12 ⟨rfl, hb⟩; replace H := H.later hb; clear hb
   refine l1 (mvU_r rfl) rfl rfl rfl ?_
   refine l1 (exI_r rfl rfl) rfl rfl rfl ?_
   refine l1 (exI_r rfl rfl) rfl rfl rfl ?_
   refine l1 (asI_r rfl) rfl rfl rfl ?_
   refine l1 (asI_r rfl) rfl rfl rfl ?_
   refine lw_nil ?_
   refine cw_seq ?_
   refine cw_seq ?_
   refine cw_region ?_
   refine l1 (mvI_r rfl) rfl rfl rfl ?_
   refine lwND (neq_r rfl rfl) rfl rfl rfl (fun h61 => ?_) (fun h61 => ?_)
   ·
    refine lw_nil ?_
    refine cw_true rfl ?_
    refine cw_seq ?_
    refine cw_region ?_
    refine l1 (bld_r (cs := #[.int .i64 (0), .int .i64 (0), .slice none 0 0, .slice none 0 0, .slice none 0 0, .int .i64 (0), .int .i64 (0)]) st_Part z_Part (by kernel_rfl)) rfl rfl rfl ?_
    refine l1 (mvI_r rfl) rfl rfl rfl ?_
    refine stN H 3 (#[.int .i64 (0), .int .i64 (0), .slice none 0 0, .slice none 0 0, .slice none 0 0, .int .i64 (0), .int .i64 (0)]) siz_Part rfl rfl rfl rfl rfl (by kernel_rfl) (by kernel_rfl) ?_; intro w13 H
    refine l1 (asI_r rfl) rfl rfl rfl ?_
    refine l1 (asI_r rfl) rfl rfl rfl ?_
    refine lw_nil ?_
    refine cw_ret ?_
    have hlr : (Pa.a ⟨ep, ld, isr, iA, iC, kn, kA, kC, reps, rA, rC, fw, bs⟩).reps[ld.toNat]? = some x.a := by rw [show ld.toNat = l by omega]; exact hxa
    have hS : putA (Pa.a ⟨ep, ld, isr, iA, iC, kn, kA, kC, reps, rA, rC, fw, bs⟩) e = (zPaA, 0, (vchk x.es { e with epoch := ep }).2) := by unfold putA; rw [if_neg (show ¬ (Pa.a ⟨ep, ld, isr, iA, iC, kn, kA, kC, reps, rA, rC, fw, bs⟩).leader < 0 from by show ¬ ld < 0; omega), show (Pa.a ⟨ep, ld, isr, iA, iC, kn, kA, kC, reps, rA, rC, fw, bs⟩).leader.toNat = ld.toNat from rfl, hlr]; simp [Pa.a, Rep.a, h51, h61]
    rw [hS]
    exact finCTT (cs0 := #[.int .i64 0, .int .i64 0, .slice none 0 0, .slice none 0 0, .slice none 0 0, .int .i64 0, .int .i64 0]) (v1 := .int .i64 (0)) (v2 := .int .i64 ((vchk x.es { e with epoch := ep }).2)) rfl agg_Part rfl (H.ent (i := 3) rfl) rfl rfl rfl ⟨zPa, rfl, rfl, NewPa.zero H.below⟩
   ·
    refine lw_nil ?_
    refine cw_false rfl ?_
    refine cw_skip ?_
    refine cw_seq ?_
    refine cw_seq ?_
    refine cw_region ?_
    refine l1 (mvI_r rfl) rfl rfl rfl ?_
    refine lwD (geq_r rfl rfl) rfl rfl rfl (fun h65 => ?_) (fun h65 => ?_)
    ·
     refine lw_nil ?_
     refine cw_true rfl ?_
     refine cw_seq ?_
     refine cw_region ?_
     refine l1 (ldW_r agg_Part rfl (H.ent (i := 5) rfl) rfl) rfl rfl rfl ?_
     refine l1 (mvI_r rfl) rfl rfl rfl ?_
     refine stN H 3 (#[.int .i64 (ep), .int .i64 (ld), .slice (some ⟨g1, 0, none⟩) isr.length c1, .slice (some ⟨g2, 0, none⟩) kn.length c2, .slice (some ⟨g3, 0, none⟩) rs.length c3, .int .i64 (fw), .int .i64 (bs)]) siz_Part rfl rfl rfl rfl rfl (by kernel_rfl) (by kernel_rfl) ?_; intro w14 H
     refine l1 (asI_r rfl) rfl rfl rfl ?_
     refine l1 (asI_r rfl) rfl rfl rfl ?_
     refine lw_nil ?_
     refine cw_ret ?_
     have hlr : (Pa.a ⟨ep, ld, isr, iA, iC, kn, kA, kC, reps, rA, rC, fw, bs⟩).reps[ld.toNat]? = some x.a := by rw [show ld.toNat = l by omega]; exact hxa
     have hS : putA (Pa.a ⟨ep, ld, isr, iA, iC, kn, kA, kC, reps, rA, rC, fw, bs⟩) e = ((Pa.a ⟨ep, ld, isr, iA, iC, kn, kA, kC, reps, rA, rC, fw, bs⟩), (vchk x.es { e with epoch := ep }).1, 0) := by unfold putA; rw [if_neg (show ¬ (Pa.a ⟨ep, ld, isr, iA, iC, kn, kA, kC, reps, rA, rC, fw, bs⟩).leader < 0 from by show ¬ ld < 0; omega), show (Pa.a ⟨ep, ld, isr, iA, iC, kn, kA, kC, reps, rA, rC, fw, bs⟩).leader.toNat = ld.toNat from rfl, hlr]; simp [Pa.a, Rep.a, h51, h61, h65]
     rw [hS]
     exact finCTT (cs0 := #[.int .i64 (ep), .int .i64 (ld), .slice (some ⟨g1, 0, none⟩) isr.length c1, .slice (some ⟨g2, 0, none⟩) kn.length c2, .slice (some ⟨g3, 0, none⟩) rs.length c3, .int .i64 (fw), .int .i64 (bs)]) (v1 := .int .i64 ((vchk x.es { e with epoch := ep }).1)) (v2 := .int .i64 (0)) rfl agg_Part rfl (H.ent (i := 3) rfl) rfl rfl rfl ⟨_, by simp [Pa.c], by simp [Pa.a, List.map_set, hma, Rep.a], (NewPa.mk_ (p := ⟨ep, ld, isr, some ⟨g1, 0, none⟩, c1, kn, some ⟨g2, 0, none⟩, c2, rs, some ⟨g3, 0, none⟩, c3, fw, bs⟩) rfl rfl rfl row1 row2 row3 hlg.cons (by dsimp only; first | omega | (simp only [List.length_set, List.length_replicate]; omega)) H ⟨by simp, by simp, by simp⟩)⟩
    ·
     refine lw_nil ?_
     refine cw_false rfl ?_
     refine cw_skip ?_
     refine cw_seq ?_
     refine cw_region ?_
     refine l1 (asI_r rfl) rfl rfl rfl ?_
     refine lw_nil ?_
     refine cw_seq ?_
     refine cw_seq ?_
     refine cw_region ?_
     refine l1 (fad_r fd_Part_4 rfl) rfl rfl rfl ?_
     refine l1 (ld_r one_LReplica rfl (cellE (H.ent (i := 5) rfl) rfl)) rfl rfl rfl ?_
     refine l1 (lenS_r len_LReplica rfl) rfl rfl rfl ?_
     refine l1 (mvI_r rfl) rfl rfl rfl ?_
     refine lw_nil ?_
     refine cw_block ?_
     refine cw_loop (τ := Nat × Int) [15, 16, 17, 71, 72, 73, 74, 75, 76, 77, 78, 79, 80, 81, 82, 83, 84, 85, 86, 87] (fun (k, n) => [(71, .int .i64 (k : Nat)), (15, .int .i64 n)]) (fun (k, n) w' => k ≤ rs.length ∧ (0 ≤ n ∧ n ≤ k) ∧ upA (isr.drop k) ((rs.map Rep.a).drop k) n = upA isr (rs.map Rep.a) 0 ∧ Hp w w' [(g1, .cells u1 T_bool (0, 0)), (g2, .cells u2 T_int (0, 0)), (g3, .cells u3 T_Replica (0, 0)), (b4, .cells #[.int .i64 (0), .int .i64 (0), .slice none 0 0, .slice none 0 0, .slice none 0 0, .int .i64 (0), .int .i64 (0)] T_Part (0, 0)), (b3, .cells #[.int .i64 (ep), .int .i64 (e.pid), .int .i64 (e.ver), .int .i64 (e.seq), .int .i64 (e.kind), .bool (e.txn), .string (e.text)] T_Entry (0, 0)), (b2, .cells #[.int .i64 (ep), .int .i64 (ld), .slice (some ⟨g1, 0, none⟩) isr.length c1, .slice (some ⟨g2, 0, none⟩) kn.length c2, .slice (some ⟨g3, 0, none⟩) rs.length c3, .int .i64 (fw), .int .i64 (bs)] T_Part (0, 0))] ([FRd entL w7.heap.size w8.heap.size Aen x.es, FPa 0 w.heap.size ⟨ep, ld, isr, iA, iC, kn, kA, kC, reps, rA, rC, fw, bs⟩, FRd boolL 0 w.heap.size iA isr, FRd intL 0 w.heap.size kA kn, FRd repL 0 w.heap.size rA reps] ++ repsF rs)) (fun (k, _) => rs.length - k) (0, 0) ⟨by omega, by omega, rfl, H⟩ (sl2 rfl rfl) ?_
     rintro ⟨k, n⟩ ρ1 w15 ⟨hk, ⟨hn0, hnk⟩, hm, H⟩
     show CW _ _ _ _ (updL (ovr _ _ ρ1) [(71, .int .i64 (k : Nat)), (15, .int .i64 n)]) w15
     refine cw_seq ?_
     refine cw_region ?_
     refine lwD (lss_r rfl rfl) rfl rfl rfl (fun h72 => ?_) (fun h72 => ?_)
     ·
      refine lw_nil ?_
      refine cw_seq ?_
      refine cw_true rfl ?_
      refine cw_skip ?_
      refine cw_seq ?_
      refine cw_block ?_
      refine cw_seq ?_
      obtain ⟨y, hy⟩ : ∃ y, rs[k]? = some y := ⟨_, List.getElem?_eq_getElem (by omega)⟩
      obtain ⟨b, hb⟩ : ∃ b, isr[k]? = some b := ⟨_, List.getElem?_eq_getElem (by omega)⟩
      refine cw_region ?_
      refine l1 (mvI_r rfl) rfl rfl rfl ?_
      refine l1 (ixR_r sl_LReplica rfl rfl (by first | omega | (simp only [List.length_set]; omega))) rfl rfl rfl ?_
      refine l1 (ldRA_r agg_Replica row3 hy rfl rfl (H.ent (i := 2) rfl)) rfl rfl rfl ?_
      refine alo H z_Replica rfl ?_; intro w16 b17 H
      refine l1 (asI_r rfl) rfl rfl rfl ?_
      refine stN H 0 (#[.bool (y.up), .slice y.A ((flat y.es).length) y.cap, .int .i64 (((lsz y.es y.s : Nat) : Int)), .int .i64 (y.high)]) siz_Replica rfl rfl rfl rfl rfl (by kernel_rfl) (by kernel_rfl) ?_; intro w17 H
      refine lw_nil ?_
      refine cw_seq ?_
      refine cw_region ?_
      refine l1 (fad_r fd_Part_2 rfl) rfl rfl rfl ?_
      refine l1 (ld_r one_Lbool rfl (cellE (H.ent (i := 6) rfl) rfl)) rfl rfl rfl ?_
      refine l1 (mvI_r rfl) rfl rfl rfl ?_
      refine l1 (ixR_r sl_Lbool rfl rfl (by first | omega | (simp only [List.length_set]; omega))) rfl rfl rfl ?_
      refine lwB (ldR_r one_bool row1 hb 0 rfl (H.ent (i := 1) rfl) rfl) rfl rfl rfl (fun h80 => ?_) (fun h80 => ?_)
      ·
       refine l1 (mvB_r rfl) rfl rfl rfl ?_
       refine lwG rfl ?_
       refine l1 (fad_r fd_Replica_0 rfl) rfl rfl rfl ?_
       refine lwG rfl ?_
       refine lwB (ld_r one_bool rfl (cellE (H.ent (i := 0) rfl) rfl)) rfl rfl rfl (fun h83 => ?_) (fun h83 => ?_)
       ·
        refine l1 (pkTB_r rfl rfl) rfl rfl rfl ?_
        refine lw_nil ?_
        refine cw_true rfl ?_
        refine cw_region ?_
        refine l1 (mvI_r rfl) rfl rfl rfl ?_
        refine l1 (add_r rfl rfl (by omega) (by omega)) rfl rfl rfl ?_
        refine l1 (asI_r rfl) rfl rfl rfl ?_
        refine lw_nil ?_
        refine cw_region ?_
        refine l1 (add_r rfl rfl (by omega) (by omega)) rfl rfl rfl ?_
        refine l1 (mvI_r rfl) rfl rfl rfl ?_
        refine lw_nil ?_
        refine ⟨(k + 1, n + 1), ⟨by omega, by omega, by rw [← hm, up_step hb (show (rs.map Rep.a)[k]? = some y.a by rw [List.getElem?_map, hy]; rfl)]; simp [Rep.a, h80, h83], H.forget (.cons _ (List.Sublist.refl _)) (fun _ h => h)⟩, sl2 rfl rfl, by repeat (first | exact Agr.refl _ _ | exact agr_ovr | refine agr_upd rfl ?_ | refine agr_updL _ rfl ?_ | refine agr_ovr2 rfl ?_), by show rs.length - (k + 1) < rs.length - k; omega⟩
       ·
        refine l1 (pkTB_r rfl rfl) rfl rfl rfl ?_
        refine lw_nil ?_
        refine cw_false rfl ?_
        refine cw_skip ?_
        refine cw_region ?_
        refine l1 (add_r rfl rfl (by omega) (by omega)) rfl rfl rfl ?_
        refine l1 (mvI_r rfl) rfl rfl rfl ?_
        refine lw_nil ?_
        refine ⟨(k + 1, n), ⟨by omega, by omega, by rw [← hm, up_step hb (show (rs.map Rep.a)[k]? = some y.a by rw [List.getElem?_map, hy]; rfl)]; simp [Rep.a, h80, h83], H.forget (.cons _ (List.Sublist.refl _)) (fun _ h => h)⟩, sl2 rfl rfl, by repeat (first | exact Agr.refl _ _ | exact agr_ovr | refine agr_upd rfl ?_ | refine agr_updL _ rfl ?_ | refine agr_ovr2 rfl ?_), by show rs.length - (k + 1) < rs.length - k; omega⟩
      ·
       refine l1 (mvB_r rfl) rfl rfl rfl ?_
       refine lwN rfl rfl rfl ?_
       refine lwN rfl rfl rfl ?_
       refine l1 (pkFB_r rfl rfl) rfl rfl rfl ?_
       refine lw_nil ?_
       refine cw_false rfl ?_
       refine cw_skip ?_
       refine cw_region ?_
       refine l1 (add_r rfl rfl (by omega) (by omega)) rfl rfl rfl ?_
       refine l1 (mvI_r rfl) rfl rfl rfl ?_
       refine lw_nil ?_
       refine ⟨(k + 1, n), ⟨by omega, by omega, by rw [← hm, up_step hb (show (rs.map Rep.a)[k]? = some y.a by rw [List.getElem?_map, hy]; rfl)]; simp [Rep.a, h80], H.forget (.cons _ (List.Sublist.refl _)) (fun _ h => h)⟩, sl2 rfl rfl, by repeat (first | exact Agr.refl _ _ | exact agr_ovr | refine agr_upd rfl ?_ | refine agr_updL _ rfl ?_ | refine agr_ovr2 rfl ?_), by show rs.length - (k + 1) < rs.length - k; omega⟩
     ·
      have hke : k = rs.length := by omega
      have hm2 : n = upA isr (rs.map Rep.a) 0 := by rw [← hm, List.drop_of_length_le (l := isr) (by omega)]; rfl
      refine lw_nil ?_
      refine cw_seq ?_
      refine cw_false rfl ?_
      refine cw_exit ?_
      refine cw_seq ?_
      refine cw_seq ?_
      refine cw_region ?_
      refine l1 (mvI_r rfl) rfl rfl rfl ?_
      refine l1 (fad_r fd_Part_5 rfl) rfl rfl rfl ?_
      refine l1 (ld_r one_int rfl (cellE (H.ent (i := 5) rfl) rfl)) rfl rfl rfl ?_
      refine lwD (lss_r rfl rfl) rfl rfl rfl (fun h91 => ?_) (fun h91 => ?_)
      ·
       refine lw_nil ?_
       refine cw_true rfl ?_
       refine cw_seq ?_
       refine cw_region ?_
       refine l1 (bld_r (cs := #[.int .i64 (0), .int .i64 (0), .slice none 0 0, .slice none 0 0, .slice none 0 0, .int .i64 (0), .int .i64 (0)]) st_Part z_Part (by kernel_rfl)) rfl rfl rfl ?_
       refine stN H 3 (#[.int .i64 (0), .int .i64 (0), .slice none 0 0, .slice none 0 0, .slice none 0 0, .int .i64 (0), .int .i64 (0)]) siz_Part rfl rfl rfl rfl rfl (by kernel_rfl) (by kernel_rfl) ?_; intro w18 H
       refine l1 (asI_r rfl) rfl rfl rfl ?_
       refine l1 (asI_r rfl) rfl rfl rfl ?_
       refine lw_nil ?_
       refine cw_ret ?_
       have hlr : (Pa.a ⟨ep, ld, isr, iA, iC, kn, kA, kC, reps, rA, rC, fw, bs⟩).reps[ld.toNat]? = some x.a := by rw [show ld.toNat = l by omega]; exact hxa
       have hS : putA (Pa.a ⟨ep, ld, isr, iA, iC, kn, kA, kC, reps, rA, rC, fw, bs⟩) e = (zPaA, 0, 9) := by unfold putA; rw [if_neg (show ¬ (Pa.a ⟨ep, ld, isr, iA, iC, kn, kA, kC, reps, rA, rC, fw, bs⟩).leader < 0 from by show ¬ ld < 0; omega), show (Pa.a ⟨ep, ld, isr, iA, iC, kn, kA, kC, reps, rA, rC, fw, bs⟩).leader.toNat = ld.toNat from rfl, hlr]; simp [Pa.a, Rep.a, h51, h61, h65, ← hma, ← hm2, h91]
       rw [hS]
       exact finCTT (cs0 := #[.int .i64 0, .int .i64 0, .slice none 0 0, .slice none 0 0, .slice none 0 0, .int .i64 0, .int .i64 0]) (v1 := .int .i64 (0)) (v2 := .int .i64 (9)) rfl agg_Part rfl (H.ent (i := 3) rfl) rfl rfl rfl ⟨zPa, rfl, rfl, NewPa.zero H.below⟩
      ·
       refine lw_nil ?_
       refine cw_false rfl ?_
       refine cw_skip ?_
       refine cw_seq ?_
      
       have hgd : Good { e with epoch := ep } := by simpa [Good] using h51
       have hrm : x.es.length < 400 := by obtain ⟨z, hz⟩ : ∃ z, reps[l]? = some z := ⟨_, List.getElem?_eq_getElem (by omega)⟩; have h1 := hroom l z hld hz; have h2 := hxa; rw [List.getElem?_map, hz] at h2; injection h2 with h2; have h3 : z.es = x.es := congrArg RA.es h2; rw [← h3]; exact h1
       have hlo := H.size
       refine cw_draw mixed [0, 1, 2, 3, 4, 5, 6, 7, 8, 9] [10, 11] [5, 9] [0, 1, 2, 6, 7, 8] (sp [(5, Sp.nrow w15.heap.size byteL (flat (x.es ++ [{ e with epoch := ep }])) (fun A c => .tuple #[.agg #[.slice A (flat (x.es ++ [{ e with epoch := ep }])).length c, .int .i64 (lsz (x.es ++ [{ e with epoch := ep }]) x.s : Nat)], .int .i64 0])), (9, Sp.blk w15.heap.size (.agg #[.slice none 0 0, .int .i64 0]) T_Log)]) (by kernel_rfl) (by kernel_rfl) (by kernel_rfl) (by kernel_rfl) (fun _ _ _ h => h) (sp_st _) ?_
       refine aw rfl rfl rfl rfl rfl (fun w' hw' => mvP_r rfl) ?_
       refine aw rfl rfl rfl rfl rfl (fun w' hw' => nck_r rfl) ?_
       refine aw rfl rfl rfl rfl rfl (fun w' hw' => fad_r fd_Replica_1 rfl) ?_
       refine aw rfl rfl rfl rfl rfl (fun w' hw' => ldRS_r 1 [.slice x.A ((flat x.es).length) x.cap, .int .i64 (((lsz x.es x.s : Nat) : Int))] agg_Log row3 hx rfl rfl ((H.later hw').ent (i := 2) rfl) rfl) ?_
       refine aw rfl rfl rfl rfl rfl (fun w' hw' => ldW_r agg_Entry rfl ((H.later hw').ent (i := 4) rfl) rfl) ?_
       refine awNRow (gv := (fun A c => .tuple #[.agg #[.slice A (flat (x.es ++ [{ e with epoch := ep }])).length c, .int .i64 (lsz (x.es ++ [{ e with epoch := ep }]) x.s : Nat)], .int .i64 0])) cb_seg_Append rfl rfl rfl rfl rfl (fun w' hw' => hw'.size) (fun w' hw' => segAppend_row (Rep.log x) { e with epoch := ep } w' ((hlg.cons (f := FRd entL w7.heap.size w8.heap.size Aen x.es)).log (H.later hw') hx (hok2 hx).1) hgd hrm) rfl ?_; intro A99 c99 hc99
       refine aw rfl rfl rfl rfl rfl (fun w' hw' => mvU_r rfl) ?_
       refine aw rfl rfl rfl rfl rfl (fun w' hw' => exA_r rfl rfl) ?_
       refine aw rfl rfl rfl rfl rfl (fun w' hw' => exI_r rfl rfl) ?_
       refine awAl z_Log rfl rfl rfl rfl rfl (fun w' hw' => hw'.size) ?_; intro b18
       refine aw_nil ?_
       intro w19 hw' hF
       obtain ⟨hF, bq, eq, hge18, hbl18⟩ := hF; cases eq
       obtain ⟨hF, Aq, cq, eq, hcq, hrw99⟩ := hF; cases eq; clear hcq
       have Hb := H
       replace H := H.adoptNew hw' hbl18 hge18
       obtain ⟨lo99, hi99, hlo99, H'⟩ := Hb.learnApart H hw'.size hrw99 (cellLog_apart hbl18); replace H := H'; clear H'
       clear hw' hF
       refine stN H 0 (#[.slice A99 ((flat (x.es ++ [{ e with epoch := ep }])).length) c99, .int .i64 (((lsz (x.es ++ [{ e with epoch := ep }]) x.s : Nat) : Int))]) siz_Log rfl rfl rfl rfl rfl (by kernel_rfl) (by kernel_rfl) ?_; intro w20 H
       refine l1 (asI_r rfl) rfl rfl rfl ?_
       refine lw_nil ?_
       refine cw_seq ?_
       refine cw_seq ?_
       refine cw_region ?_
       refine l1 (mvI_r rfl) rfl rfl rfl ?_
       refine l1 (neqF_r rfl rfl rfl) rfl rfl rfl ?_
       refine lw_nil ?_
       refine cw_false rfl ?_
       refine cw_skip ?_
       refine cw_seq ?_
       refine cw_region ?_
       refine l1 (mvP_r rfl) rfl rfl rfl ?_
       refine l1 (ldW_r agg_Log rfl (H.ent (i := 0) rfl) rfl) rfl rfl rfl ?_
       refine l1 (nck_r rfl) rfl rfl rfl ?_
       refine l1 (fad_r fd_Replica_1 rfl) rfl rfl rfl ?_
       refine stR H 3 ({ x with A := A99, cap := c99, es := (x.es ++ [{ e with epoch := ep }]), lo := lo99, hi := hi99 }) siz_Log row3 hx 1 rfl rfl rfl rfl rfl rfl (by kernel_rfl) ?_; intro w22 cur21 row21 H
       have hs23 : (rs.set l ({ x with A := A99, cap := c99, es := (x.es ++ [{ e with epoch := ep }]), lo := lo99, hi := hi99 }))[l]? = some ({ x with A := A99, cap := c99, es := (x.es ++ [{ e with epoch := ep }]), lo := lo99, hi := hi99 }) := List.getElem?_set_self (getE hx).1
       refine lw_nil ?_
       refine cw_seq ?_
       have hlg1 := ((hlg.cons (f := FRd entL w7.heap.size w8.heap.size Aen x.es)).cons (f := FRd byteL lo99 hi99 A99 (flat (x.es ++ [{ e with epoch := ep }])))).set l (x := { x with A := A99, cap := c99, es := (x.es ++ [{ e with epoch := ep }]), lo := lo99, hi := hi99 }) ⟨hc99, Nat.le_trans hlo hlo99, List.Mem.head _⟩
       refine cw_region ?_
       refine l1 (ldW_r agg_Part rfl (H.ent (i := 6) rfl) rfl) rfl rfl rfl ?_
       refine l1 (mvS_r rfl) rfl rfl rfl ?_
       refine l1 (lenS_r len_LEntry rfl) rfl rfl rfl ?_
       refine stN H 4 (#[.int .i64 (ep), .int .i64 (ld), .slice (some ⟨g1, 0, none⟩) isr.length c1, .slice (some ⟨g2, 0, none⟩) kn.length c2, .slice (some ⟨g3, 0, none⟩) rs.length c3, .int .i64 (fw), .int .i64 (bs)]) siz_Part rfl rfl rfl rfl rfl (by kernel_rfl) (by kernel_rfl) ?_; intro w24 H
       refine l1 (asI_r rfl) rfl rfl rfl ?_
       refine l1 (asI_r rfl) rfl rfl rfl ?_
       refine lw_nil ?_
       refine cw_ret ?_
       have hlr : (Pa.a ⟨ep, ld, isr, iA, iC, kn, kA, kC, reps, rA, rC, fw, bs⟩).reps[ld.toNat]? = some x.a := by rw [show ld.toNat = l by omega]; exact hxa
       have hS : putA (Pa.a ⟨ep, ld, isr, iA, iC, kn, kA, kC, reps, rA, rC, fw, bs⟩) e = ({ (Pa.a ⟨ep, ld, isr, iA, iC, kn, kA, kC, reps, rA, rC, fw, bs⟩) with reps := (reps.map Rep.a).set ld.toNat { x.a with es := (x.es ++ [{ e with epoch := ep }]) } }, ((x.es.length : Nat) : Int), 0) := by unfold putA; rw [if_neg (show ¬ (Pa.a ⟨ep, ld, isr, iA, iC, kn, kA, kC, reps, rA, rC, fw, bs⟩).leader < 0 from by show ¬ ld < 0; omega), show (Pa.a ⟨ep, ld, isr, iA, iC, kn, kA, kC, reps, rA, rC, fw, bs⟩).leader.toNat = ld.toNat from rfl, hlr]; simp [Pa.a, Rep.a, h51, h61, h65, ← hma, ← hm2, h91]
       rw [hS]
       exact finCTT (cs0 := #[.int .i64 (ep), .int .i64 (ld), .slice (some ⟨g1, 0, none⟩) isr.length c1, .slice (some ⟨g2, 0, none⟩) kn.length c2, .slice (some ⟨g3, 0, none⟩) rs.length c3, .int .i64 (fw), .int .i64 (bs)]) (v1 := .int .i64 (((x.es.length : Nat) : Int))) (v2 := .int .i64 (0)) rfl agg_Part rfl (H.ent (i := 4) rfl) rfl rfl rfl ⟨_, by simp [Pa.c], by simp [Pa.a, List.map_set, hma, Rep.a, show ld.toNat = l by omega], (NewPa.mk_ (p := ⟨ep, ld, isr, some ⟨g1, 0, none⟩, c1, kn, some ⟨g2, 0, none⟩, c2, rs.set l { x with A := A99, cap := c99, es := (x.es ++ [{ e with epoch := ep }]), lo := lo99, hi := hi99 }, some ⟨g3, 0, none⟩, c3, fw, bs⟩) rfl rfl rfl row1 row2 row21 hlg1 (by dsimp only; first | omega | (simp only [List.length_set, List.length_replicate]; omega)) H ⟨by simp, by simp, by simp⟩)⟩
end Go.Proofs.Ytemnchkebhclpaa
end
