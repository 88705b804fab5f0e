/- W6: a part of the proofs over this seat: what stands in its theorems holds for every input that they name. -/
import Derived.Test.YtemnchkebhclpaaW5
import Derived.Test.YtemnchkebhclpaaEngE
namespace Go.Proofs.Ytemnchkebhclpaa
open Go Go.Eng Go.RowKit

/-- an entry out of a body -/
def bodyE (c : UInt8) (l : List UInt8) : Ent × Bool :=
  let q1 := rnB l false
  let q2 := rnB q1.2.1 q1.2.2
  let q3 := rnB q2.2.1 q2.2.2
  let q4 := rnB q3.2.1 q3.2.2
  (⟨(q1.1 : Nat), (q2.1 : Nat), (q3.1 : Nat), (q4.1 : Nat), (c.toNat &&& 15 : Nat), !decide (((c.toNat &&& 16 : Nat) : Int) = 0), ⟨q4.2.1.toArray⟩⟩, q4.2.2)
def bodyOk (c : UInt8) (l : List UInt8) : Bool := !(bodyE c l).2 && decide (c.toNat < 32) && decide (entCheck (bodyE c l).1 = 0)

set_option maxRecDepth 10000 in
theorem body_ok (c0 : UInt8) (l : List UInt8) (A : Option Addr) (c : Nat) (w : World) (hr : Rd byteL 0 w.heap.size A (c0 :: l) w) (hc : (c0 :: l).length ≤ c) :
    Ret Try.prog i_wire_body [.slice A (c0 :: l).length c] w fun v w2 => v = .tuple #[(bodyE c0 l).1.v, .bool (bodyOk c0 l)] ∧ Below w.heap.size w w2 := by
  obtain ⟨bb, o, rfl, -, hbl, hcl⟩ := hr.at_ (k := 0) (by simp)
  have hc0 : c0.toNat < 256 := UInt8.toNat_lt _
  refine ret_of fn_wire_body rfl rfl ?_
  have H := Hp.start w
  refine cw_seq ?_
  refine cw_region ?_ -- region 0
  refine alo H z_Entry rfl ?_; intro w1 b2 H  -- 2 wire.go:86
  refine asB rfl rfl ?_  -- 3 wire.go:86
  refine lw_nil ?_
  refine cw_seq ?_
  refine cw_region ?_ -- region 1
  refine mvS rfl rfl ?_  -- 6 wire.go:87
  refine sliLo sl_Lbyte rfl rfl (by omega) (by simp; omega) hc rfl ?_; intro A7 hA7  -- 7 wire.go:87
  have hr7 : Rd byteL 0 w.heap.size A7 l w := hr.from_ (k := 1) hA7 (fun h => h)
  have hc7 : l.length ≤ c - 1 := by simp only [List.length_cons] at hc; omega
  refine l1 (v := .agg #[.slice A7 l.length (c - 1), .bool false]) (bld_r st_reader z_reader rfl) rfl rfl rfl ?_
  refine bxA H rfl rfl ?_; intro w2 b9 H  -- 9 wire.go:87
  refine asP rfl rfl ?_  -- 4 wire.go:87
  refine lw_nil ?_
  refine cw_seq ?_
  have hcl2 := fun (w' : World) (hw' : Aft w2 w') => ((H.later hw').below.cell (p := ⟨bb, _, none⟩) hbl).trans (hcl 0 _ rfl)
  refine cw_draw mixed [0, 1, 2, 3, 4, 5, 6, 7, 8, 9, 10, 11] [12] [11] [0, 1, 3, 4, 5, 6, 8, 9, 10] (sp [(11, Sp.blk w2.heap.size (.agg #[.int .i64 0, .int .i64 0, .int .i64 0, .int .i64 0, .int .i64 0, .bool false, .string ⟨#[]⟩]) T_Entry)]) (by kernel_rfl) (by kernel_rfl) (by kernel_rfl) (by kernel_rfl) (fun _ _ _ h => h) (sp_st _) ?_
  refine aw rfl rfl rfl rfl rfl (fun _ _ => mv_r rfl) ?_  -- 10 wire.go:88
  refine aw rfl rfl rfl rfl rfl (fun _ _ => ixa_r sl_Lbyte rfl rfl (by omega) (by simp)) ?_  -- 11 wire.go:88
  refine aw rfl rfl rfl rfl rfl (fun w' hw' => ld_r one_byte rfl (hcl2 w' hw')) ?_  -- 12 wire.go:88
  refine aw rfl rfl rfl rfl rfl (fun _ _ => and8_r (a := c0.toNat) (b := 15) rfl rfl (by omega) (by omega)) ?_
  refine aw rfl rfl rfl rfl rfl (fun _ _ => cvI_r int_byte int_int rfl (wrapN (n := c0.toNat &&& 15) (Nat.le_of_lt (and_lt (by omega))))) ?_  -- 14 wire.go:88
  refine aw rfl rfl rfl rfl rfl (fun _ _ => mv_r rfl) ?_  -- 15 wire.go:88
  refine aw rfl rfl rfl rfl rfl (fun _ _ => ixa_r sl_Lbyte rfl rfl (by omega) (by simp)) ?_  -- 16 wire.go:88
  refine aw rfl rfl rfl rfl rfl (fun w' hw' => ld_r one_byte rfl (hcl2 w' hw')) ?_  -- 17 wire.go:88
  refine aw rfl rfl rfl rfl rfl (fun _ _ => and8_r (a := c0.toNat) (b := 16) rfl rfl (by omega) (by omega)) ?_
  refine aw rfl rfl rfl rfl rfl (fun _ _ => neq_r (k := .u8) (a := ((c0.toNat &&& 16 : Nat) : Int)) (b := 0) rfl rfl) ?_  -- slot 19
  refine aw (v := .agg (Ent.c ⟨0, 0, 0, 0, (c0.toNat &&& 15 : Nat), !decide (((c0.toNat &&& 16 : Nat) : Int) = 0), ⟨#[]⟩⟩).toArray) rfl rfl rfl rfl rfl (fun _ _ => bld_r st_Entry z_Entry rfl) ?_
  refine awAlo z_Entry rfl rfl rfl rfl (fun w' w2 b hC hb hh => ⟨b, rfl, Nat.le_trans hC.size hb, hh⟩) ?_
  rintro _ ⟨_, _, b5, rfl, _, _⟩
  refine aw_nil ?_
  rintro w3 hw3 ⟨-, b, he, hge, hb5⟩
  cases he
  replace H := (H.adoptNew hw3 hb5 hge).swap
  refine stW H 1 siz_Entry rfl rfl rfl rfl rfl rfl ?_; intro w4 H  -- None wire.go:88
  refine lw_nil ?_
  refine cw_seq ?_
  refine cw_region ?_ -- region 3
  refine mvP rfl rfl ?_  -- 21 wire.go:89
  refine cal cb_wire_reader_number (rnumber_ok (l := l) (bad := false) H hr7 hc7) rfl rfl ?_; rintro _ w5 ⟨rfl, A1, c1, H1, hr1, hc1⟩
  refine mvP rfl rfl ?_  -- 23 wire.go:89
  refine cal cb_wire_reader_number (rnumber_ok H1 hr1 hc1) rfl rfl ?_; rintro _ w6 ⟨rfl, A2, c2, H2, hr2, hc2⟩
  refine mvP rfl rfl ?_  -- 25 wire.go:89
  refine cal cb_wire_reader_number (rnumber_ok H2 hr2 hc2) rfl rfl ?_; rintro _ w7 ⟨rfl, A3, c3, H3, hr3, hc3⟩
  refine mvP rfl rfl ?_  -- 27 wire.go:89
  refine cal cb_wire_reader_number (rnumber_ok H3 hr3 hc3) rfl rfl ?_; rintro _ w8 ⟨rfl, A4, c4, H4, hr4, hc4⟩
  generalize hE : bodyE c0 l = E
  have hEE : E = _ := hE.symm
  unfold bodyE at hEE
  simp only at hEE
  generalize hq1 : rnB l false = q1 at *
  generalize hq2 : rnB q1.2.1 q1.2.2 = q2 at *
  generalize hq3 : rnB q2.2.1 q2.2.2 = q3 at *
  generalize hq4 : rnB q3.2.1 q3.2.2 = q4 at *
  obtain ⟨n1, l1, x1⟩ := q1
  obtain ⟨n2, l2, x2⟩ := q2
  obtain ⟨n3, l3, x3⟩ := q3
  obtain ⟨n4, l4, x4⟩ := q4
  dsimp only at *
  clear H H1 H2 H3 hr1 hr2 hr3 hc1 hc2 hc3 hq1 hq2 hq3 hq4
  refine fad fd_Entry_0 rfl rfl ?_  -- 29 wire.go:89
  refine stI H4 1 siz_int rfl rfl rfl (Nat.le_of_ble_eq_true rfl) ?_; intro w9 H  -- None wire.go:89
  refine fad fd_Entry_1 rfl rfl ?_  -- 30 wire.go:89
  refine stI H 1 siz_int rfl rfl rfl (Nat.le_of_ble_eq_true rfl) ?_; intro w10 H  -- None wire.go:89
  refine fad fd_Entry_2 rfl rfl ?_  -- 31 wire.go:89
  refine stI H 1 siz_int rfl rfl rfl (Nat.le_of_ble_eq_true rfl) ?_; intro w11 H  -- None wire.go:89
  refine fad fd_Entry_3 rfl rfl ?_  -- 32 wire.go:89
  refine stI H 1 siz_int rfl rfl rfl (Nat.le_of_ble_eq_true rfl) ?_; intro w12 H  -- None wire.go:89
  refine lw_nil ?_
  refine cw_seq ?_
  refine cw_region ?_ -- region 4
  refine mvP rfl rfl ?_  -- 33 wire.go:90
  refine nck rfl rfl ?_  -- 34 wire.go:90
  refine fad fd_reader_0 rfl rfl ?_  -- 35 wire.go:90
  refine ldE H 0 one_Lbyte rfl rfl rfl rfl ?_  -- 36 wire.go:90
  refine Go.Eng.l1 (cvBT_r sl_Lbyte int_byte str_string rfl rfl (fun _ => rfl) (hr4.below H.below)) rfl rfl rfl ?_
  refine fad fd_Entry_6 rfl rfl ?_  -- 38 wire.go:90
  refine stT H 1 siz_string rfl rfl rfl (Nat.le_of_ble_eq_true rfl) ?_; intro w13 H  -- None wire.go:90
  refine lw_nil ?_
  have H : Hp w w13 [(b9, .cells #[.slice A4 l4.length c4, .bool x4] T_reader), (b5, .cells E.1.c.toArray T_Entry), (b2, .cells (Ent.c ⟨0, 0, 0, 0, 0, false, ⟨#[]⟩⟩).toArray T_Entry)] [] := by rw [hEE]; exact H
  have hx4 : E.2 = x4 := by rw [hEE]
  have hcl3 := fun (w' : World) (hw' : Aft w13 w') => ((H.later hw').below.cell (p := ⟨bb, _, none⟩) hbl).trans (hcl 0 _ rfl)
  obtain ⟨E, x5⟩ := E
  dsimp only at *
  subst hx4
  clear hEE
  refine cw_seq ?_
  refine cw_draw mixed [0, 1, 2, 3, 4, 5, 6, 7, 8, 9, 10, 11, 12, 13, 14, 15, 16] [17, 18] [14] [1, 2, 3, 5, 6, 7, 8, 10, 11, 12, 15, 16] (sp [(14, Sp.one (.int .i64 (entCheck E)))]) (by kernel_rfl) (by kernel_rfl) (by kernel_rfl) (by kernel_rfl) (fun _ _ _ h => h) (sp_st _) ?_
  refine aw rfl rfl rfl rfl rfl (fun w' hw' => ldW_r agg_Entry rfl ((H.later hw').ent (i := 1) rfl) rfl) ?_
  refine aw rfl rfl rfl rfl rfl (fun _ _ => mv_r rfl) ?_  -- 40 wire.go:91
  refine aw rfl rfl rfl rfl rfl (fun _ _ => nck_r rfl) ?_  -- 41 wire.go:91
  refine aw rfl rfl rfl rfl rfl (fun _ _ => fad_r fd_reader_1 rfl) ?_  -- 42 wire.go:91
  refine aw rfl rfl rfl rfl rfl (fun w' hw' => ld_r one_bool rfl (cellE ((H.later hw').ent (i := 0) rfl) rfl)) ?_  -- 43 wire.go:91
  refine aw rfl rfl rfl rfl rfl (fun _ _ => not_r rfl) ?_  -- 44 wire.go:91
  refine aw rfl rfl rfl rfl rfl (fun _ _ => mv_r rfl) ?_  -- 45 wire.go:91
  have hob : bodyOk c0 l = (!x5 && decide (c0.toNat < 32) && decide (entCheck E = 0)) := by unfold bodyOk; rw [hE]
  rw [hob]
  cases x5
  · refine aw rfl rfl rfl rfl rfl (fun _ _ => mv_r rfl) ?_  -- 46 wire.go:91
    refine aw rfl rfl rfl rfl rfl (fun _ _ => ixa_r sl_Lbyte rfl rfl (by omega) (by simp)) ?_  -- 47 wire.go:91
    refine aw rfl rfl rfl rfl rfl (fun w' hw' => ld_r one_byte rfl (hcl3 w' hw')) ?_  -- 48 wire.go:91
    refine aw rfl rfl rfl rfl rfl (fun _ _ => lss_r (k := .u8) (a := (c0.toNat : Int)) (b := 32) rfl rfl) ?_  -- slot 49
    refine aw rfl rfl rfl rfl rfl (fun _ _ => pkT_r rfl rfl) ?_ -- or pkFB  -- 50 wire.go:91
    refine aw rfl rfl rfl rfl rfl (fun _ _ => mv_r rfl) ?_  -- 51 wire.go:91
    have h32 : decide ((c0.toNat : Int) < 32) = decide (c0.toNat < 32) := decide_eq_decide.2 (by omega)
    rw [h32]
    cases h : decide (c0.toNat < 32)
    · iterate 3 refine awN rfl rfl rfl rfl ?_
      refine aw rfl rfl rfl rfl rfl (fun _ _ => pkF_r rfl rfl) ?_ -- or pkFB  -- 55 wire.go:91
      refine aw_nil ?_
      intro w' hw' hF; replace H := H.later hw'; clear hw'
      refine stW H 2 siz_Entry rfl rfl rfl rfl rfl rfl ?_; intro w15 H  -- None wire.go:91
      refine asB rfl rfl ?_
      refine lw_nil ?_
      refine cw_ret ?_
      exact finCT rfl agg_Entry rfl (H.ent (i := 2) rfl) rfl rfl ⟨rfl, H.below⟩
    · refine aw rfl rfl rfl rfl rfl (fun w' hw' => ldW_r agg_Entry rfl ((H.later hw').ent (i := 1) rfl) rfl) ?_
      refine awCal cb_wire_Check rfl rfl rfl rfl (fun w' _ => (wcheck_ok E w').mono (fun v w2 ⟨h1, h2⟩ => ⟨h2, h1⟩)) rfl ?_
      rintro _ ⟨_, _, rfl⟩
      refine aw rfl rfl rfl rfl rfl (fun _ _ => eql_r rfl rfl) ?_  -- slot 54
      refine aw rfl rfl rfl rfl rfl (fun _ _ => pkT_r rfl rfl) ?_ -- or pkFB  -- 55 wire.go:91
      refine aw_nil ?_
      intro w' hw' hF; replace H := H.later hw'; clear hw'
      refine stW H 2 siz_Entry rfl rfl rfl rfl rfl rfl ?_; intro w15 H  -- None wire.go:91
      refine asB rfl rfl ?_
      refine lw_nil ?_
      refine cw_ret ?_
      exact finCT rfl agg_Entry rfl (H.ent (i := 2) rfl) rfl rfl ⟨rfl, H.below⟩
  · iterate 4 refine awN rfl rfl rfl rfl ?_
    refine aw rfl rfl rfl rfl rfl (fun _ _ => pkF_r rfl rfl) ?_ -- or pkFB  -- 50 wire.go:91
    refine aw rfl rfl rfl rfl rfl (fun _ _ => mv_r rfl) ?_  -- 51 wire.go:91
    iterate 3 refine awN rfl rfl rfl rfl ?_
    refine aw rfl rfl rfl rfl rfl (fun _ _ => pkF_r rfl rfl) ?_ -- or pkFB  -- 55 wire.go:91
    refine aw_nil ?_
    intro w' hw' hF; replace H := H.later hw'; clear hw'
    refine stW H 2 siz_Entry rfl rfl rfl rfl rfl rfl ?_; intro w15 H  -- None wire.go:91
    refine asB rfl rfl ?_
    refine lw_nil ?_
    refine cw_ret ?_
    exact finCT rfl agg_Entry rfl (H.ent (i := 2) rfl) rfl rfl ⟨rfl, H.below⟩
end Go.Proofs.Ytemnchkebhclpaa
