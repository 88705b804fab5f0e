/- W11: a part of the proofs over this seat: what stands in its theorems holds for every input that they name. -/
import Derived.Test.YtemnchkebhclpaaW10
namespace Go.Proofs.Ytemnchkebhclpaa
open Go Go.Eng Go.RowKit
set_option maxRecDepth 10000 in
theorem eqEnt_ok (es fs : List Ent) (A B : Option Addr) (c d : Nat) (w : World) (hr : Rd entL 0 w.heap.size A es w) (hs : Rd entL 0 w.heap.size B fs w) (hb : es.length ≤ 1000000000000) :
    Ret Try.prog i_slices_Equal_LEntry_Entry [.slice A es.length c, .slice B fs.length d] w fun v w2 => v = .bool (decide (es = fs)) ∧ Below w.heap.size w w2 := by
  refine ret_of fn_slices_Equal_LEntry_Entry rfl rfl ?_
  have H := Hp.start w
  refine cw_seq ?_
  refine cw_region ?_ -- region 0
  refine asB rfl rfl ?_  -- 4 slices.go:20
  refine lw_nil ?_
  refine cw_seq ?_
  refine cw_seq ?_
  refine cw_region ?_ -- region 1
  refine mvS rfl rfl ?_  -- 6 slices.go:21
  refine lenS len_LEntry rfl rfl ?_  -- 7 slices.go:21
  refine mvS rfl rfl ?_  -- 8 slices.go:21
  refine lenS len_LEntry rfl rfl ?_  -- 9 slices.go:21
  by_cases hlen : es.length = fs.length
  · refine l1 (neqF_r rfl rfl (by omega)) rfl rfl rfl ?_
    refine lw_nil ?_
    refine cw_false rfl ?_
    refine cw_skip ?_
    refine cw_seq ?_
    refine cw_seq ?_
    refine cw_region ?_ -- region 3
    refine mvS rfl rfl ?_  -- 11 slices.go:24
    refine lenS len_LEntry rfl rfl ?_  -- 12 slices.go:24
    refine mvI rfl rfl ?_  -- 13 slices.go:24
    refine lw_nil ?_
    refine cw_block ?_ -- block 0
    refine cw_loop (τ := Nat) [4, 5, 13, 14, 15, 16, 17, 18, 19, 20, 21, 22, 23, 24, 25] (fun k => [(13, .int .i64 (k : Nat))]) (fun k w' => k ≤ es.length ∧ es.take k = fs.take k ∧ Hp w w' [] []) (fun k => es.length - k) 0 ⟨by omega, rfl, H⟩ (sl1 rfl) ?_ -- LOOP
    rintro k ρ1 w1 ⟨hk, heq, H⟩
    show CW _ _ _ _ (updL (ovr _ _ ρ1) [(13, .int .i64 (k : Nat))]) w1
    refine cw_seq ?_
    refine cw_region ?_ -- region 4
    refine lssS rfl rfl rfl (fun h14 => ?_) (fun h14 => ?_)  -- 14 slices.go:24
    all_goals refine lw_nil ?_
    all_goals refine cw_seq ?_
    · refine cw_true rfl ?_
      refine cw_skip ?_
      have hk1 : k < es.length := by omega
      have hk2 : k < fs.length := by omega
      obtain ⟨b1, o1, rfl, -, hbl1, hcl1⟩ := hr.at_ hk1
      obtain ⟨b2, o2, rfl, -, hbl2, hcl2⟩ := hs.at_ hk2
      have t1 : es.take (k + 1) = es.take k ++ [es[k]] := List.take_succ_eq_append_getElem hk1
      have t2 : fs.take (k + 1) = fs.take k ++ [fs[k]] := List.take_succ_eq_append_getElem hk2
      have hne : es[k] ≠ fs[k] → es ≠ fs := fun h e => by subst e; exact h rfl
      generalize es[k] = e at *
      generalize fs[k] = f at *
      refine cw_seq ?_
      refine cw_block ?_ -- block 1
      refine cw_seq ?_
      refine cw_region ?_ -- region 5
      refine mvI rfl rfl ?_  -- 15 slices.go:24
      refine asI rfl rfl ?_  -- 5 slices.go:24
      refine lw_nil ?_
      refine cw_seq ?_
      refine cw_draw mixed [0, 1, 2, 3, 4, 5, 6, 7, 8] [] [] [0, 1, 2, 4, 5, 6, 8] (sp []) (by kernel_rfl) (by kernel_rfl) (by kernel_rfl) (by kernel_rfl) (fun _ _ _ h => h) (sp_st _) ?_
      refine aw rfl rfl rfl rfl rfl (fun _ _ => mv_r rfl) ?_  -- 16 slices.go:25
      refine aw rfl rfl rfl rfl rfl (fun _ _ => mv_r rfl) ?_  -- 17 slices.go:25
      refine aw rfl rfl rfl rfl rfl (fun _ _ => ixa_r sl_LEntry rfl rfl (by omega) (by omega)) ?_  -- 18 slices.go:25
      refine aw rfl rfl rfl rfl rfl (fun w' hw' => ldA_r (xs := e.c) agg_Entry rfl rfl (fun j v hj => ((H.later hw').below.cell (p := ⟨b1, _, none⟩) hbl1).trans (hcl1 j v hj))) ?_  -- 19
      refine aw rfl rfl rfl rfl rfl (fun _ _ => mv_r rfl) ?_  -- 20 slices.go:25
      refine aw rfl rfl rfl rfl rfl (fun _ _ => mv_r rfl) ?_  -- 21 slices.go:25
      refine aw rfl rfl rfl rfl rfl (fun _ _ => ixa_r sl_LEntry rfl rfl (by omega) (by omega)) ?_  -- 22 slices.go:25
      refine aw rfl rfl rfl rfl rfl (fun w' hw' => ldA_r (xs := f.c) agg_Entry rfl rfl (fun j v hj => ((H.later hw').below.cell (p := ⟨b2, _, none⟩) hbl2).trans (hcl2 j v hj))) ?_  -- 23
      refine aw rfl rfl rfl rfl rfl (fun _ _ => aneq_r (r := decide (e = f)) ent_struct ent_stood ent_guard rfl rfl (ent_cmp e f) (ent_inj e f)) ?_
      refine aw_nil ?_
      intro w' hw' hF; replace H := H.later hw'; clear hw'
      refine lw_nil ?_
      by_cases hef : e = f
      · have hd : (!decide (e = f)) = false := by simp [hef]
        rw [hd]
        refine cw_false rfl ?_
        refine cw_skip ?_
        refine cw_region ?_ -- region 8
        refine add rfl rfl (by omega) (by omega) rfl ?_  -- 25 slices.go:24
        refine mvI rfl rfl ?_  -- 13 slices.go:24
        refine lw_nil ?_
        refine ⟨k + 1, ⟨by omega, by rw [t1, t2, heq, hef], H⟩, sl1 rfl, by repeat (first | exact agr_ovr | refine agr_upd rfl ?_ | refine agr_updL _ rfl ?_), by show es.length - (k + 1) < es.length - k; omega⟩
      · have hd : (!decide (e = f)) = true := by simp [hef]
        rw [hd]
        refine cw_true rfl ?_
        refine cw_seq ?_
        refine cw_region ?_ -- region 7
        refine asB rfl rfl ?_  -- 4 slices.go:26
        refine lw_nil ?_
        refine cw_ret ?_
        exact fin1 (v := .bool false) rfl rfl ⟨by rw [decide_eq_false (hne hef)], H.below⟩
    · refine cw_false rfl ?_
      refine cw_exit ?_ -- 0
      have hke : k = es.length := by omega
      subst hke
      rw [List.take_length, hlen, List.take_length] at heq
      refine cw_seq ?_
      refine cw_region ?_ -- region 9
      refine asB rfl rfl ?_  -- 4 slices.go:29
      refine lw_nil ?_
      refine cw_ret ?_
      exact fin1 (v := .bool true) rfl rfl ⟨by rw [decide_eq_true heq], H.below⟩
  · refine l1 (neqT_r rfl rfl (by omega)) rfl rfl rfl ?_
    refine lw_nil ?_
    refine cw_true rfl ?_
    refine cw_seq ?_
    refine cw_region ?_ -- region 2
    refine asB rfl rfl ?_  -- 4 slices.go:22
    refine lw_nil ?_
    refine cw_ret ?_
    exact fin1 (v := .bool false) rfl rfl ⟨by rw [decide_eq_false (fun h => hlen (by rw [h]))], H.below⟩
end Go.Proofs.Ytemnchkebhclpaa
