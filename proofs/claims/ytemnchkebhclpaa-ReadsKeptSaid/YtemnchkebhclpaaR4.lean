/- R4: a part of the proofs over this seat: what stands in its theorems holds for every input that they name. -/
import Derived.Test.YtemnchkebhclpaaR3
import Derived.Test.YtemnchkebhclpaaQ6
namespace Go.Proofs.Ytemnchkebhclpaa
open Go Go.Eng Go.RowKit
set_option linter.unusedSimpArgs false
theorem alike {K a b : List Ent} (ha : a <+: K) (hb : b <+: K) (m : Nat) (hm : m = min a.length b.length) : a.take m = b.take m := by
 obtain ⟨s, rfl⟩ := ha
 have h1 : a.take m = (a ++ s).take m := by rw [List.take_append_of_le_length (by omega)]
 obtain ⟨t, ht⟩ := hb
 rw [h1, ← ht, List.take_append_of_le_length (by omega)]
theorem played_two {l : List Raw} {n few m j : Nat} {hard : Bool} {p q : Pa} {s s' : Nat} {hs hs' : List (List Ent)} (hp : playA n few hard ((l.take j).take m) = (p.a, s, hs)) (hq : playA n few hard (l.take m) = (q.a, s', hs')) (hm : m ≤ 100) (h1 : 1 ≤ n) (h5 : n ≤ 5) (hf : 1 ≤ few) (hfn : few ≤ n) : ∃ K K', K <+: K' ∧ Gd Plain K s n few p.a ∧ Gd Plain K' s' n few q.a := by
 have e : l.take m = (l.take j).take m ++ ((l.take m).drop (min m j)) := by
  rw [List.take_take]
  have := List.take_append_drop (min m j) (l.take m)
  rw [List.take_take, Nat.min_eq_left (Nat.min_le_left _ _)] at this
  exact this.symm
 obtain ⟨K, K', hK, h2, h3⟩ := play_more (hard := hard) h1 h5 hf hfn ((l.take j).take m) ((l.take m).drop (min m j)) (by rw [← e, List.length_take]; omega)
 rw [← e, hq] at h3
 rw [hp] at h2
 exact ⟨K, K', hK, h2.gd, h3.gd⟩
set_option maxHeartbeats 4000000 in
set_option maxRecDepth 10000 in
theorem partAlike_ok (l : List Raw) (A : Option Addr) (c : Nat) (n_ : Int) (w : World) (hr : Rd rawL 0 w.heap.size A l w) (hok : ∀ r ∈ l, r.ok) (hl : l.length ≤ 9223372036854775807) (ha : i64 n_) :
  Ret Try.prog i_tailracekeep_PartAlike [.slice A l.length c, .int .i64 n_] w fun v w2 => v = .bool true ∧ Below w.heap.size w w2 := by
 refine ret_of fn_tailracekeep_PartAlike rfl rfl ?_
 have H := Hp.startRd hr
 refine cw_seq ?_
 refine cw_region ?_
 refine l1 (asB_r rfl) rfl rfl rfl ?_
 refine lw_nil ?_
 refine cw_seq ?_
 refine cw_seq ?_
 refine cw_region ?_
 refine cal cb_tailracekeep_partTells (partTells_ok _) rfl rfl ?_
 rintro _ w1 ⟨rfl, hb⟩; replace H := H.later hb; clear hb
 refine l1 (not_r rfl) rfl rfl rfl ?_
 refine lw_nil ?_
 refine cw_false rfl ?_
 refine cw_skip ?_
 refine cw_seq ?_
 refine cw_region ?_
 refine l1 (mvI_r rfl) rfl rfl rfl ?_
 refine cal cb_tailracekeep_picked (picked_ok n_ (4) _ ha.1 ha.2 (by omega) (by omega)) rfl rfl ?_
 rintro _ w2 ⟨rfl, hb⟩; replace H := H.later hb; clear hb
 have hpkk := pk_lt n_ (show 0 < 4 by omega)
 refine l1 (add_r rfl rfl (by omega) (by omega)) rfl rfl rfl ?_
 obtain ⟨k, hk, hk1, hk4⟩ : ∃ k : Nat, (1 : Int) + ((pk n_ (4) : Nat) : Int) = (k : Nat) ∧ 1 ≤ k ∧ k ≤ 4 := ⟨1 + pk n_ (4), by omega, by omega, by omega⟩
 rw [hk]
 refine l1 (asI_r rfl) rfl rfl rfl ?_
 refine lw_nil ?_
 refine cw_seq ?_
 refine cw_region ?_
 refine l1 (mvS_r rfl) rfl rfl rfl ?_
 refine l1 (mvI_r rfl) rfl rfl rfl ?_
 refine cal cb_tailracekeep_played (played_ok l A c k 1 60 true _ (H.rd0 0 rfl) hok hl hk1 (by omega) (by omega) hk1 (by omega)) rfl rfl ?_
 rintro _ w3 ⟨p, hs, Ahs, chs, rfl, hplp, hrdp, hrhp, ⟨hchp, hclp, hccp⟩, hrep, hbp⟩; have H0 := H; replace H := H.learn hbp (FPa w2.heap.size w3.heap.size p) hrdp (Nat.le_refl _) (Nat.le_refl _); replace H := H0.learnAlso H hrhp; replace H := H0.alsoF H (FHl w2.heap.size w3.heap.size hs) hrep (Nat.le_refl _) (Nat.le_refl _); clear hrdp hrhp hrep hbp H0
 refine l1 (mvU_r rfl) rfl rfl rfl ?_
 refine l1 (exA_r rfl rfl) rfl rfl rfl ?_
 refine l1 (exS_r rfl rfl) rfl rfl rfl ?_
 refine l1 (exB_r rfl rfl) rfl rfl rfl ?_
 refine alo H z_Part rfl ?_; intro w4 b6 H
 refine stN H 0 (#[.int .i64 (p.epoch), .int .i64 (p.leader), .slice p.iA p.isr.length p.iC, .slice p.kA p.known.length p.kC, .slice p.rA p.reps.length p.rC, .int .i64 (p.few), .int .i64 (p.base)]) siz_Part rfl rfl rfl rfl rfl (by kernel_rfl) (by kernel_rfl) ?_; intro w5 H
 refine l1 (asS_r rfl) rfl rfl rfl ?_
 refine l1 (asB_r rfl) rfl rfl rfl ?_
 refine lw_nil ?_
 refine cw_seq ?_
 refine cw_seq ?_
 obtain ⟨K, s, hgd, -, hhK⟩ := played_gd hplp (by omega) hk1 (by omega) (by omega) hk1
 refine cw_region ?_
 refine l1 (asI_r rfl) rfl rfl rfl ?_
 refine lw_nil ?_
 refine cw_block ?_
 refine cw_loop (τ := Nat) [4, 9, 10, 11, 12, 25, 26, 27, 28, 29, 30, 31, 32, 33, 34, 35, 36, 37, 38, 39, 40, 41, 42, 43, 44, 45, 46, 47, 48, 49, 50, 51, 52] (fun i => [(9, .int .i64 (i : Nat))]) (fun i w' => 1 ≤ i ∧ i ≤ hs.length + 1 ∧ Hp w w' [(b6, .cells #[.int .i64 (p.epoch), .int .i64 (p.leader), .slice p.iA p.isr.length p.iC, .slice p.kA p.known.length p.kC, .slice p.rA p.reps.length p.rC, .int .i64 (p.few), .int .i64 (p.base)] T_Part (0, 0))] [FHl w2.heap.size w3.heap.size hs, FRd hlL w2.heap.size w3.heap.size Ahs hs, FPa w2.heap.size w3.heap.size p, FRd rawL 0 w.heap.size A l]) (fun i => hs.length + 1 - i) 1 ⟨by omega, by omega, H⟩ (sl1 rfl) ?_
 rintro i ρ1 w6 ⟨hi1, hi2, H⟩
 show CW _ _ _ _ (updL (ovr _ _ ρ1) [(9, .int .i64 (i : Nat))]) w6
 refine cw_seq ?_
 refine cw_seq ?_
 refine cw_region ?_
 refine l1 (mvI_r rfl) rfl rfl rfl ?_
 refine l1 (mvS_r rfl) rfl rfl rfl ?_
 refine l1 (lenS_r len_LLEntry rfl) rfl rfl rfl ?_
 refine lwD (lss_r rfl rfl) rfl rfl rfl (fun h28 => ?_) (fun h28 => ?_)
 ·
  refine lw_nil ?_
  refine cw_true rfl ?_
  refine cw_skip ?_
  refine cw_seq ?_
  refine cw_block ?_
  refine cw_seq ?_
  refine cw_region ?_
  refine l1 (mvS_r rfl) rfl rfl rfl ?_
  refine l1 (mvI_r rfl) rfl rfl rfl ?_
  refine l1 (sub_r rfl rfl (by omega) (by omega)) rfl rfl rfl ?_
  obtain ⟨j, hj1⟩ : ∃ j : Nat, ((i : Nat) : Int) - 1 = (j : Nat) := ⟨i - 1, by omega⟩
  rw [hj1]
  refine ixF H 1 rfl sl_LLEntry rfl rfl (by omega) (by omega) rfl ?_; intro b7 o7 x7 e7
  have hma := List.mem_of_getElem? e7.at_
  have hpa := hhK _ (List.mem_map_of_mem (f := Hl.es) hma)
  refine l1 (ld_r one_LEntry rfl (e7.cl 0 _ rfl)) rfl rfl rfl ?_
  refine l1 (asS_r rfl) rfl rfl rfl ?_
  refine lw_nil ?_
  refine cw_seq ?_
  refine cw_region ?_
  refine l1 (mvS_r rfl) rfl rfl rfl ?_
  refine l1 (mvI_r rfl) rfl rfl rfl ?_
  refine ixF H 1 rfl sl_LLEntry rfl rfl (by omega) (by omega) rfl ?_; intro b8 o8 x8 e8
  have hmb := List.mem_of_getElem? e8.at_
  have hpb := hhK _ (List.mem_map_of_mem (f := Hl.es) hmb)
  refine l1 (ld_r one_LEntry rfl (e8.cl 0 _ rfl)) rfl rfl rfl ?_
  refine l1 (asS_r rfl) rfl rfl rfl ?_
  refine lw_nil ?_
  refine cw_seq ?_
  refine cw_region ?_
  refine l1 (mvS_r rfl) rfl rfl rfl ?_
  refine l1 (lenS_r len_LEntry rfl) rfl rfl rfl ?_
  refine l1 (mvS_r rfl) rfl rfl rfl ?_
  refine l1 (lenS_r len_LEntry rfl) rfl rfl rfl ?_
  refine l1 (minI_r rfl rfl) rfl rfl rfl ?_
  refine l1 (asI_r rfl) rfl rfl rfl ?_
  refine lw_nil ?_
  refine cw_seq ?_
  have hal := alike hpa hpb _ rfl
  obtain ⟨ts, hta⟩ : ∃ ts, x7.es.take (min x7.es.length x8.es.length) = ts := ⟨_, rfl⟩
  have htb := hal.symm.trans hta
  have htl : ts.length = min x7.es.length x8.es.length := by rw [← hta, List.length_take]; omega
  have hmt : min ((x7.es.length : Nat) : Int) ((x8.es.length : Nat) : Int) = ((ts.length : Nat) : Int) := by omega
  rw [← htl] at hta htb
  have hca := hccp _ hma
  have hcb := hccp _ hmb
 
  refine cw_draw mixed [0, 1, 2, 3, 4, 5, 6, 7] [] [6] [0, 1, 2, 3, 4, 5, 7] (sp [(6, Sp.one (.bool true))]) (by kernel_rfl) (by kernel_rfl) (by kernel_rfl) (by kernel_rfl) (fun _ _ _ h => h) (sp_st _) ?_
  refine aw rfl rfl rfl rfl rfl (fun w' hw' => mvS_r rfl) ?_
  refine aw rfl rfl rfl rfl rfl (fun w' hw' => mvI_r rfl) ?_
  refine aw rfl rfl rfl rfl rfl (fun w' hw' => sliHi_r (i := ((ts.length : Nat) : Int)) sl_LEntry rfl (congrArg (Value.int .i64) hmt) (by omega) (by omega)) ?_
  refine aw rfl rfl rfl rfl rfl (fun w' hw' => mvS_r rfl) ?_
  refine aw rfl rfl rfl rfl rfl (fun w' hw' => mvI_r rfl) ?_
  refine aw rfl rfl rfl rfl rfl (fun w' hw' => sliHi_r (i := ((ts.length : Nat) : Int)) sl_LEntry rfl (congrArg (Value.int .i64) hmt) (by omega) (by omega)) ?_
  refine awCalV cb_slices_Equal_LEntry_Entry rfl rfl rfl rfl rfl (fun w' hw' => by have hA := eqEnt_ok ts ts _ _ x7.cap x8.cap w' (hta ▸ Rd.cut0 (cap := x7.cap) (sz := 7) (Hp.hl (H.later hw') 0 rfl hma) ts.length) (htb ▸ Rd.cut0 (cap := x8.cap) (sz := 7) (Hp.hl (H.later hw') 0 rfl hmb) ts.length) (by omega); rw [decide_eq_true rfl] at hA; exact hA) rfl ?_
  refine aw rfl rfl rfl rfl rfl (fun w' hw' => not_r rfl) ?_
  refine aw_nil ?_
  intro w9 hw' hF
  replace H := H.later hw'; clear hw' hF
  refine lw_nil ?_
  refine cw_false rfl ?_
  refine cw_skip ?_
  refine cw_region ?_
  refine l1 (mvI_r rfl) rfl rfl rfl ?_
  refine l1 (add_r rfl rfl (by omega) (by omega)) rfl rfl rfl ?_
  refine l1 (asI_r rfl) rfl rfl rfl ?_
  refine lw_nil ?_
  refine ⟨i + 1, ⟨by omega, by omega, H⟩, sl1 rfl, by repeat (first | exact Agr.refl _ _ | exact agr_ovr | refine agr_upd rfl ?_ | refine agr_updL _ rfl ?_ | refine agr_ovr2 rfl ?_), by show hs.length + 1 - (i + 1) < hs.length + 1 - i; omega⟩
 ·
  refine lw_nil ?_
  refine cw_false rfl ?_
  refine cw_exit ?_
  refine cw_seq ?_
  refine cw_region ?_
  refine l1 (mvB_r rfl) rfl rfl rfl ?_
  refine l1 (asB_r rfl) rfl rfl rfl ?_
  refine lw_nil ?_
  refine cw_ret ?_
  exact fin1 rfl rfl ⟨rfl, H.below⟩
end Go.Proofs.Ytemnchkebhclpaa
