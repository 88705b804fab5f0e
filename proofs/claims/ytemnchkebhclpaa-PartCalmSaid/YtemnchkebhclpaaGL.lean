/- GL: a part of the proofs over this seat: what stands in its theorems holds for every input that they name. -/
import Derived.Test.YtemnchkebhclpaaGQ
section
namespace Go.Proofs.Ytemnchkebhclpaa
open Go Go.Eng Go.RowKit
set_option linter.unusedSimpArgs false
/-- a row of entries, and where it lies -/
structure Hl where
 A : Option Addr
 cap : Nat
 es : List Ent
 lo : Nat
 hi : Nat
def hlL : Lay Hl := ⟨fun h => [.slice h.A h.es.length h.cap], 1, fun _ => rfl, by decide, fun a u hu => by
 simp only [List.mem_singleton] at hu; subst hu; rfl⟩
abbrev hlF (h : Hl) : Fact := FRd entL h.lo h.hi h.A h.es
def paD : Deep Pa := ⟨fun p => p.rd, fun _ _ _ _ _ hk h => h.st hk, fun _ _ _ _ _ _ h h1 h2 => h.mono h1 h2⟩
theorem Hp.paReps {w0 w : World} {L : List (Nat × Obj)} {F : List Fact} {lo hi : Nat} {p : Pa} (H : Hp w0 w L F) (i : Nat) (hF : F[i]? = some (FPa lo hi p)) : Hp w0 w L (FRd repL lo hi p.rA p.reps :: F) := by
 refine ⟨H.below, H.ents, H.nodup, fun f hf => ?_⟩
 rcases List.mem_cons.1 hf with rfl | hf
 ·
  obtain ⟨h1, h2, h3⟩ := H.facts _ (List.mem_of_getElem? hF)
  exact ⟨Pa.rd.reps (p := p) h1, h2, h3⟩
 ·
  exact H.facts f hf
theorem reps_len {p : Pa} {q : PaA} (h : p.a = q) : p.reps.length = q.reps.length := by rw [← h]; simp [Pa.a]
set_option maxHeartbeats 4000000 in
set_option maxRecDepth 10000 in
theorem partTells_ok (w : World) : Ret Try.prog i_tailracekeep_partTells [] w fun v w2 => v = .bool true ∧ Below w.heap.size w w2 := by
 refine ret_of fn_tailracekeep_partTells rfl rfl ?_
 have H := Hp.start w
 refine cw_seq ?_
 refine cw_region ?_
 refine l1 (asB_r rfl) rfl rfl rfl ?_
 refine lw_nil ?_
 refine cw_seq ?_
 refine cw_region ?_
 refine cal cb_part_New (pNew_ok 1 1 _ (by omega) (by omega) (by omega) (by omega)) rfl rfl ?_
 rintro _ w1 ⟨p, rfl, hap, hnp⟩; replace H := H.learn hnp.2 (FPa w.heap.size w1.heap.size p) hnp.1 (Nat.le_refl _) (Nat.le_refl _); clear hnp
 have hpl : p.reps.length = 1 := by rw [reps_len hap]; rfl
 refine l1 (mvU_r rfl) rfl rfl rfl ?_
 refine l1 (exA_r rfl rfl) rfl rfl rfl ?_
 refine l1 (exI_r rfl rfl) rfl rfl rfl ?_
 refine alo H z_Part rfl ?_; intro w2 b1 H
 refine stN H 0 (#[.int .i64 (p.epoch), .int .i64 (p.leader), .slice p.iA p.isr.length p.iC, .slice p.kA p.known.length p.kC, .slice p.rA p.reps.length p.rC, .int .i64 (p.few), .int .i64 (p.base)]) siz_Part rfl rfl rfl rfl rfl (by kernel_rfl) (by kernel_rfl) ?_; intro w3 H
 refine l1 (asI_r rfl) rfl rfl rfl ?_
 refine lw_nil ?_
 refine cw_seq ?_
 refine cw_region ?_
 refine l1 (mvI_r rfl) rfl rfl rfl ?_
 refine l1 (eqlT_r rfl rfl rfl) rfl rfl rfl ?_
 refine l1 (mvB_r rfl) rfl rfl rfl ?_
 refine lwG rfl ?_
 refine l1 (fad_r fd_Part_4 rfl) rfl rfl rfl ?_
 refine lwG rfl ?_
 refine l1 (ld_r one_LReplica rfl (cellE (H.ent (i := 0) rfl) rfl)) rfl rfl rfl ?_
 refine lwG rfl ?_
 refine l1 (lenS_r len_LReplica rfl) rfl rfl rfl ?_
 refine lwG rfl ?_
 refine l1 (eqlT_r rfl rfl (by omega)) rfl rfl rfl ?_
 refine l1 (pkTB_r rfl rfl) rfl rfl rfl ?_
 refine l1 (asB_r rfl) rfl rfl rfl ?_
 refine lw_nil ?_
 refine cw_ret ?_
 exact fin1 (v := .bool true) rfl rfl ⟨rfl, H.below⟩
end Go.Proofs.Ytemnchkebhclpaa
end

section
namespace Go.Proofs.Ytemnchkebhclpaa
open Go Go.Eng Go.RowKit
set_option linter.unusedSimpArgs false
theorem Gd.room {Φ : Ent → Prop} {K : List Ent} {m n : Nat} {few : Int} {p : Pa} (h : Gd Φ K m n few p.a) (hm : m < 400) : ∀ (l : Nat) (x : Rep), p.leader = l → p.reps[l]? = some x → x.es.length < 400 := fun l x _ hx => by
 have := h.small l x.a (by simp [Pa.a, hx])
 simp only [Rep.a] at this
 omega
set_option maxHeartbeats 4000000 in
set_option maxRecDepth 10000 in
theorem played_ok (l : List Raw) (A : Option Addr) (c n few most : Nat) (hard : Bool) (w : World) (hr : Rd rawL 0 w.heap.size A l w) (hok : ∀ r ∈ l, r.ok) (hl : l.length ≤ 9223372036854775807) (h1 : 1 ≤ n) (h5 : n ≤ 5) (hf : 1 ≤ few) (hfn : few ≤ n) (hm : most ≤ 100) :
  Ret Try.prog i_tailracekeep_played [.slice A l.length c, .int .i64 (n : Nat), .int .i64 (few : Nat), .int .i64 (most : Nat), .bool hard] w fun v w2 => ∃ (p : Pa) (hs : List Hl) (A' : Option Addr) (c' : Nat), v = .tuple #[p.v, .slice A' hs.length c', .bool true] ∧ playA n few hard (l.take most) = (p.a, (playA n few hard (l.take most)).2.1, hs.map Hl.es) ∧ p.rd w.heap.size w2.heap.size w2 ∧ Rd hlL w.heap.size w2.heap.size A' hs w2 ∧ (hs.length ≤ c' ∧ hs.length ≤ 600 ∧ ∀ h ∈ hs, h.es.length ≤ h.cap ∧ h.es.length ≤ 400) ∧ (∀ h ∈ hs, Rd entL w.heap.size w2.heap.size h.A h.es w2) ∧ Below w.heap.size w w2 := by
 refine ret_of fn_tailracekeep_played rfl rfl ?_
 have H := Hp.startRd hr
 refine cw_seq ?_
 refine cw_region ?_
 refine alo H z_Part rfl ?_; intro w1 b10 H
 refine l1 (asS_r rfl) rfl rfl rfl ?_
 refine l1 (asB_r rfl) rfl rfl rfl ?_
 refine lw_nil ?_
 refine cw_seq ?_
 refine cw_region ?_
 refine l1 (mvI_r rfl) rfl rfl rfl ?_
 refine l1 (mvI_r rfl) rfl rfl rfl ?_
 refine cal cb_part_New (pNew_ok n few _ h1 h5 hf hfn) rfl rfl ?_
 rintro _ w2 ⟨p0, rfl, hap0, hnp0⟩; replace H := H.learn hnp0.2 (FPa w1.heap.size w2.heap.size p0) hnp0.1 (Nat.le_refl _) (Nat.le_refl _); clear hnp0
 refine l1 (mvU_r rfl) rfl rfl rfl ?_
 refine l1 (exA_r rfl rfl) rfl rfl rfl ?_
 refine l1 (exI_r rfl rfl) rfl rfl rfl ?_
 refine alo H z_Part rfl ?_; intro w3 b13 H
 refine stN H 0 (#[.int .i64 (p0.epoch), .int .i64 (p0.leader), .slice p0.iA p0.isr.length p0.iC, .slice p0.kA p0.known.length p0.kC, .slice p0.rA p0.reps.length p0.rC, .int .i64 (p0.few), .int .i64 (p0.base)]) siz_Part rfl rfl rfl rfl rfl (by kernel_rfl) (by kernel_rfl) ?_; intro w4 H
 refine l1 (asI_r rfl) rfl rfl rfl ?_
 refine lw_nil ?_
 refine cw_seq ?_
 refine cw_region ?_
 refine l1 (ldW_r agg_Part rfl (H.ent (i := 0) rfl) rfl) rfl rfl rfl ?_
 refine cal cb_part_Elect (pElect_ok p0 0 _ (Hp.pa H 0 rfl) (by rw [hap0]; exact (new_gd (Φ := Plain) h1 h5 hf hfn).ok) (by rw [reps_len hap0]; simp [newA]; omega)) rfl rfl ?_
 have hlo0 := H.size
 rintro _ w5 ⟨q0, rfl, haq0, hnq0⟩; replace H := H.learn hnq0.2 (FPa w4.heap.size w5.heap.size q0) hnq0.1 (Nat.le_refl _) (Nat.le_refl _); clear hnq0
 rw [hap0, elect0 h1]
 rw [hap0] at haq0
 refine l1 (mvU_r rfl) rfl rfl rfl ?_
 refine l1 (exA_r rfl rfl) rfl rfl rfl ?_
 refine l1 (exI_r rfl rfl) rfl rfl rfl ?_
 refine stN H 0 (#[.int .i64 (q0.epoch), .int .i64 (q0.leader), .slice q0.iA q0.isr.length q0.iC, .slice q0.kA q0.known.length q0.kC, .slice q0.rA q0.reps.length q0.rC, .int .i64 (q0.few), .int .i64 (q0.base)]) siz_Part rfl rfl rfl rfl rfl (by kernel_rfl) (by kernel_rfl) ?_; intro w6 H
 refine l1 (asI_r rfl) rfl rfl rfl ?_
 refine lw_nil ?_
 refine cw_seq ?_
 refine cw_region ?_
 refine l1 (asS_r rfl) rfl rfl rfl ?_
 refine lw_nil ?_
 refine cw_seq ?_
 refine cw_region ?_
 refine l1 (asI_r rfl) rfl rfl rfl ?_
 refine lw_nil ?_
 refine cw_seq ?_
 refine cw_seq ?_
 refine cw_region ?_
 refine l1 (asI_r rfl) rfl rfl rfl ?_
 refine lw_nil ?_
 refine cw_block ?_
 refine cw_loop (τ := Nat × Pa × Nat × List Hl × Option Addr × Nat × Nat × Nat) [16, 17, 18, 19, 20, 21, 22, 24, 25, 26, 27, 39, 40, 41, 42, 43, 44, 45, 46, 47, 48, 49, 50, 51, 52, 53, 54, 55, 56, 57, 58, 59, 60, 61, 62, 63, 64, 65, 66, 67, 68, 69, 70, 71, 72, 73, 74, 75, 76, 77, 78, 79, 80, 81, 82, 83, 84, 85, 86, 87, 88, 89, 90, 91, 92, 93, 94, 95, 96, 97, 98, 99, 100, 101, 102, 103, 104, 105, 106, 107, 108, 109, 110, 111, 112, 113, 114, 115, 116, 117, 118, 119, 120, 121, 122, 123, 124, 125, 126, 127, 128, 129, 130, 131, 132, 133, 134, 135, 136, 137, 138, 139, 140, 141, 142, 143, 144, 145, 146, 147, 148, 149, 150, 151, 152, 153, 154, 155, 156, 157, 158, 159, 160, 161, 162, 163, 164, 165, 166, 167, 168, 169, 170, 171, 172, 173, 174, 175, 176, 177, 178, 179, 180, 181, 182, 183, 184, 185, 186, 187, 188, 189, 190, 191, 192, 193, 194, 195, 196, 197, 198, 199, 200, 201, 202, 203, 204] (fun (i, p, seq, hs, A1, c1, _, _) => [(18, .int .i64 (i : Nat)), (17, .int .i64 (seq : Nat)), (16, .slice A1 hs.length c1)]) (fun (i, p, seq, hs, A1, c1, lo, hi) w' => i ≤ l.length ∧ i ≤ most ∧ playA n few hard (l.take i) = (p.a, seq, hs.map Hl.es) ∧ hs.length ≤ 6 * i ∧ (∀ h ∈ hs, w.heap.size ≤ h.lo ∧ h.es.length ≤ h.cap ∧ h.es.length ≤ 400) ∧ w.heap.size ≤ lo ∧ ∃ L1, Own hlL (.slice A1 hs.length c1) T_LEntry hs L1 ∧ Hp w w' ([(b13, .cells #[.int .i64 (p.epoch), .int .i64 (p.leader), .slice p.iA p.isr.length p.iC, .slice p.kA p.known.length p.kC, .slice p.rA p.reps.length p.rC, .int .i64 (p.few), .int .i64 (p.base)] T_Part (0, 0)), (b10, .cells #[.int .i64 0, .int .i64 0, .slice none 0 0, .slice none 0 0, .slice none 0 0, .int .i64 0, .int .i64 0] T_Part (0, 0))] ++ L1 ++ []) (FPa lo hi p :: FRd rawL 0 w.heap.size A l :: hs.map hlF)) (fun (i, _) => l.length - i) (0, q0, 0, [], none, 0, w4.heap.size, w5.heap.size) ⟨by omega, by omega, by rw [List.take_zero]; show play0 n few = _; unfold play0; rw [haq0]; rfl, by simp, by simp, hlo0, [], Own.nil, H.forget (List.Sublist.refl _) (fun f hf => by simp only [List.map_nil, List.mem_cons, List.mem_nil_iff, or_false] at hf ⊢; grind)⟩ (sl3 rfl rfl rfl) ?_
 rintro ⟨i, p, seq, hs, A1, c1, lo, hi⟩ ρ1 w7 ⟨hil, him, hpl, hhl, hhlo, hlo, L1, ho, H⟩
 show CW _ _ _ _ (updL (ovr _ _ ρ1) [(18, .int .i64 (i : Nat)), (17, .int .i64 (seq : Nat)), (16, .slice A1 hs.length c1)]) w7
 obtain ⟨K, hPl, hsq⟩ := play_ok (hard := hard) h1 h5 hf hfn (l.take i) (by rw [List.length_take]; omega)
 rw [hpl] at hPl hsq
 have hgd := hPl.gd
 dsimp only at hgd hsq
 rw [List.length_take] at hsq
 have hpok := hgd.ok
 have hpn : p.reps.length = n := by have := hgd.len; simpa [Pa.a] using this
 refine cw_seq ?_
 refine cw_seq ?_
 refine cw_region ?_
 refine l1 (mvI_r rfl) rfl rfl rfl ?_
 refine l1 (mvS_r rfl) rfl rfl rfl ?_
 refine l1 (lenS_r len_LRaw rfl) rfl rfl rfl ?_
 refine lwD (lss_r rfl rfl) rfl rfl rfl (fun h42 => ?_) (fun h42 => ?_)
 ·
  refine l1 (mvB_r rfl) rfl rfl rfl ?_
  refine lwG rfl ?_
  refine l1 (mvI_r rfl) rfl rfl rfl ?_
  refine lwG rfl ?_
  refine l1 (mvI_r rfl) rfl rfl rfl ?_
  refine lwG rfl ?_
  refine lwD (lss_r rfl rfl) rfl rfl rfl (fun h46 => ?_) (fun h46 => ?_)
  ·
   refine l1 (pkTB_r rfl rfl) rfl rfl rfl ?_
   refine l1 (mvB_r rfl) rfl rfl rfl ?_
   refine lwG rfl ?_
   refine l1 (mvI_r rfl) rfl rfl rfl ?_
   refine lwG rfl ?_
   refine l1 (eqlT_r rfl rfl rfl) rfl rfl rfl ?_
   refine l1 (pkTB_r rfl rfl) rfl rfl rfl ?_
   refine l1 (mvB_r rfl) rfl rfl rfl ?_
   refine lwG rfl ?_
   refine l1 (mvI_r rfl) rfl rfl rfl ?_
   refine lwG rfl ?_
   refine l1 (eqlT_r rfl rfl rfl) rfl rfl rfl ?_
   refine l1 (pkTB_r rfl rfl) rfl rfl rfl ?_
   refine lw_nil ?_
   refine cw_true rfl ?_
   refine cw_skip ?_
   refine cw_seq ?_
   refine cw_block ?_
   refine cw_seq ?_
   obtain ⟨x, hx⟩ : ∃ x, l[i]? = some x := ⟨_, List.getElem?_eq_getElem (by omega)⟩
   have hxo := hok x (List.mem_of_getElem? hx)
   have hpi : pk x.a n < p.reps.length := by rw [hpn]; exact pk_lt _ (by omega)
   refine cw_region ?_
   refine l1 (mvS_r rfl) rfl rfl rfl ?_
   refine l1 (mvI_r rfl) rfl rfl rfl ?_
   refine ixF H 1 rfl sl_LRaw rfl rfl (by omega) (by omega) rfl ?_; intro b8 o8 x8 e8
   obtain rfl : x = x8 := by have := e8.at_; rw [hx] at this; exact Option.some.inj this
   refine l1 (fad_r fd_Raw_1 rfl) rfl rfl rfl ?_
   refine l1 (ld_r one_int rfl (e8.cl 1 _ rfl)) rfl rfl rfl ?_
   refine l1 (mvI_r rfl) rfl rfl rfl ?_
   refine cal cb_tailracekeep_picked (picked_ok x.a n _ hxo.2.1.1 hxo.2.1.2 (by omega) (by omega)) rfl rfl ?_
   rintro _ w9 ⟨rfl, hb⟩; replace H := H.later hb; clear hb
   refine l1 (asI_r rfl) rfl rfl rfl ?_
   refine lw_nil ?_
   refine cw_seq ?_
   refine cw_region ?_
   refine l1 (ldW_r agg_Part rfl (H.ent (i := 0) rfl) rfl) rfl rfl rfl ?_
   refine alo H z_Part rfl ?_; intro w10 b20 H
   refine stN H 0 (#[.int .i64 (p.epoch), .int .i64 (p.leader), .slice p.iA p.isr.length p.iC, .slice p.kA p.known.length p.kC, .slice p.rA p.reps.length p.rC, .int .i64 (p.few), .int .i64 (p.base)]) siz_Part rfl rfl rfl rfl rfl (by kernel_rfl) (by kernel_rfl) ?_; intro w11 H
   refine lw_nil ?_
   refine cw_seq ?_
   refine cw_region ?_
   refine l1 (asI_r rfl) rfl rfl rfl ?_
   refine lw_nil ?_
   refine cw_seq ?_
   refine cw_seq ?_
   refine cw_region ?_
   refine l1 (mvS_r rfl) rfl rfl rfl ?_
   refine l1 (mvI_r rfl) rfl rfl rfl ?_
   refine ixF H 1 rfl sl_LRaw rfl rfl (by omega) (by omega) rfl ?_; intro b12 o12 x12 e12
   obtain rfl : x = x12 := by have := e12.at_; rw [hx] at this; exact Option.some.inj this
   refine l1 (fad_r fd_Raw_0 rfl) rfl rfl rfl ?_
   refine l1 (ld_r one_int rfl (e12.cl 0 _ rfl)) rfl rfl rfl ?_
   refine cal cb_tailracekeep_picked (picked_ok x.kind 16 _ hxo.1.1 hxo.1.2 (by omega) (by omega)) rfl rfl ?_
   rintro _ w13 ⟨rfl, hb⟩; replace H := H.later hb; clear hb
   refine l1 (asI_r rfl) rfl rfl rfl ?_
   refine lw_nil ?_
   refine cw_cut (τ := Pa × Nat × Nat) [17, 21, 72, 73, 74, 75, 76, 77, 78, 79, 80, 81, 82, 83, 84, 85, 86, 87, 88, 89, 90, 91, 92, 93, 94, 95, 96, 97, 98, 99, 100, 101, 102, 103, 104, 105, 106, 107, 108, 109, 110, 111, 112, 113, 114, 115, 116, 117, 118, 119, 120, 121, 122, 123, 124, 125, 126, 127, 128, 129, 130, 131, 132, 133, 134, 135, 136, 137, 138, 139, 140, 141, 142, 143, 144, 145, 146, 147, 148, 149, 150, 151, 152, 153, 154, 155, 156, 157, 158, 159, 160, 161, 162, 163, 164, 165, 166, 167, 168, 169] (fun (q, _, _) => [(21, .int .i64 ((stepA n hard p.a seq x).2)), (17, .int .i64 ((seqA seq x : Nat) : Int))]) (fun (q, lo2, hi2) w' => q.a = (stepA n hard p.a seq x).1 ∧ w.heap.size ≤ lo2 ∧ Hp w w' ([(b20, .cells #[.int .i64 (q.epoch), .int .i64 (q.leader), .slice q.iA q.isr.length q.iC, .slice q.kA q.known.length q.kC, .slice q.rA q.reps.length q.rC, .int .i64 (q.few), .int .i64 (q.base)] T_Part (0, 0)), (b13, .cells #[.int .i64 (p.epoch), .int .i64 (p.leader), .slice p.iA p.isr.length p.iC, .slice p.kA p.known.length p.kC, .slice p.rA p.reps.length p.rC, .int .i64 (p.few), .int .i64 (p.base)] T_Part (0, 0)), (b10, .cells #[.int .i64 0, .int .i64 0, .slice none 0 0, .slice none 0 0, .slice none 0 0, .int .i64 0, .int .i64 0] T_Part (0, 0))] ++ L1 ++ []) (FPa lo2 hi2 q :: ([FPa lo hi p, FRd rawL 0 w.heap.size A l] ++ hs.map hlF))) ?_ ?_
   ·
    skip
    refine cw_block ?_
    refine cw_seq ?_
    refine cw_region ?_
    refine l1 (mvI_r rfl) rfl rfl rfl ?_
    refine lwD (lss_r rfl rfl) rfl rfl rfl (fun h102 => ?_) (fun h102 => ?_)
    ·
     refine l1 (asB_r rfl) rfl rfl rfl ?_
     refine lw_nil ?_
     refine cw_true rfl ?_
     refine cw_seq ?_
    
     have hloq := H.size
     refine cw_draw mixed [0, 1, 2, 3, 4, 5, 6, 7, 8] [9, 10] [2, 4] [1, 3, 5, 6, 7, 8] (sp [(2, Sp.one (.string (wordT ((seq : Nat) : Int)))), (4, Sp.deep w13.heap.size paD (fun p : Pa => p.c.toArray) (fun cs => .tuple #[.agg cs, .int .i64 (putA p.a (putE seq)).2.1, .int .i64 (putA p.a (putE seq)).2.2]) (fun q : Pa => q.a = (putA p.a (putE seq)).1))]) (by kernel_rfl) (by kernel_rfl) (by kernel_rfl) (by kernel_rfl) (fun _ _ _ h => h) (sp_st _) ?_
     refine aw rfl rfl rfl rfl rfl (fun w' hw' => ldW_r agg_Part rfl ((H.later hw').ent (i := 1) rfl) rfl) ?_
     refine aw rfl rfl rfl rfl rfl (fun w' hw' => mvI_r rfl) ?_
     refine awCalV cb_tailracekeep_word rfl rfl rfl rfl rfl (fun w' hw' => word_ok ((seq : Nat) : Int) w' ⟨by omega, by omega⟩) rfl ?_
     refine aw rfl rfl rfl rfl rfl (fun w' hw' => bld_r (cs := #[.int .i64 (0), .int .i64 (0), .int .i64 (0), .int .i64 (0), .int .i64 (1), .bool (false), .string (wordT ((seq : Nat) : Int))]) st_Entry z_Entry (by kernel_rfl)) ?_
     refine awDeep (gv := (fun cs => .tuple #[.agg cs, .int .i64 (putA p.a (putE seq)).2.1, .int .i64 (putA p.a (putE seq)).2.2])) cb_part_Put rfl rfl rfl rfl rfl (fun w' hw' => hw'.size) (fun w' hw' => pPut_ok p (putE seq) w' (Hp.pa (H.later hw') 0 rfl) hpok (hgd.room (by omega))) rfl ?_; intro cs108
     refine aw rfl rfl rfl rfl rfl (fun w' hw' => mvU_r rfl) ?_
     refine aw rfl rfl rfl rfl rfl (fun w' hw' => exA_r rfl rfl) ?_
     refine aw rfl rfl rfl rfl rfl (fun w' hw' => exI_r rfl rfl) ?_
     refine aw rfl rfl rfl rfl rfl (fun w' hw' => exI_r rfl rfl) ?_
     refine aw_nil ?_
     intro w14 hw' hF
     obtain ⟨hF, q, eq, haq, hrd108⟩ := hF; cases eq
     obtain ⟨hF, -⟩ := hF
     replace H := H.learn hw' (FPa w13.heap.size w14.heap.size q) hrd108 (Nat.le_refl _) (Nat.le_refl _)
     clear hw' hF
     refine stN H 0 (#[.int .i64 (q.epoch), .int .i64 (q.leader), .slice q.iA q.isr.length q.iC, .slice q.kA q.known.length q.kC, .slice q.rA q.reps.length q.rC, .int .i64 (q.few), .int .i64 (q.base)]) siz_Part rfl rfl rfl rfl rfl (by kernel_rfl) (by kernel_rfl) ?_; intro w15 H
     refine l1 (asI_r rfl) rfl rfl rfl ?_
     refine lw_nil ?_
     refine cw_region ?_
     refine l1 (mvI_r rfl) rfl rfl rfl ?_
     refine l1 (add_r rfl rfl (by omega) (by omega)) rfl rfl rfl ?_
     refine l1 (asI_r rfl) rfl rfl rfl ?_
     refine lw_nil ?_
     have hst : stepA n hard p.a seq x = ((putA p.a (putE seq)).1, (putA p.a (putE seq)).2.2) := by unfold stepA; rw [if_pos (by omega)]
     rw [show (putA p.a (putE seq)).1 = (stepA n hard p.a seq x).1 by rw [hst]] at haq
     exact ⟨(q, _, _), ⟨haq, hloq, H.forget (List.Sublist.refl _) (fun _ h => h)⟩, sl2 (by show _ = Value.int .i64 ((stepA n hard p.a seq x).2); rw [hst]; rfl) (by show _ = Value.int .i64 ((seqA seq x : Nat) : Int); unfold seqA; rw [if_pos (by omega)]; rfl), by repeat (first | exact Agr.refl _ _ | exact agr_ovr | refine agr_upd rfl ?_ | refine agr_updL _ rfl ?_ | refine agr_ovr2 rfl ?_)⟩
    ·
     refine l1 (asB_r rfl) rfl rfl rfl ?_
     refine lw_nil ?_
     refine cw_false rfl ?_
     refine cw_seq ?_
     refine cw_region ?_
     refine l1 (mvI_r rfl) rfl rfl rfl ?_
     refine lwD (lss_r rfl rfl) rfl rfl rfl (fun h116 => ?_) (fun h116 => ?_)
     ·
      refine l1 (asB_r rfl) rfl rfl rfl ?_
      refine lw_nil ?_
      refine cw_true rfl ?_
      refine cw_region ?_
      refine l1 (ldW_r agg_Part rfl (H.ent (i := 1) rfl) rfl) rfl rfl rfl ?_
      refine l1 (mvI_r rfl) rfl rfl rfl ?_
      refine cal cb_part_Fetch (pFetch_ok p (pk x.a n) _ (Hp.pa H 0 rfl) hpok hpi) rfl rfl ?_
      have hloq := H.size
      rintro _ w16 ⟨q, rfl, haq, hnq⟩; replace H := H.learn hnq.2 (FPa w13.heap.size w16.heap.size q) hnq.1 (Nat.le_refl _) (Nat.le_refl _); clear hnq
      refine l1 (mvU_r rfl) rfl rfl rfl ?_
      refine l1 (exA_r rfl rfl) rfl rfl rfl ?_
      refine l1 (exI_r rfl rfl) rfl rfl rfl ?_
      refine l1 (exI_r rfl rfl) rfl rfl rfl ?_
      refine stN H 0 (#[.int .i64 (q.epoch), .int .i64 (q.leader), .slice q.iA q.isr.length q.iC, .slice q.kA q.known.length q.kC, .slice q.rA q.reps.length q.rC, .int .i64 (q.few), .int .i64 (q.base)]) siz_Part rfl rfl rfl rfl rfl (by kernel_rfl) (by kernel_rfl) ?_; intro w17 H
      refine l1 (asI_r rfl) rfl rfl rfl ?_
      refine lw_nil ?_
      have hst : stepA n hard p.a seq x = ((fetchA p.a (pk x.a n)).1, (fetchA p.a (pk x.a n)).2.2) := by unfold stepA; rw [if_neg (by omega), if_pos (by omega)]
      rw [show (fetchA p.a (pk x.a n)).1 = (stepA n hard p.a seq x).1 by rw [hst]] at haq
      exact ⟨(q, _, _), ⟨haq, hloq, H.forget (List.Sublist.refl _) (fun _ h => h)⟩, sl2 (by show _ = Value.int .i64 ((stepA n hard p.a seq x).2); rw [hst]; rfl) (by show _ = Value.int .i64 ((seqA seq x : Nat) : Int); unfold seqA; rw [if_neg (by omega)]; rfl), by repeat (first | exact Agr.refl _ _ | exact agr_ovr | refine agr_upd rfl ?_ | refine agr_updL _ rfl ?_ | refine agr_ovr2 rfl ?_)⟩
     ·
      refine l1 (asB_r rfl) rfl rfl rfl ?_
      refine lw_nil ?_
      refine cw_false rfl ?_
      refine cw_seq ?_
      refine cw_region ?_
      refine l1 (mvI_r rfl) rfl rfl rfl ?_
      refine lwD (lss_r rfl rfl) rfl rfl rfl (fun h126 => ?_) (fun h126 => ?_)
      ·
       refine l1 (mvB_r rfl) rfl rfl rfl ?_
       refine lwN rfl rfl rfl ?_
       refine lwN rfl rfl rfl ?_
       refine l1 (pkTB_r rfl rfl) rfl rfl rfl ?_
       refine l1 (asB_r rfl) rfl rfl rfl ?_
       refine lw_nil ?_
       refine cw_true rfl ?_
       refine cw_region ?_
       refine l1 (ldW_r agg_Part rfl (H.ent (i := 1) rfl) rfl) rfl rfl rfl ?_
       refine l1 (mvI_r rfl) rfl rfl rfl ?_
       refine cal cb_part_Sync (pSync_ok p (pk x.a n) _ (Hp.pa H 0 rfl) hpok hpi) rfl rfl ?_
       have hloq := H.size
       rintro _ w18 ⟨q, rfl, haq, hnq⟩; replace H := H.learn hnq.2 (FPa w13.heap.size w18.heap.size q) hnq.1 (Nat.le_refl _) (Nat.le_refl _); clear hnq
       refine l1 (mvU_r rfl) rfl rfl rfl ?_
       refine l1 (exA_r rfl rfl) rfl rfl rfl ?_
       refine l1 (exI_r rfl rfl) rfl rfl rfl ?_
       refine stN H 0 (#[.int .i64 (q.epoch), .int .i64 (q.leader), .slice q.iA q.isr.length q.iC, .slice q.kA q.known.length q.kC, .slice q.rA q.reps.length q.rC, .int .i64 (q.few), .int .i64 (q.base)]) siz_Part rfl rfl rfl rfl rfl (by kernel_rfl) (by kernel_rfl) ?_; intro w19 H
       refine l1 (asI_r rfl) rfl rfl rfl ?_
       refine lw_nil ?_
       have hst : stepA n hard p.a seq x = ((syncA p.a (pk x.a n)).1, (syncA p.a (pk x.a n)).2) := by unfold stepA; rw [if_neg (by omega), if_neg (by omega), if_pos (by first | exact .inl (by omega) | exact .inr (by simpa using hc124))]
       rw [show (syncA p.a (pk x.a n)).1 = (stepA n hard p.a seq x).1 by rw [hst]] at haq
       exact ⟨(q, _, _), ⟨haq, hloq, H.forget (List.Sublist.refl _) (fun _ h => h)⟩, sl2 (by show _ = Value.int .i64 ((stepA n hard p.a seq x).2); rw [hst]; rfl) (by show _ = Value.int .i64 ((seqA seq x : Nat) : Int); unfold seqA; rw [if_neg (by omega)]; rfl), by repeat (first | exact Agr.refl _ _ | exact agr_ovr | refine agr_upd rfl ?_ | refine agr_updL _ rfl ?_ | refine agr_ovr2 rfl ?_)⟩
      ·
       refine l1 (mvB_r rfl) rfl rfl rfl ?_
       refine lwG rfl ?_
       refine l1 (mvB_r rfl) rfl rfl rfl ?_
       refine lwG rfl ?_
       refine l1 (not_r rfl) rfl rfl rfl ?_
       refine l1 (pkFB_r rfl rfl) rfl rfl rfl ?_
       refine l1 (asB_r rfl) rfl rfl rfl ?_
       refine lw_nil ?_
       refine cw_if rfl (fun hc124 => ?_) (fun hc124 => ?_)
       ·
        refine cw_region ?_
        refine l1 (ldW_r agg_Part rfl (H.ent (i := 1) rfl) rfl) rfl rfl rfl ?_
        refine l1 (mvI_r rfl) rfl rfl rfl ?_
        refine cal cb_part_Sync (pSync_ok p (pk x.a n) _ (Hp.pa H 0 rfl) hpok hpi) rfl rfl ?_
        have hloq := H.size
        rintro _ w20 ⟨q, rfl, haq, hnq⟩; replace H := H.learn hnq.2 (FPa w13.heap.size w20.heap.size q) hnq.1 (Nat.le_refl _) (Nat.le_refl _); clear hnq
        refine l1 (mvU_r rfl) rfl rfl rfl ?_
        refine l1 (exA_r rfl rfl) rfl rfl rfl ?_
        refine l1 (exI_r rfl rfl) rfl rfl rfl ?_
        refine stN H 0 (#[.int .i64 (q.epoch), .int .i64 (q.leader), .slice q.iA q.isr.length q.iC, .slice q.kA q.known.length q.kC, .slice q.rA q.reps.length q.rC, .int .i64 (q.few), .int .i64 (q.base)]) siz_Part rfl rfl rfl rfl rfl (by kernel_rfl) (by kernel_rfl) ?_; intro w21 H
        refine l1 (asI_r rfl) rfl rfl rfl ?_
        refine lw_nil ?_
        have hst : stepA n hard p.a seq x = ((syncA p.a (pk x.a n)).1, (syncA p.a (pk x.a n)).2) := by unfold stepA; rw [if_neg (by omega), if_neg (by omega), if_pos (by first | exact .inl (by omega) | exact .inr (by simpa using hc124))]
        rw [show (syncA p.a (pk x.a n)).1 = (stepA n hard p.a seq x).1 by rw [hst]] at haq
        exact ⟨(q, _, _), ⟨haq, hloq, H.forget (List.Sublist.refl _) (fun _ h => h)⟩, sl2 (by show _ = Value.int .i64 ((stepA n hard p.a seq x).2); rw [hst]; rfl) (by show _ = Value.int .i64 ((seqA seq x : Nat) : Int); unfold seqA; rw [if_neg (by omega)]; rfl), by repeat (first | exact Agr.refl _ _ | exact agr_ovr | refine agr_upd rfl ?_ | refine agr_updL _ rfl ?_ | refine agr_ovr2 rfl ?_)⟩
       ·
        refine cw_seq ?_
        refine cw_region ?_
        refine l1 (mvI_r rfl) rfl rfl rfl ?_
        refine lwD (eql_r rfl rfl) rfl rfl rfl (fun h139 => ?_) (fun h139 => ?_)
        ·
         refine l1 (asB_r rfl) rfl rfl rfl ?_
         refine lw_nil ?_
         refine cw_true rfl ?_
        
         have hloq := H.size
         refine cw_draw mixed [0, 1, 2, 3, 4, 5, 6, 7, 8, 9, 10, 11] [12, 13] [7, 8] [1, 2, 3, 4, 5, 9, 10, 11] (sp [(7, Sp.one (.int .i64 ((pk x.b 30 : Nat) : Int))), (8, Sp.deep w13.heap.size paD (fun p : Pa => p.c.toArray) (fun cs => .tuple #[.agg cs, .int .i64 (crashA p.a (pk x.a n) (pk x.b 30)).2]) (fun q : Pa => q.a = (crashA p.a (pk x.a n) (pk x.b 30)).1))]) (by kernel_rfl) (by kernel_rfl) (by kernel_rfl) (by kernel_rfl) (fun _ _ _ h => h) (sp_st _) ?_
         refine aw rfl rfl rfl rfl rfl (fun w' hw' => ldW_r agg_Part rfl ((H.later hw').ent (i := 1) rfl) rfl) ?_
         refine aw rfl rfl rfl rfl rfl (fun w' hw' => mvI_r rfl) ?_
         refine aw rfl rfl rfl rfl rfl (fun w' hw' => mvS_r rfl) ?_
         refine aw rfl rfl rfl rfl rfl (fun w' hw' => mvI_r rfl) ?_
         refine awIxF H 1 rfl rfl rfl rfl rfl sl_LRaw rfl rfl (by omega) (by omega) ?_; intro b22 o22 x22 e22
         obtain rfl : x = x22 := by have := e22.at_; rw [hx] at this; exact Option.some.inj this
         refine aw rfl rfl rfl rfl rfl (fun w' hw' => fad_r fd_Raw_2 rfl) ?_
         refine aw rfl rfl rfl rfl rfl (fun w' hw' => ld_r one_int rfl (e22.later hw' 2 _ rfl)) ?_
         refine awCalV cb_tailracekeep_picked rfl rfl rfl rfl rfl (fun w' hw' => picked_ok x.b 30 w' hxo.2.2.1.1 hxo.2.2.1.2 (by omega) (by omega)) rfl ?_
         refine awDeep (gv := (fun cs => .tuple #[.agg cs, .int .i64 (crashA p.a (pk x.a n) (pk x.b 30)).2])) cb_part_Crash rfl rfl rfl rfl rfl (fun w' hw' => hw'.size) (fun w' hw' => pCrash_ok p (pk x.a n) (pk x.b 30) w' (Hp.pa (H.later hw') 0 rfl) hpok hpi (by have := pk_lt x.b (show 0 < 30 by decide); omega)) rfl ?_; intro cs149
         refine aw rfl rfl rfl rfl rfl (fun w' hw' => mvU_r rfl) ?_
         refine aw rfl rfl rfl rfl rfl (fun w' hw' => exA_r rfl rfl) ?_
         refine aw rfl rfl rfl rfl rfl (fun w' hw' => exI_r rfl rfl) ?_
         refine aw_nil ?_
         intro w23 hw' hF
         obtain ⟨hF, q, eq, haq, hrd149⟩ := hF; cases eq
         obtain ⟨hF, -⟩ := hF
         replace H := H.learn hw' (FPa w13.heap.size w23.heap.size q) hrd149 (Nat.le_refl _) (Nat.le_refl _)
         clear hw' hF
         refine stN H 0 (#[.int .i64 (q.epoch), .int .i64 (q.leader), .slice q.iA q.isr.length q.iC, .slice q.kA q.known.length q.kC, .slice q.rA q.reps.length q.rC, .int .i64 (q.few), .int .i64 (q.base)]) siz_Part rfl rfl rfl rfl rfl (by kernel_rfl) (by kernel_rfl) ?_; intro w24 H
         refine l1 (asI_r rfl) rfl rfl rfl ?_
         refine lw_nil ?_
         have hst : stepA n hard p.a seq x = ((crashA p.a (pk x.a n) (pk x.b 30)).1, (crashA p.a (pk x.a n) (pk x.b 30)).2) := by unfold stepA; rw [if_neg (by omega), if_neg (by omega), if_neg (by rintro (h | h); omega; simp [h] at hc124), if_pos (by omega)]
         rw [show (crashA p.a (pk x.a n) (pk x.b 30)).1 = (stepA n hard p.a seq x).1 by rw [hst]] at haq
         exact ⟨(q, _, _), ⟨haq, hloq, H.forget (List.Sublist.refl _) (fun _ h => h)⟩, sl2 (by show _ = Value.int .i64 ((stepA n hard p.a seq x).2); rw [hst]; rfl) (by show _ = Value.int .i64 ((seqA seq x : Nat) : Int); unfold seqA; rw [if_neg (by omega)]; rfl), by repeat (first | exact Agr.refl _ _ | exact agr_ovr | refine agr_upd rfl ?_ | refine agr_updL _ rfl ?_ | refine agr_ovr2 rfl ?_)⟩
        ·
         refine l1 (asB_r rfl) rfl rfl rfl ?_
         refine lw_nil ?_
         refine cw_false rfl ?_
         refine cw_seq ?_
         refine cw_region ?_
         refine l1 (mvI_r rfl) rfl rfl rfl ?_
         refine lwD (eql_r rfl rfl) rfl rfl rfl (fun h154 => ?_) (fun h154 => ?_)
         ·
          refine l1 (asB_r rfl) rfl rfl rfl ?_
          refine lw_nil ?_
          refine cw_true rfl ?_
          refine cw_region ?_
          refine l1 (ldW_r agg_Part rfl (H.ent (i := 1) rfl) rfl) rfl rfl rfl ?_
          refine l1 (mvI_r rfl) rfl rfl rfl ?_
          refine cal cb_part_Rise (pRise_ok p (pk x.a n) _ (Hp.pa H 0 rfl) hpok hpi) rfl rfl ?_
          have hloq := H.size
          rintro _ w25 ⟨q, rfl, haq, hnq⟩; replace H := H.learn hnq.2 (FPa w13.heap.size w25.heap.size q) hnq.1 (Nat.le_refl _) (Nat.le_refl _); clear hnq
          refine l1 (mvU_r rfl) rfl rfl rfl ?_
          refine l1 (exA_r rfl rfl) rfl rfl rfl ?_
          refine l1 (exI_r rfl rfl) rfl rfl rfl ?_
          refine stN H 0 (#[.int .i64 (q.epoch), .int .i64 (q.leader), .slice q.iA q.isr.length q.iC, .slice q.kA q.known.length q.kC, .slice q.rA q.reps.length q.rC, .int .i64 (q.few), .int .i64 (q.base)]) siz_Part rfl rfl rfl rfl rfl (by kernel_rfl) (by kernel_rfl) ?_; intro w26 H
          refine l1 (asI_r rfl) rfl rfl rfl ?_
          refine lw_nil ?_
          have hst : stepA n hard p.a seq x = ((riseA p.a (pk x.a n)).1, (riseA p.a (pk x.a n)).2) := by unfold stepA; rw [if_neg (by omega), if_neg (by omega), if_neg (by rintro (h | h); omega; simp [h] at hc124), if_neg (by omega), if_pos (by omega)]
          rw [show (riseA p.a (pk x.a n)).1 = (stepA n hard p.a seq x).1 by rw [hst]] at haq
          exact ⟨(q, _, _), ⟨haq, hloq, H.forget (List.Sublist.refl _) (fun _ h => h)⟩, sl2 (by show _ = Value.int .i64 ((stepA n hard p.a seq x).2); rw [hst]; rfl) (by show _ = Value.int .i64 ((seqA seq x : Nat) : Int); unfold seqA; rw [if_neg (by omega)]; rfl), by repeat (first | exact Agr.refl _ _ | exact agr_ovr | refine agr_upd rfl ?_ | refine agr_updL _ rfl ?_ | refine agr_ovr2 rfl ?_)⟩
         ·
          refine l1 (asB_r rfl) rfl rfl rfl ?_
          refine lw_nil ?_
          refine cw_false rfl ?_
          refine cw_seq ?_
          refine cw_region ?_
          refine l1 (mvI_r rfl) rfl rfl rfl ?_
          refine lwD (eql_r rfl rfl) rfl rfl rfl (fun h163 => ?_) (fun h163 => ?_)
          ·
           refine l1 (asB_r rfl) rfl rfl rfl ?_
           refine lw_nil ?_
           refine cw_true rfl ?_
           refine cw_region ?_
           refine l1 (ldW_r agg_Part rfl (H.ent (i := 1) rfl) rfl) rfl rfl rfl ?_
           refine l1 (mvI_r rfl) rfl rfl rfl ?_
           refine cal cb_part_Elect (pElect_ok p (pk x.a n) _ (Hp.pa H 0 rfl) hpok hpi) rfl rfl ?_
           have hloq := H.size
           rintro _ w27 ⟨q, rfl, haq, hnq⟩; replace H := H.learn hnq.2 (FPa w13.heap.size w27.heap.size q) hnq.1 (Nat.le_refl _) (Nat.le_refl _); clear hnq
           refine l1 (mvU_r rfl) rfl rfl rfl ?_
           refine l1 (exA_r rfl rfl) rfl rfl rfl ?_
           refine l1 (exI_r rfl rfl) rfl rfl rfl ?_
           refine stN H 0 (#[.int .i64 (q.epoch), .int .i64 (q.leader), .slice q.iA q.isr.length q.iC, .slice q.kA q.known.length q.kC, .slice q.rA q.reps.length q.rC, .int .i64 (q.few), .int .i64 (q.base)]) siz_Part rfl rfl rfl rfl rfl (by kernel_rfl) (by kernel_rfl) ?_; intro w28 H
           refine l1 (asI_r rfl) rfl rfl rfl ?_
           refine lw_nil ?_
           have hst : stepA n hard p.a seq x = ((electA p.a (pk x.a n)).1, (electA p.a (pk x.a n)).2) := by unfold stepA; rw [if_neg (by omega), if_neg (by omega), if_neg (by rintro (h | h); omega; simp [h] at hc124), if_neg (by omega), if_neg (by omega), if_pos (by omega)]
           rw [show (electA p.a (pk x.a n)).1 = (stepA n hard p.a seq x).1 by rw [hst]] at haq
           exact ⟨(q, _, _), ⟨haq, hloq, H.forget (List.Sublist.refl _) (fun _ h => h)⟩, sl2 (by show _ = Value.int .i64 ((stepA n hard p.a seq x).2); rw [hst]; rfl) (by show _ = Value.int .i64 ((seqA seq x : Nat) : Int); unfold seqA; rw [if_neg (by omega)]; rfl), by repeat (first | exact Agr.refl _ _ | exact agr_ovr | refine agr_upd rfl ?_ | refine agr_updL _ rfl ?_ | refine agr_ovr2 rfl ?_)⟩
          ·
           refine l1 (asB_r rfl) rfl rfl rfl ?_
           refine lw_nil ?_
           refine cw_false rfl ?_
           refine cw_seq ?_
           refine cw_region ?_
           refine l1 (mvS_r rfl) rfl rfl rfl ?_
           refine l1 (mvI_r rfl) rfl rfl rfl ?_
           refine ixF H 1 rfl sl_LRaw rfl rfl (by omega) (by omega) rfl ?_; intro b29 o29 x29 e29
           obtain rfl : x = x29 := by have := e29.at_; rw [hx] at this; exact Option.some.inj this
           refine l1 (fad_r fd_Raw_3 rfl) rfl rfl rfl ?_
           refine l1 (ld_r one_int rfl (e29.cl 3 _ rfl)) rfl rfl rfl ?_
           refine cal cb_tailracekeep_picked (picked_ok x.c 3 _ hxo.2.2.2.1 hxo.2.2.2.2 (by omega) (by omega)) rfl rfl ?_
           rintro _ w30 ⟨rfl, hb⟩; replace H := H.later hb; clear hb
           refine lw_nil ?_
           refine cw_block ?_
           refine cw_seq ?_
           refine cw_region ?_
           refine lwD (eql_r rfl rfl) rfl rfl rfl (fun h85 => ?_) (fun h85 => ?_)
           ·
            refine l1 (asB_r rfl) rfl rfl rfl ?_
            refine lw_nil ?_
            refine cw_true rfl ?_
            refine cw_region ?_
            refine l1 (ldW_r agg_Part rfl (H.ent (i := 1) rfl) rfl) rfl rfl rfl ?_
            refine l1 (mvI_r rfl) rfl rfl rfl ?_
            refine cal cb_part_Wipe (pWipe_ok p (pk x.a n) _ (Hp.pa H 0 rfl) hpok hpi) rfl rfl ?_
            have hloq := H.size
            rintro _ w31 ⟨q, rfl, haq, hnq⟩; replace H := H.learn hnq.2 (FPa w30.heap.size w31.heap.size q) hnq.1 (Nat.le_refl _) (Nat.le_refl _); clear hnq
            refine l1 (mvU_r rfl) rfl rfl rfl ?_
            refine l1 (exA_r rfl rfl) rfl rfl rfl ?_
            refine l1 (exI_r rfl rfl) rfl rfl rfl ?_
            refine stN H 0 (#[.int .i64 (q.epoch), .int .i64 (q.leader), .slice q.iA q.isr.length q.iC, .slice q.kA q.known.length q.kC, .slice q.rA q.reps.length q.rC, .int .i64 (q.few), .int .i64 (q.base)]) siz_Part rfl rfl rfl rfl rfl (by kernel_rfl) (by kernel_rfl) ?_; intro w32 H
            refine l1 (asI_r rfl) rfl rfl rfl ?_
            refine lw_nil ?_
            have hst : stepA n hard p.a seq x = ((wipeA p.a (pk x.a n)).1, (wipeA p.a (pk x.a n)).2) := by unfold stepA; rw [if_neg (by omega), if_neg (by omega), if_neg (by rintro (h | h); omega; simp [h] at hc124), if_neg (by omega), if_neg (by omega), if_neg (by omega), if_pos (by omega)]
            rw [show (wipeA p.a (pk x.a n)).1 = (stepA n hard p.a seq x).1 by rw [hst]] at haq
            exact ⟨(q, _, _), ⟨haq, hloq, H.forget (List.Sublist.refl _) (fun _ h => h)⟩, sl2 (by show _ = Value.int .i64 ((stepA n hard p.a seq x).2); rw [hst]; rfl) (by show _ = Value.int .i64 ((seqA seq x : Nat) : Int); unfold seqA; rw [if_neg (by omega)]; rfl), by repeat (first | exact Agr.refl _ _ | exact agr_ovr | refine agr_upd rfl ?_ | refine agr_updL _ rfl ?_ | refine agr_ovr2 rfl ?_)⟩
           ·
            refine l1 (asB_r rfl) rfl rfl rfl ?_
            refine lw_nil ?_
            refine cw_false rfl ?_
            refine cw_seq ?_
            refine cw_region ?_
            refine lwD (eql_r rfl rfl) rfl rfl rfl (fun h93 => ?_) (fun h93 => ?_)
            ·
             refine l1 (asB_r rfl) rfl rfl rfl ?_
             refine lw_nil ?_
             refine cw_true rfl ?_
             refine cw_region ?_
             refine l1 (ldW_r agg_Part rfl (H.ent (i := 1) rfl) rfl) rfl rfl rfl ?_
             refine l1 (mvI_r rfl) rfl rfl rfl ?_
             refine cal cb_part_Shrink (pShrink_ok p (pk x.a n) _ (Hp.pa H 0 rfl) hpok hpi) rfl rfl ?_
             have hloq := H.size
             rintro _ w33 ⟨q, rfl, haq, hnq⟩; replace H := H.learn hnq.2 (FPa w30.heap.size w33.heap.size q) hnq.1 (Nat.le_refl _) (Nat.le_refl _); clear hnq
             refine l1 (mvU_r rfl) rfl rfl rfl ?_
             refine l1 (exA_r rfl rfl) rfl rfl rfl ?_
             refine l1 (exI_r rfl rfl) rfl rfl rfl ?_
             refine stN H 0 (#[.int .i64 (q.epoch), .int .i64 (q.leader), .slice q.iA q.isr.length q.iC, .slice q.kA q.known.length q.kC, .slice q.rA q.reps.length q.rC, .int .i64 (q.few), .int .i64 (q.base)]) siz_Part rfl rfl rfl rfl rfl (by kernel_rfl) (by kernel_rfl) ?_; intro w34 H
             refine l1 (asI_r rfl) rfl rfl rfl ?_
             refine lw_nil ?_
             have hst : stepA n hard p.a seq x = ((shrinkA p.a (pk x.a n)).1, (shrinkA p.a (pk x.a n)).2) := by unfold stepA; rw [if_neg (by omega), if_neg (by omega), if_neg (by rintro (h | h); omega; simp [h] at hc124), if_neg (by omega), if_neg (by omega), if_neg (by omega), if_neg (by omega), if_pos (by omega)]
             rw [show (shrinkA p.a (pk x.a n)).1 = (stepA n hard p.a seq x).1 by rw [hst]] at haq
             exact ⟨(q, _, _), ⟨haq, hloq, H.forget (List.Sublist.refl _) (fun _ h => h)⟩, sl2 (by show _ = Value.int .i64 ((stepA n hard p.a seq x).2); rw [hst]; rfl) (by show _ = Value.int .i64 ((seqA seq x : Nat) : Int); unfold seqA; rw [if_neg (by omega)]; rfl), by repeat (first | exact Agr.refl _ _ | exact agr_ovr | refine agr_upd rfl ?_ | refine agr_updL _ rfl ?_ | refine agr_ovr2 rfl ?_)⟩
            ·
             refine l1 (asB_r rfl) rfl rfl rfl ?_
             refine lw_nil ?_
             refine cw_false rfl ?_
             refine cw_region ?_
             refine l1 (ldW_r agg_Part rfl (H.ent (i := 1) rfl) rfl) rfl rfl rfl ?_
             refine l1 (mvI_r rfl) rfl rfl rfl ?_
             refine cal cb_part_Expand (pExpand_ok p (pk x.a n) _ (Hp.pa H 0 rfl) hpok hpi) rfl rfl ?_
             have hloq := H.size
             rintro _ w35 ⟨q, rfl, haq, hnq⟩; replace H := H.learn hnq.2 (FPa w30.heap.size w35.heap.size q) hnq.1 (Nat.le_refl _) (Nat.le_refl _); clear hnq
             refine l1 (mvU_r rfl) rfl rfl rfl ?_
             refine l1 (exA_r rfl rfl) rfl rfl rfl ?_
             refine l1 (exI_r rfl rfl) rfl rfl rfl ?_
             refine stN H 0 (#[.int .i64 (q.epoch), .int .i64 (q.leader), .slice q.iA q.isr.length q.iC, .slice q.kA q.known.length q.kC, .slice q.rA q.reps.length q.rC, .int .i64 (q.few), .int .i64 (q.base)]) siz_Part rfl rfl rfl rfl rfl (by kernel_rfl) (by kernel_rfl) ?_; intro w36 H
             refine l1 (asI_r rfl) rfl rfl rfl ?_
             refine lw_nil ?_
             have hst : stepA n hard p.a seq x = ((expandA p.a (pk x.a n)).1, (expandA p.a (pk x.a n)).2) := by unfold stepA; rw [if_neg (by omega), if_neg (by omega), if_neg (by rintro (h | h); omega; simp [h] at hc124), if_neg (by omega), if_neg (by omega), if_neg (by omega), if_neg (by omega), if_neg (by omega)]
             rw [show (expandA p.a (pk x.a n)).1 = (stepA n hard p.a seq x).1 by rw [hst]] at haq
             exact ⟨(q, _, _), ⟨haq, hloq, H.forget (List.Sublist.refl _) (fun _ h => h)⟩, sl2 (by show _ = Value.int .i64 ((stepA n hard p.a seq x).2); rw [hst]; rfl) (by show _ = Value.int .i64 ((seqA seq x : Nat) : Int); unfold seqA; rw [if_neg (by omega)]; rfl), by repeat (first | exact Agr.refl _ _ | exact agr_ovr | refine agr_upd rfl ?_ | refine agr_updL _ rfl ?_ | refine agr_ovr2 rfl ?_)⟩
   rintro ⟨q, lo2, hi2⟩ ρ1 w37 ⟨haq, hloq, H⟩
   show CW _ _ _ _ (updL (ovr _ _ ρ1) [(21, .int .i64 ((stepA n hard p.a seq x).2)), (17, .int .i64 ((seqA seq x : Nat) : Int))]) w37
   refine cw_seq ?_
   refine cw_seq ?_
   refine cw_region ?_
   refine l1 (mvI_r rfl) rfl rfl rfl ?_
   refine lwD (eql_r rfl rfl) rfl rfl rfl (fun h171 => ?_) (fun h171 => ?_)
   ·
    refine lw_nil ?_
    refine cw_cut (τ := Pa × Nat × Nat) [172] (fun _ => []) (fun (q, lo2, hi2) w' => q.a = nextA n hard p.a seq x ∧ w.heap.size ≤ lo2 ∧ Hp w w' ([(b13, .cells #[.int .i64 (q.epoch), .int .i64 (q.leader), .slice q.iA q.isr.length q.iC, .slice q.kA q.known.length q.kC, .slice q.rA q.reps.length q.rC, .int .i64 (q.few), .int .i64 (q.base)] T_Part (0, 0)), (b10, .cells #[.int .i64 0, .int .i64 0, .slice none 0 0, .slice none 0 0, .slice none 0 0, .int .i64 0, .int .i64 0] T_Part (0, 0))] ++ L1 ++ []) (FPa lo2 hi2 q :: FRd rawL 0 w.heap.size A l :: hs.map hlF)) ?_ ?_
    ·
     skip
     refine cw_true rfl ?_
     refine cw_region ?_
     refine l1 (ldW_r agg_Part rfl (H.ent (i := 0) rfl) rfl) rfl rfl rfl ?_
     refine stN H 1 (#[.int .i64 (q.epoch), .int .i64 (q.leader), .slice q.iA q.isr.length q.iC, .slice q.kA q.known.length q.kC, .slice q.rA q.reps.length q.rC, .int .i64 (q.few), .int .i64 (q.base)]) siz_Part rfl rfl rfl rfl rfl (by kernel_rfl) (by kernel_rfl) ?_; intro w38 H
     refine lw_nil ?_
     exact ⟨(q, lo2, hi2), ⟨by unfold nextA; rw [if_pos (h171)]; exact haq, hloq, H.forget (.cons _ (List.Sublist.refl _)) (fun f hf => by simp only [List.mem_cons, List.mem_append] at hf ⊢; grind)⟩, sl0, by repeat (first | exact Agr.refl _ _ | exact agr_ovr | refine agr_upd rfl ?_ | refine agr_updL _ rfl ?_ | refine agr_ovr2 rfl ?_)⟩
    rintro ⟨q, lo2, hi2⟩ ρ1 w39 ⟨haq, hloq, H⟩
    obtain ⟨K2, hPl2, hsq2⟩ := play_ok (hard := hard) h1 h5 hf hfn (l.take (i + 1)) (by rw [List.length_take]; omega)
    rw [playA_snoc hx, hpl] at hPl2 hsq2
    have hgd2 := hPl2.gd
    simp only [playS] at hgd2 hsq2
    rw [← haq] at hgd2
    have hqok := hgd2.ok
    have hqn : q.reps.length = n := by have := hgd2.len; simpa [Pa.a] using this
    replace H := Hp.paReps H 0 rfl
    refine cw_seq ?_
    refine cw_region ?_
    refine l1 (fad_r fd_Part_4 rfl) rfl rfl rfl ?_
    refine l1 (ld_r one_LReplica rfl (cellE (H.ent (i := 0) rfl) rfl)) rfl rfl rfl ?_
    refine l1 (lenS_r len_LReplica rfl) rfl rfl rfl ?_
    refine l1 (mvI_r rfl) rfl rfl rfl ?_
    refine lw_nil ?_
    refine cw_block ?_
    refine cw_loop (τ := Nat × List Hl × Option Addr × Nat) [16, 24, 25, 26, 27, 176, 177, 178, 179, 180, 181, 182, 183, 184, 185, 186, 187, 188, 189, 190, 191, 192, 193, 194, 195, 196, 197, 198, 199, 200, 201, 202, 203, 204] (fun (j, hs2, A2, c2) => [(176, .int .i64 (j : Nat)), (16, .slice A2 hs2.length c2)]) (fun (j, hs2, A2, c2) w' => j ≤ q.reps.length ∧ hs2.map Hl.es = hs.map Hl.es ++ highsL (q.a.reps.take j) ∧ hs2.length ≤ hs.length + j ∧ (∀ h ∈ hs2, w.heap.size ≤ h.lo ∧ h.es.length ≤ h.cap ∧ h.es.length ≤ 400) ∧ ∃ L2, Own hlL (.slice A2 hs2.length c2) T_LEntry hs2 L2 ∧ Hp w w' ([(b13, .cells #[.int .i64 (q.epoch), .int .i64 (q.leader), .slice q.iA q.isr.length q.iC, .slice q.kA q.known.length q.kC, .slice q.rA q.reps.length q.rC, .int .i64 (q.few), .int .i64 (q.base)] T_Part (0, 0)), (b10, .cells #[.int .i64 0, .int .i64 0, .slice none 0 0, .slice none 0 0, .slice none 0 0, .int .i64 0, .int .i64 0] T_Part (0, 0))] ++ L2 ++ []) ([FRd repL lo2 hi2 q.rA q.reps, FPa lo2 hi2 q, FRd rawL 0 w.heap.size A l] ++ hs2.map hlF)) (fun (j, _) => q.reps.length - j) (0, hs, A1, c1) ⟨by omega, by simp [highsL], by omega, hhlo, L1, ho, H⟩ (sl2 rfl rfl) ?_
    rintro ⟨j, hs2, A2, c2⟩ ρ2 w40 ⟨hj, hhe, hjl, hhlo2, L2, ho2, H⟩
    show CW _ _ _ _ (updL (ovr _ _ ρ2) [(176, .int .i64 (j : Nat)), (16, .slice A2 hs2.length c2)]) w40
    refine cw_seq ?_
    refine cw_region ?_
    refine lwD (lss_r rfl rfl) rfl rfl rfl (fun h177 => ?_) (fun h177 => ?_)
    ·
     refine lw_nil ?_
     refine cw_seq ?_
     refine cw_true rfl ?_
     refine cw_skip ?_
     refine cw_seq ?_
     refine cw_block ?_
     refine cw_seq ?_
     obtain ⟨y, hy⟩ : ∃ y, q.reps[j]? = some y := ⟨_, List.getElem?_eq_getElem (by omega)⟩
     have hyo := Pa.repOk hqok hy
     refine cw_region ?_
     refine ixF H 0 rfl sl_LReplica rfl rfl (by omega) (by omega) rfl ?_; intro b41 o41 x41 e41
     obtain rfl : y = x41 := by have := e41.at_; rw [hy] at this; exact Option.some.inj this
     refine l1 (ldA_r (xs := Rep.c y) agg_Replica rfl rfl e41.cl) rfl rfl rfl ?_
     refine alo H z_Replica rfl ?_; intro w42 b24 H
     refine stN H 0 (#[.bool (y.up), .slice y.A ((flat y.es).length) y.cap, .int .i64 (((lsz y.es y.s : Nat) : Int)), .int .i64 (y.high)]) siz_Replica rfl rfl rfl rfl rfl (by kernel_rfl) (by kernel_rfl) ?_; intro w43 H
     refine lw_nil ?_
     refine cw_seq ?_
     refine cw_region ?_
     refine l1 (fad_r fd_Replica_1 rfl) rfl rfl rfl ?_
     refine l1 (ldS_r 1 [.slice y.A ((flat y.es).length) y.cap, .int .i64 (((lsz y.es y.s : Nat) : Int))] agg_Log rfl rfl (H.ent (i := 0) rfl) rfl) rfl rfl rfl ?_
     refine cal cb_seg_Entries (segEntries_at y.A y.cap y.es y.s _ (Pa.log (Hp.pa H 1 rfl) hqok (i := j) hy)) rfl rfl ?_
     have hloen := H.size
     rintro _ w44 ⟨Aen, cen, rfl, hren, hcen, hben⟩; replace H := H.learnRd hben hren; clear hren hben
     refine l1 (mvU_r rfl) rfl rfl rfl ?_
     refine l1 (exS_r rfl rfl) rfl rfl rfl ?_
     refine l1 (exI_r rfl rfl) rfl rfl rfl ?_
     refine l1 (exI_r rfl rfl) rfl rfl rfl ?_
     refine l1 (asS_r rfl) rfl rfl rfl ?_
     refine l1 (asI_r rfl) rfl rfl rfl ?_
     refine l1 (asI_r rfl) rfl rfl rfl ?_
     refine lw_nil ?_
     refine cw_seq ?_
     refine cw_region ?_
     refine l1 (fad_r fd_Replica_2 rfl) rfl rfl rfl ?_
     refine l1 (ld_r one_int rfl (cellE (H.ent (i := 0) rfl) rfl)) rfl rfl rfl ?_
     refine lwD (gtr_r rfl rfl) rfl rfl rfl (fun h189 => ?_) (fun h189 => ?_)
     ·
      refine l1 (mvB_r rfl) rfl rfl rfl ?_
      refine lwG rfl ?_
      refine l1 (fad_r fd_Replica_2 rfl) rfl rfl rfl ?_
      refine lwG rfl ?_
      refine l1 (ld_r one_int rfl (cellE (H.ent (i := 0) rfl) rfl)) rfl rfl rfl ?_
      refine lwG rfl ?_
      refine l1 (mvS_r rfl) rfl rfl rfl ?_
      refine lwG rfl ?_
      refine l1 (lenS_r len_LEntry rfl) rfl rfl rfl ?_
      refine lwG rfl ?_
      refine l1 (leqT_r rfl rfl (by have := hyo.2.2; omega)) rfl rfl rfl ?_
      refine l1 (pkTB_r rfl rfl) rfl rfl rfl ?_
      refine lw_nil ?_
      refine cw_true rfl ?_
      refine cw_region ?_
      refine l1 (mvS_r rfl) rfl rfl rfl ?_
      refine l1 (mvS_r rfl) rfl rfl rfl ?_
      refine l1 (fad_r fd_Replica_2 rfl) rfl rfl rfl ?_
      refine l1 (ld_r one_int rfl (cellE (H.ent (i := 0) rfl) rfl)) rfl rfl rfl ?_
      obtain ⟨hn, hnn⟩ : ∃ hn : Nat, y.high = hn := ⟨y.high.toNat, by omega⟩
      refine sliHiF (k := hn) H 0 rfl sl_LEntry rfl (congrArg (Value.int .i64) hnn) hcen (by have := hyo.2.2; omega) rfl ?_; intro A201 H
      obtain ⟨ts, hts⟩ : ∃ ts, y.es.take hn = ts := ⟨_, rfl⟩
      rw [hts] at H
      have htl : hn = ts.length := by rw [← hts, List.length_take]; have := hyo.2.2; omega
      subst htl
      refine bsv (vs := [.slice A201 ts.length cen]) H sl_LLEntry z_LEntry rfl rfl rfl rfl rfl rfl ?_; intro w45 b202 H
      refine apO (Y := hlL) ap_LLEntry (K := [(b202, _), (b24, _), (b13, _), (b10, _)]) (L := L2) (M := []) H ho2 (news := [⟨A201, cen, ts, w43.heap.size, w44.heap.size⟩]) rfl rfl rfl (Src.row (m := 1) (sz := hlL.sz) (H.ent (i := 0) rfl) rfl) (by simp only [List.length_singleton]; omega) rfl ?_
      intro A203 c203 w46 L203 h203 _ ho203 H
      refine l1 (asS_r rfl) rfl rfl rfl ?_
      refine lw_nil ?_
      refine cw_region ?_
      refine l1 (add_r rfl rfl (by omega) (by omega)) rfl rfl rfl ?_
      refine l1 (mvI_r rfl) rfl rfl rfl ?_
      refine lw_nil ?_
      have hhy : highs1 y.a = [ts] := by unfold highs1; rw [if_pos ⟨h189, by have := hyo.2.2; exact this⟩]; show [y.es.take y.high.toNat] = [ts]; rw [hnn, Int.toNat_natCast, hts]
      refine ⟨(j + 1, hs2 ++ [⟨A201, cen, ts, w43.heap.size, w44.heap.size⟩], A203, c203), ⟨by omega, ?_, by rw [List.length_append, List.length_singleton]; omega, ?_, L203, ho203, H.forget (.cons _ (.cons _ (List.Sublist.refl _))) (fun f hf => by simp only [List.map_append, List.map_cons, List.map_nil, List.mem_cons, List.mem_append, List.mem_nil_iff, or_false] at hf ⊢; grind)⟩, sl2 rfl rfl, by repeat (first | exact Agr.refl _ _ | exact agr_ovr | refine agr_upd rfl ?_ | refine agr_updL _ rfl ?_ | refine agr_ovr2 rfl ?_), by show q.reps.length - (j + 1) < q.reps.length - j; omega⟩
      ·
       rw [highs_step (show q.a.reps[j]? = some y.a by simp [Pa.a, hy]), hhy, ← List.append_assoc, ← hhe]; simp
      ·
       intro h hh; rcases List.mem_append.1 hh with hh | hh; exact hhlo2 h hh; rw [List.mem_singleton.1 hh]; exact ⟨hloen, by dsimp only; have := hyo.2.2; omega, by dsimp only; have := hyo.2.2; have := hyo.1.len; omega⟩
     ·
      refine l1 (mvB_r rfl) rfl rfl rfl ?_
      refine lwN rfl rfl rfl ?_
      refine lwN rfl rfl rfl ?_
      refine lwN rfl rfl rfl ?_
      refine lwN rfl rfl rfl ?_
      refine lwN rfl rfl rfl ?_
      refine l1 (pkFB_r rfl rfl) rfl rfl rfl ?_
      refine lw_nil ?_
      refine cw_false rfl ?_
      refine cw_skip ?_
      refine cw_region ?_
      refine l1 (add_r rfl rfl (by omega) (by omega)) rfl rfl rfl ?_
      refine l1 (mvI_r rfl) rfl rfl rfl ?_
      refine lw_nil ?_
      have hhy : highs1 y.a = [] := by unfold highs1; rw [if_neg (by intro h; exact h189 h.1)]
      refine ⟨(j + 1, hs2, A2, c2), ⟨by omega, by rw [highs_step (show q.a.reps[j]? = some y.a by simp [Pa.a, hy]), hhy, List.append_nil]; exact hhe, by omega, hhlo2, L2, ho2, H.forget (.cons _ (List.Sublist.refl _)) (fun f hf => by simp only [List.mem_cons, List.mem_append] at hf ⊢; grind)⟩, sl2 rfl rfl, by repeat (first | exact Agr.refl _ _ | exact agr_ovr | refine agr_upd rfl ?_ | refine agr_updL _ rfl ?_ | refine agr_ovr2 rfl ?_), by show q.reps.length - (j + 1) < q.reps.length - j; omega⟩
    ·
     refine lw_nil ?_
     refine cw_seq ?_
     refine cw_false rfl ?_
     refine cw_exit ?_
     refine cw_region ?_
     refine l1 (mvI_r rfl) rfl rfl rfl ?_
     refine l1 (add_r rfl rfl (by omega) (by omega)) rfl rfl rfl ?_
     refine l1 (asI_r rfl) rfl rfl rfl ?_
     refine lw_nil ?_
     refine ⟨(i + 1, q, seqA seq x, hs2, A2, c2, lo2, hi2), ⟨by omega, by omega, ?_, by omega, hhlo2, hloq, L2, ho2, H.forget (List.Sublist.refl _) (fun f hf => by simp only [List.mem_cons, List.mem_append] at hf ⊢; grind)⟩, sl3 rfl rfl rfl, by repeat (first | exact Agr.refl _ _ | exact agr_ovr | refine agr_upd rfl ?_ | refine agr_updL _ rfl ?_ | refine agr_ovr2 rfl ?_), by show l.length - (i + 1) < l.length - i; omega⟩
     rw [playA_snoc hx, hpl]; unfold playS; rw [← haq, hhe, List.take_of_length_le (by simp [Pa.a]; omega)]
   ·
    refine lw_nil ?_
    refine cw_cut (τ := Pa × Nat × Nat) [172] (fun _ => []) (fun (q, lo2, hi2) w' => q.a = nextA n hard p.a seq x ∧ w.heap.size ≤ lo2 ∧ Hp w w' ([(b13, .cells #[.int .i64 (q.epoch), .int .i64 (q.leader), .slice q.iA q.isr.length q.iC, .slice q.kA q.known.length q.kC, .slice q.rA q.reps.length q.rC, .int .i64 (q.few), .int .i64 (q.base)] T_Part (0, 0)), (b10, .cells #[.int .i64 0, .int .i64 0, .slice none 0 0, .slice none 0 0, .slice none 0 0, .int .i64 0, .int .i64 0] T_Part (0, 0))] ++ L1 ++ []) (FPa lo2 hi2 q :: FRd rawL 0 w.heap.size A l :: hs.map hlF)) ?_ ?_
    ·
     skip
     refine cw_false rfl ?_
     refine cw_skip ?_
     exact ⟨(p, lo, hi), ⟨by unfold nextA; rw [if_neg (h171)], hlo, H.forget (.cons _ (List.Sublist.refl _)) (fun f hf => by simp only [List.mem_cons, List.mem_append] at hf ⊢; grind)⟩, sl0, by repeat (first | exact Agr.refl _ _ | exact agr_ovr | refine agr_upd rfl ?_ | refine agr_updL _ rfl ?_ | refine agr_ovr2 rfl ?_)⟩
    rintro ⟨q, lo2, hi2⟩ ρ1 w47 ⟨haq, hloq, H⟩
    obtain ⟨K2, hPl2, hsq2⟩ := play_ok (hard := hard) h1 h5 hf hfn (l.take (i + 1)) (by rw [List.length_take]; omega)
    rw [playA_snoc hx, hpl] at hPl2 hsq2
    have hgd2 := hPl2.gd
    simp only [playS] at hgd2 hsq2
    rw [← haq] at hgd2
    have hqok := hgd2.ok
    have hqn : q.reps.length = n := by have := hgd2.len; simpa [Pa.a] using this
    replace H := Hp.paReps H 0 rfl
    refine cw_seq ?_
    refine cw_region ?_
    refine l1 (fad_r fd_Part_4 rfl) rfl rfl rfl ?_
    refine l1 (ld_r one_LReplica rfl (cellE (H.ent (i := 0) rfl) rfl)) rfl rfl rfl ?_
    refine l1 (lenS_r len_LReplica rfl) rfl rfl rfl ?_
    refine l1 (mvI_r rfl) rfl rfl rfl ?_
    refine lw_nil ?_
    refine cw_block ?_
    refine cw_loop (τ := Nat × List Hl × Option Addr × Nat) [16, 24, 25, 26, 27, 176, 177, 178, 179, 180, 181, 182, 183, 184, 185, 186, 187, 188, 189, 190, 191, 192, 193, 194, 195, 196, 197, 198, 199, 200, 201, 202, 203, 204] (fun (j, hs2, A2, c2) => [(176, .int .i64 (j : Nat)), (16, .slice A2 hs2.length c2)]) (fun (j, hs2, A2, c2) w' => j ≤ q.reps.length ∧ hs2.map Hl.es = hs.map Hl.es ++ highsL (q.a.reps.take j) ∧ hs2.length ≤ hs.length + j ∧ (∀ h ∈ hs2, w.heap.size ≤ h.lo ∧ h.es.length ≤ h.cap ∧ h.es.length ≤ 400) ∧ ∃ L2, Own hlL (.slice A2 hs2.length c2) T_LEntry hs2 L2 ∧ Hp w w' ([(b13, .cells #[.int .i64 (q.epoch), .int .i64 (q.leader), .slice q.iA q.isr.length q.iC, .slice q.kA q.known.length q.kC, .slice q.rA q.reps.length q.rC, .int .i64 (q.few), .int .i64 (q.base)] T_Part (0, 0)), (b10, .cells #[.int .i64 0, .int .i64 0, .slice none 0 0, .slice none 0 0, .slice none 0 0, .int .i64 0, .int .i64 0] T_Part (0, 0))] ++ L2 ++ []) ([FRd repL lo2 hi2 q.rA q.reps, FPa lo2 hi2 q, FRd rawL 0 w.heap.size A l] ++ hs2.map hlF)) (fun (j, _) => q.reps.length - j) (0, hs, A1, c1) ⟨by omega, by simp [highsL], by omega, hhlo, L1, ho, H⟩ (sl2 rfl rfl) ?_
    rintro ⟨j, hs2, A2, c2⟩ ρ2 w48 ⟨hj, hhe, hjl, hhlo2, L2, ho2, H⟩
    show CW _ _ _ _ (updL (ovr _ _ ρ2) [(176, .int .i64 (j : Nat)), (16, .slice A2 hs2.length c2)]) w48
    refine cw_seq ?_
    refine cw_region ?_
    refine lwD (lss_r rfl rfl) rfl rfl rfl (fun h177 => ?_) (fun h177 => ?_)
    ·
     refine lw_nil ?_
     refine cw_seq ?_
     refine cw_true rfl ?_
     refine cw_skip ?_
     refine cw_seq ?_
     refine cw_block ?_
     refine cw_seq ?_
     obtain ⟨y, hy⟩ : ∃ y, q.reps[j]? = some y := ⟨_, List.getElem?_eq_getElem (by omega)⟩
     have hyo := Pa.repOk hqok hy
     refine cw_region ?_
     refine ixF H 0 rfl sl_LReplica rfl rfl (by omega) (by omega) rfl ?_; intro b49 o49 x49 e49
     obtain rfl : y = x49 := by have := e49.at_; rw [hy] at this; exact Option.some.inj this
     refine l1 (ldA_r (xs := Rep.c y) agg_Replica rfl rfl e49.cl) rfl rfl rfl ?_
     refine alo H z_Replica rfl ?_; intro w50 b24 H
     refine stN H 0 (#[.bool (y.up), .slice y.A ((flat y.es).length) y.cap, .int .i64 (((lsz y.es y.s : Nat) : Int)), .int .i64 (y.high)]) siz_Replica rfl rfl rfl rfl rfl (by kernel_rfl) (by kernel_rfl) ?_; intro w51 H
     refine lw_nil ?_
     refine cw_seq ?_
     refine cw_region ?_
     refine l1 (fad_r fd_Replica_1 rfl) rfl rfl rfl ?_
     refine l1 (ldS_r 1 [.slice y.A ((flat y.es).length) y.cap, .int .i64 (((lsz y.es y.s : Nat) : Int))] agg_Log rfl rfl (H.ent (i := 0) rfl) rfl) rfl rfl rfl ?_
     refine cal cb_seg_Entries (segEntries_at y.A y.cap y.es y.s _ (Pa.log (Hp.pa H 1 rfl) hqok (i := j) hy)) rfl rfl ?_
     have hloen := H.size
     rintro _ w52 ⟨Aen, cen, rfl, hren, hcen, hben⟩; replace H := H.learnRd hben hren; clear hren hben
     refine l1 (mvU_r rfl) rfl rfl rfl ?_
     refine l1 (exS_r rfl rfl) rfl rfl rfl ?_
     refine l1 (exI_r rfl rfl) rfl rfl rfl ?_
     refine l1 (exI_r rfl rfl) rfl rfl rfl ?_
     refine l1 (asS_r rfl) rfl rfl rfl ?_
     refine l1 (asI_r rfl) rfl rfl rfl ?_
     refine l1 (asI_r rfl) rfl rfl rfl ?_
     refine lw_nil ?_
     refine cw_seq ?_
     refine cw_region ?_
     refine l1 (fad_r fd_Replica_2 rfl) rfl rfl rfl ?_
     refine l1 (ld_r one_int rfl (cellE (H.ent (i := 0) rfl) rfl)) rfl rfl rfl ?_
     refine lwD (gtr_r rfl rfl) rfl rfl rfl (fun h189 => ?_) (fun h189 => ?_)
     ·
      refine l1 (mvB_r rfl) rfl rfl rfl ?_
      refine lwG rfl ?_
      refine l1 (fad_r fd_Replica_2 rfl) rfl rfl rfl ?_
      refine lwG rfl ?_
      refine l1 (ld_r one_int rfl (cellE (H.ent (i := 0) rfl) rfl)) rfl rfl rfl ?_
      refine lwG rfl ?_
      refine l1 (mvS_r rfl) rfl rfl rfl ?_
      refine lwG rfl ?_
      refine l1 (lenS_r len_LEntry rfl) rfl rfl rfl ?_
      refine lwG rfl ?_
      refine l1 (leqT_r rfl rfl (by have := hyo.2.2; omega)) rfl rfl rfl ?_
      refine l1 (pkTB_r rfl rfl) rfl rfl rfl ?_
      refine lw_nil ?_
      refine cw_true rfl ?_
      refine cw_region ?_
      refine l1 (mvS_r rfl) rfl rfl rfl ?_
      refine l1 (mvS_r rfl) rfl rfl rfl ?_
      refine l1 (fad_r fd_Replica_2 rfl) rfl rfl rfl ?_
      refine l1 (ld_r one_int rfl (cellE (H.ent (i := 0) rfl) rfl)) rfl rfl rfl ?_
      obtain ⟨hn, hnn⟩ : ∃ hn : Nat, y.high = hn := ⟨y.high.toNat, by omega⟩
      refine sliHiF (k := hn) H 0 rfl sl_LEntry rfl (congrArg (Value.int .i64) hnn) hcen (by have := hyo.2.2; omega) rfl ?_; intro A201 H
      obtain ⟨ts, hts⟩ : ∃ ts, y.es.take hn = ts := ⟨_, rfl⟩
      rw [hts] at H
      have htl : hn = ts.length := by rw [← hts, List.length_take]; have := hyo.2.2; omega
      subst htl
      refine bsv (vs := [.slice A201 ts.length cen]) H sl_LLEntry z_LEntry rfl rfl rfl rfl rfl rfl ?_; intro w53 b202 H
      refine apO (Y := hlL) ap_LLEntry (K := [(b202, _), (b24, _), (b13, _), (b10, _)]) (L := L2) (M := []) H ho2 (news := [⟨A201, cen, ts, w51.heap.size, w52.heap.size⟩]) rfl rfl rfl (Src.row (m := 1) (sz := hlL.sz) (H.ent (i := 0) rfl) rfl) (by simp only [List.length_singleton]; omega) rfl ?_
      intro A203 c203 w54 L203 h203 _ ho203 H
      refine l1 (asS_r rfl) rfl rfl rfl ?_
      refine lw_nil ?_
      refine cw_region ?_
      refine l1 (add_r rfl rfl (by omega) (by omega)) rfl rfl rfl ?_
      refine l1 (mvI_r rfl) rfl rfl rfl ?_
      refine lw_nil ?_
      have hhy : highs1 y.a = [ts] := by unfold highs1; rw [if_pos ⟨h189, by have := hyo.2.2; exact this⟩]; show [y.es.take y.high.toNat] = [ts]; rw [hnn, Int.toNat_natCast, hts]
      refine ⟨(j + 1, hs2 ++ [⟨A201, cen, ts, w51.heap.size, w52.heap.size⟩], A203, c203), ⟨by omega, ?_, by rw [List.length_append, List.length_singleton]; omega, ?_, L203, ho203, H.forget (.cons _ (.cons _ (List.Sublist.refl _))) (fun f hf => by simp only [List.map_append, List.map_cons, List.map_nil, List.mem_cons, List.mem_append, List.mem_nil_iff, or_false] at hf ⊢; grind)⟩, sl2 rfl rfl, by repeat (first | exact Agr.refl _ _ | exact agr_ovr | refine agr_upd rfl ?_ | refine agr_updL _ rfl ?_ | refine agr_ovr2 rfl ?_), by show q.reps.length - (j + 1) < q.reps.length - j; omega⟩
      ·
       rw [highs_step (show q.a.reps[j]? = some y.a by simp [Pa.a, hy]), hhy, ← List.append_assoc, ← hhe]; simp
      ·
       intro h hh; rcases List.mem_append.1 hh with hh | hh; exact hhlo2 h hh; rw [List.mem_singleton.1 hh]; exact ⟨hloen, by dsimp only; have := hyo.2.2; omega, by dsimp only; have := hyo.2.2; have := hyo.1.len; omega⟩
     ·
      refine l1 (mvB_r rfl) rfl rfl rfl ?_
      refine lwN rfl rfl rfl ?_
      refine lwN rfl rfl rfl ?_
      refine lwN rfl rfl rfl ?_
      refine lwN rfl rfl rfl ?_
      refine lwN rfl rfl rfl ?_
      refine l1 (pkFB_r rfl rfl) rfl rfl rfl ?_
      refine lw_nil ?_
      refine cw_false rfl ?_
      refine cw_skip ?_
      refine cw_region ?_
      refine l1 (add_r rfl rfl (by omega) (by omega)) rfl rfl rfl ?_
      refine l1 (mvI_r rfl) rfl rfl rfl ?_
      refine lw_nil ?_
      have hhy : highs1 y.a = [] := by unfold highs1; rw [if_neg (by intro h; exact h189 h.1)]
      refine ⟨(j + 1, hs2, A2, c2), ⟨by omega, by rw [highs_step (show q.a.reps[j]? = some y.a by simp [Pa.a, hy]), hhy, List.append_nil]; exact hhe, by omega, hhlo2, L2, ho2, H.forget (.cons _ (List.Sublist.refl _)) (fun f hf => by simp only [List.mem_cons, List.mem_append] at hf ⊢; grind)⟩, sl2 rfl rfl, by repeat (first | exact Agr.refl _ _ | exact agr_ovr | refine agr_upd rfl ?_ | refine agr_updL _ rfl ?_ | refine agr_ovr2 rfl ?_), by show q.reps.length - (j + 1) < q.reps.length - j; omega⟩
    ·
     refine lw_nil ?_
     refine cw_seq ?_
     refine cw_false rfl ?_
     refine cw_exit ?_
     refine cw_region ?_
     refine l1 (mvI_r rfl) rfl rfl rfl ?_
     refine l1 (add_r rfl rfl (by omega) (by omega)) rfl rfl rfl ?_
     refine l1 (asI_r rfl) rfl rfl rfl ?_
     refine lw_nil ?_
     refine ⟨(i + 1, q, seqA seq x, hs2, A2, c2, lo2, hi2), ⟨by omega, by omega, ?_, by omega, hhlo2, hloq, L2, ho2, H.forget (List.Sublist.refl _) (fun f hf => by simp only [List.mem_cons, List.mem_append] at hf ⊢; grind)⟩, sl3 rfl rfl rfl, by repeat (first | exact Agr.refl _ _ | exact agr_ovr | refine agr_upd rfl ?_ | refine agr_updL _ rfl ?_ | refine agr_ovr2 rfl ?_), by show l.length - (i + 1) < l.length - i; omega⟩
     rw [playA_snoc hx, hpl]; unfold playS; rw [← haq, hhe, List.take_of_length_le (by simp [Pa.a]; omega)]
  ·
   refine l1 (pkTB_r rfl rfl) rfl rfl rfl ?_
   refine l1 (mvB_r rfl) rfl rfl rfl ?_
   refine lwN rfl rfl rfl ?_
   refine lwN rfl rfl rfl ?_
   refine l1 (pkFB_r rfl rfl) rfl rfl rfl ?_
   refine l1 (mvB_r rfl) rfl rfl rfl ?_
   refine lwN rfl rfl rfl ?_
   refine lwN rfl rfl rfl ?_
   refine l1 (pkFB_r rfl rfl) rfl rfl rfl ?_
   refine lw_nil ?_
   refine cw_false rfl ?_
   refine cw_exit ?_
   refine cw_seq ?_
   refine cw_region ?_
   refine l1 (ldW_r agg_Part rfl (H.ent (i := 0) rfl) rfl) rfl rfl rfl ?_
   refine l1 (mvS_r rfl) rfl rfl rfl ?_
   refine l1 (mvI_r rfl) rfl rfl rfl ?_
   refine l1 (eqlT_r rfl rfl rfl) rfl rfl rfl ?_
   refine l1 (mvB_r rfl) rfl rfl rfl ?_
   refine lwG rfl ?_
   refine l1 (mvI_r rfl) rfl rfl rfl ?_
   refine lwG rfl ?_
   refine l1 (eqlT_r rfl rfl rfl) rfl rfl rfl ?_
   refine l1 (pkTB_r rfl rfl) rfl rfl rfl ?_
   refine stN H 1 (#[.int .i64 (p.epoch), .int .i64 (p.leader), .slice p.iA p.isr.length p.iC, .slice p.kA p.known.length p.kC, .slice p.rA p.reps.length p.rC, .int .i64 (p.few), .int .i64 (p.base)]) siz_Part rfl rfl rfl rfl rfl (by kernel_rfl) (by kernel_rfl) ?_; intro w55 H
   refine l1 (asS_r rfl) rfl rfl rfl ?_
   refine l1 (asB_r rfl) rfl rfl rfl ?_
   refine lw_nil ?_
   refine cw_ret ?_
   have htk : l.take i = l.take most := by
    by_cases hh : i = most
    ·
     rw [hh]
    ·
     rw [List.take_of_length_le (by omega), List.take_of_length_le (by omega)]
   obtain ⟨_, _, e9, hcl, _⟩ := ho.form
   cases e9
   exact finCTT (cs0 := #[.int .i64 (p.epoch), .int .i64 (p.leader), .slice p.iA p.isr.length p.iC, .slice p.kA p.known.length p.kC, .slice p.rA p.reps.length p.rC, .int .i64 (p.few), .int .i64 (p.base)]) (v1 := .slice A1 hs.length c1) (v2 := .bool true) rfl agg_Part rfl (H.ent (i := 1) rfl) rfl rfl rfl ⟨p, hs, A1, c1, rfl, by rw [← htk, hpl], Pa.rd.mono (H.fact (i := 0) rfl) hlo (H.facts _ (List.mem_of_getElem? (i := 0) rfl)).2.1, ho.rd (K := [_, _]) (M := []) H, ⟨hcl, by omega, fun h hh => (hhlo h hh).2⟩, fun h hh => by obtain ⟨f1, f2, -⟩ := H.facts (hlF h) (List.mem_cons_of_mem _ (List.mem_cons_of_mem _ (List.mem_map_of_mem hh))); exact Rd.mono f1 (hhlo h hh).1 f2, H.below⟩
 ·
  refine l1 (mvB_r rfl) rfl rfl rfl ?_
  refine lwN rfl rfl rfl ?_
  refine lwN rfl rfl rfl ?_
  refine lwN rfl rfl rfl ?_
  refine l1 (pkFB_r rfl rfl) rfl rfl rfl ?_
  refine l1 (mvB_r rfl) rfl rfl rfl ?_
  refine lwN rfl rfl rfl ?_
  refine lwN rfl rfl rfl ?_
  refine l1 (pkFB_r rfl rfl) rfl rfl rfl ?_
  refine l1 (mvB_r rfl) rfl rfl rfl ?_
  refine lwN rfl rfl rfl ?_
  refine lwN rfl rfl rfl ?_
  refine l1 (pkFB_r rfl rfl) rfl rfl rfl ?_
  refine lw_nil ?_
  refine cw_false rfl ?_
  refine cw_exit ?_
  refine cw_seq ?_
  refine cw_region ?_
  refine l1 (ldW_r agg_Part rfl (H.ent (i := 0) rfl) rfl) rfl rfl rfl ?_
  refine l1 (mvS_r rfl) rfl rfl rfl ?_
  refine l1 (mvI_r rfl) rfl rfl rfl ?_
  refine l1 (eqlT_r rfl rfl rfl) rfl rfl rfl ?_
  refine l1 (mvB_r rfl) rfl rfl rfl ?_
  refine lwG rfl ?_
  refine l1 (mvI_r rfl) rfl rfl rfl ?_
  refine lwG rfl ?_
  refine l1 (eqlT_r rfl rfl rfl) rfl rfl rfl ?_
  refine l1 (pkTB_r rfl rfl) rfl rfl rfl ?_
  refine stN H 1 (#[.int .i64 (p.epoch), .int .i64 (p.leader), .slice p.iA p.isr.length p.iC, .slice p.kA p.known.length p.kC, .slice p.rA p.reps.length p.rC, .int .i64 (p.few), .int .i64 (p.base)]) siz_Part rfl rfl rfl rfl rfl (by kernel_rfl) (by kernel_rfl) ?_; intro w56 H
  refine l1 (asS_r rfl) rfl rfl rfl ?_
  refine l1 (asB_r rfl) rfl rfl rfl ?_
  refine lw_nil ?_
  refine cw_ret ?_
  have htk : l.take i = l.take most := by
   by_cases hh : i = most
   ·
    rw [hh]
   ·
    rw [List.take_of_length_le (by omega), List.take_of_length_le (by omega)]
  obtain ⟨_, _, e9, hcl, _⟩ := ho.form
  cases e9
  exact finCTT (cs0 := #[.int .i64 (p.epoch), .int .i64 (p.leader), .slice p.iA p.isr.length p.iC, .slice p.kA p.known.length p.kC, .slice p.rA p.reps.length p.rC, .int .i64 (p.few), .int .i64 (p.base)]) (v1 := .slice A1 hs.length c1) (v2 := .bool true) rfl agg_Part rfl (H.ent (i := 1) rfl) rfl rfl rfl ⟨p, hs, A1, c1, rfl, by rw [← htk, hpl], Pa.rd.mono (H.fact (i := 0) rfl) hlo (H.facts _ (List.mem_of_getElem? (i := 0) rfl)).2.1, ho.rd (K := [_, _]) (M := []) H, ⟨hcl, by omega, fun h hh => (hhlo h hh).2⟩, fun h hh => by obtain ⟨f1, f2, -⟩ := H.facts (hlF h) (List.mem_cons_of_mem _ (List.mem_cons_of_mem _ (List.mem_map_of_mem hh))); exact Rd.mono f1 (hhlo h hh).1 f2, H.below⟩
end Go.Proofs.Ytemnchkebhclpaa
end
