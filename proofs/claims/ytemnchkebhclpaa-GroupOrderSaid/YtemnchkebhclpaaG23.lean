/- G23: a part of the proofs over this seat: what stands in its theorems holds for every input that they name. -/
import Derived.Test.YtemnchkebhclpaaG0B
import Derived.Test.YtemnchkebhclpaaC30e
import Derived.Test.YtemnchkebhclpaaEngZ
open Go.Eng renaming lw_nil → Zn, cw_seq → Zs, cw_region → Zr, cw_skip → Zk, cw_ret → Zt, cw_block → Zb, cw_exit → Zx, mvI_r → Yi, mvB_r → Yb, mvS_r → Ys, mvP_r → Yp, mvT_r → Yt, mvU_r → Yu, mvA_r → Ya, asI_r → Wi, asB_r → Wb, asS_r → Ws, asP_r → Wp, asT_r → Wt, fad_r → Zf, exI_r → Xi, exA_r → Xa, exB_r → Xb, exS_r → Xs, pkTB_r → Kt, pkFB_r → Kf, cw_true → ZT, cw_false → ZF
namespace Go.Proofs.Ytemnchkebhclpaa
open Go Go.Eng Go.RowKit
set_option linter.unusedSimpArgs false
/-- names that come in turn, from the t-th on -/
def nbs (k t i : Nat) : List ByteArray := (List.range i).map fun j => ltr ((j + t) % k)
theorem nbs_len (k t i : Nat) : (nbs k t i).length = i := by simp [nbs]
theorem nbs_succ (k t i : Nat) : nbs k t (i + 1) = nbs k t i ++ [ltr ((i + t) % k)] := by unfold nbs; rw [List.range_succ, List.map_append]; rfl
theorem modk {a k : Nat} (h : a < 2 * k) : a % k = if a < k then a else a - k := by
 split
 ·
  exact Nat.mod_eq_of_lt (by omega)
 ·
  rw [Nat.mod_eq_sub_mod (by omega)]
  exact Nat.mod_eq_of_lt (by omega)
theorem ltr_inj {i j : Nat} (hi : i < 12) (hj : j < 12) (h : ltr i = ltr j) : i = j := by
 have : (List.range 12).all (fun i => (List.range 12).all fun j => !(decide (ltr i = ltr j)) || decide (i = j)) = true := by kernel_rfl
 have h1 := List.all_eq_true.1 (List.all_eq_true.1 this i (by simp; omega)) j (by simp; omega)
 simpa [h] using h1
theorem ord_nbs {k t : Nat} (hk : k ≤ 6) (ht : t < k) : ordN (nbs k t k) = (List.range k).map fun m => (((m + k - t) % k : Nat) : Int) := by
 have : (List.range 7).all (fun k => (List.range k).all fun t => decide (ordN (nbs k t k) = (List.range k).map fun m => (((m + k - t) % k : Nat) : Int))) = true := by kernel_rfl
 have h1 := List.all_eq_true.1 (List.all_eq_true.1 this k (by simp; omega)) t (by simp; omega)
 exact of_decide_eq_true h1
theorem turn_nbs {k t : Nat} (hk : k ≤ 6) (ht : t < k) (q : Nat) : turnOf (nbs k t k) q = (((q % k + k - t) % k : Nat) : Int) := by
 unfold turnOf
 rw [nbs_len, ord_nbs hk ht, List.getD_eq_getElem?_getD, List.getElem?_map, List.getElem?_range (Nat.mod_lt _ (by omega))]
 rfl
theorem parts_nbs {k t p i : Nat} (hk : k ≤ 6) (ht : t < k) (hi : i < k) : partsTo (nbs k t k) p ((i + k - t) % k) = partsTo (nbs k 0 k) p i := by
 unfold partsTo
 refine List.filter_congr fun q hq => ?_
 obtain ⟨d, -, rfl⟩ := upto_mem.1 hq
 rw [Int.toNat_natCast, turn_nbs hk ht, turn_nbs hk (by omega)]
 refine decide_eq_decide.2 ?_
 have hr := Nat.mod_lt d (show k > 0 by omega)
 generalize d % k = r at hr
 rw [modk (a := r + k - t) (by omega), modk (a := r + k - 0) (by omega), modk (a := i + k - t) (by omega)]
 split <;> split <;> split <;> omega
theorem parts_at {P : ByteArray → Prop} {wt : Int} {p m : Nat} {g : Gr} {names : List ByteArray} (h : GrI P wt p m g) (hn : g.ms.map Mem.name = names) {i : Nat} {x : Mem} (hx : g.ms[i]? = some x) : x.parts = partsTo names p i ∧ names[i]? = some x.name := by
 have hil := (getE hx).1
 have h1 : (g.ms.map Mem.parts)[i]? = some x.parts := by rw [List.getElem?_map, hx]; rfl
 rw [h.asg, hn] at h1
 unfold assignL at h1
 have hl : names.length = g.ms.length := by rw [← hn, List.length_map]
 rw [List.getElem?_map, hl, List.getElem?_range hil] at h1
 refine ⟨by injection h1 with h1; exact h1.symm, by rw [← hn, List.getElem?_map, hx]; rfl⟩
theorem order_find {P : ByteArray → Prop} {wt : Int} {p m k t i : Nat} {a b : Gr} {x : Mem} (ha : GrI P wt p m a) (hb : GrI P wt p m b) (hna : a.ms.map Mem.name = nbs k 0 k) (hnb : b.ms.map Mem.name = nbs k t k) (ht : t < k) (hk : k ≤ 6) (hx : a.ms[i]? = some x) : ∃ j y, (b.ms.findIdx? fun q => decide (q.name = x.name)) = some j ∧ b.ms[j]? = some y ∧ y.parts = x.parts := by
 obtain ⟨hxp, hxn⟩ := parts_at ha hna hx
 have hil := (getE hxn).1
 rw [nbs_len] at hil
 have hjk : (i + k - t) % k < k := Nat.mod_lt _ (by omega)
 have hbl : b.ms.length = k := by have := congrArg List.length hnb; rwa [nbs_len, List.length_map] at this
 obtain ⟨y, hy⟩ : ∃ y, b.ms[(i + k - t) % k]? = some y := ⟨_, List.getElem?_eq_getElem (by omega)⟩
 obtain ⟨hyp, hyn⟩ := parts_at hb hnb hy
 have hnn : y.name = x.name := by
  unfold nbs at hxn hyn
  rw [List.getElem?_map, List.getElem?_range hil] at hxn
  rw [List.getElem?_map, List.getElem?_range hjk] at hyn
  injection hxn with hxn
  injection hyn with hyn
  rw [← hxn, ← hyn]
  show ltr (((i + k - t) % k + t) % k) = ltr ((i + 0) % k)
  have h1 := modk (a := i + k - t) (k := k) (by omega)
  have h2 := modk (a := (i + k - t) % k + t) (k := k) (by omega)
  have h3 := modk (a := i + 0) (k := k) (by omega)
  rw [h3, h2, h1]
  congr 1
  split <;> split <;> split <;> omega
 obtain ⟨j, hj⟩ := findM_mem (grOk_iff2.1 hb.ok).2.1.2 (List.mem_of_getElem? hy)
 obtain ⟨h1, h2, -⟩ := findM_some hj
 refine ⟨j, y, ?_, h2, by rw [hyp, hxp, parts_nbs hk ht hil]⟩
 unfold gIdx at h1
 rw [hnn] at h1
 cases hf : b.ms.findIdx? fun q => decide (q.name = x.name) with
 | none => rw [hf] at h1; simp [idxI] at h1
 | some j2 => rw [hf] at h1; simp [idxI] at h1; congr 1; omega
def anyL (s : ByteArray) : Prop := ∃ m, s = ltr m
/-- the next one joins -/
theorem order_join {p k t i : Nat} {g : Gr} (h : GrI anyL 10 p i g) (hn : g.ms.map Mem.name = nbs k t i) (hg : g.gen = i) (hp : p ≤ 4) (hk : k ≤ 6) (ht : t < k) (hi : i < k) : (joinS g.a (ltr ((i + t) % k)) p).2 = 0 ∧ ∀ q : Gr, q.a = (joinS g.a (ltr ((i + t) % k)) p).1 → GrI anyL 10 p (i + 1) q ∧ q.ms.map Mem.name = nbs k t (i + 1) ∧ q.gen = (i + 1 : Nat) := by
 have hm : (i + t) % k < k := Nat.mod_lt _ (by omega)
 have hno : findM g (ltr ((i + t) % k)) = none := findM_no fun x hx he => by
  have h1 : x.name ∈ nbs k t i := hn ▸ List.mem_map_of_mem hx
  unfold nbs at h1
  obtain ⟨j, hj, hje⟩ := List.mem_map.1 h1
  rw [he] at hje
  have hjk : (j + t) % k < k := Nat.mod_lt _ (by omega)
  have := ltr_inj (by omega) (by omega) hje
  have hji : j < i := by simpa using hj
  rw [modk (a := j + t) (by omega), modk (a := i + t) (by omega)] at this
  split at this <;> split at this <;> omega
 have hl : g.ms.length = i := by have := congrArg List.length hn; rwa [nbs_len, List.length_map] at this
 have e : joinS g.a (ltr ((i + t) % k)) p = (asgG { g.a with ms := g.a.ms ++ [newM (ltr ((i + t) % k)) g.a.clock] } p, 0) := by
  unfold joinS
  rw [findM_noneA hno]
  dsimp only
  rw [if_neg (show ¬ g.a.ms.length = 6 by show ¬ (g.ms.map Mem.a).length = 6; rw [List.length_map]; omega)]
 refine ⟨by rw [e], fun q hq => ?_⟩
 have hI := h.a.join (s := ltr ((i + t) % k)) hp (by omega) (ltr_ok (by omega)) ⟨_, rfl⟩ (by rw [e])
 refine ⟨GrI.of_a (hq ▸ hI), ?_, ?_⟩
 ·
  have h1 : q.ms.map Mem.name = q.a.ms.map Mem.name := (mem_a_name q.ms).symm
  rw [h1, hq, e, nbs_succ, ← hn]
  show (asgM (g.ms.map Mem.a ++ [newM (ltr ((i + t) % k)) g.a.clock]) p).map Mem.name = _
  rw [asgM_name, List.map_append, mem_a_name]
  rfl
 ·
  have h1 : q.gen = q.a.gen := rfl
  rw [h1, hq, e]
  show g.gen + 1 = _
  omega
set_option maxHeartbeats 4000000 in
set_option maxRecDepth 10000 in
theorem order_c1_ok (p t : Mem) (b : Nat) (w : World) (hx : w.heap[b]? = some (.cells t.c.toArray T_Member (0, 0))) :
  Ret Try.prog i_tailracekeep_GroupOrder_c1 [.agg p.c.toArray, .pointer (some ⟨b, 0, none⟩)] w fun v w2 => v = .bool (decide (p.name = t.name)) ∧ Below w.heap.size w w2 := by
 refine ret_of fn_tailracekeep_GroupOrder_c1 rfl rfl ?_
 have H := Hp.start w
 have hb := lt_of_heap hx
 refine Zs<|Zr<|bxA H rfl rfl fun w1 b2 H =>Zl (Wb rfl)<|Zn<|Zs<|Zr<|Zl (Zf fd_Member_0 rfl)<|Zl (Zd one_string H 0 rfl rfl rfl)<|Zl (Zf fd_Member_0 rfl)<|Zl (ld_r one_string rfl ((H.below.cell (p := ⟨b, _, none⟩) hb).trans (cellE (j := 0) hx rfl)))<|Zl (seql_r rfl rfl)<|Zl (Wb rfl)<|Zn ?_
 refine Zt ?_
 exact fin1 rfl rfl ⟨rfl, H.below⟩
set_option maxHeartbeats 4000000 in
set_option maxRecDepth 10000 in
theorem groupOrder_ok (k_ n_ t_ : Int) (w : World) (hk : i64 k_) (hn : i64 n_) (ht : i64 t_) : Ret Try.prog i_tailracekeep_GroupOrder [.int .i64 k_, .int .i64 n_, .int .i64 t_] w fun v w2 => v = .bool true ∧ Below w.heap.size w w2 := by
 refine ret_of fn_tailracekeep_GroupOrder rfl rfl ?_
 have H := Hp.start w
 refine Zs<|Zr<|Zl (Wb rfl)<|Zn<|Zs<|Zr<|Zl (Yi rfl)<|cal cb_tailracekeep_picked (picked_ok k_ (6) _ hk.1 hk.2 (by omega) (by omega)) rfl rfl ?_
 rintro _ w1 ⟨rfl, hb⟩; replace H := H.later hb; clear hb
 have hpkk := pk_lt k_ (show 0 < 6 by omega)
 refine Zl (add_r rfl rfl (by omega) (by omega)) ?_
 obtain ⟨k, hk, hk1, hk4⟩ : ∃ k : Nat, (1 : Int) + ((pk k_ (6) : Nat) : Int) = (k : Nat) ∧ 1 ≤ k ∧ k ≤ 6 := ⟨1 + pk k_ (6), by omega, by omega, by omega⟩
 rw [hk]
 refine Zl (Wi rfl)<|Zn<|Zs<|Zr<|Zl (Yi rfl)<|cal cb_tailracekeep_picked (picked_ok n_ (5) _ hn.1 hn.2 (by omega) (by omega)) rfl rfl ?_
 rintro _ w2 ⟨rfl, hb⟩; replace H := H.later hb; clear hb
 have hpk := pk_lt n_ (show 0 < 5 by omega)
 obtain ⟨p, hpd⟩ : ∃ p, pk n_ 5 = p := ⟨_, rfl⟩
 rw [hpd] at hpk ⊢
 refine Zl (Wi rfl)<|Zn<|Zs<|Zr<|cal cb_group_New (gNew_ok 10 _ (by omega) (by omega)) rfl rfl ?_
 rintro _ w3 ⟨rfl, hb⟩; replace H := H.later hb; clear hb
 refine Zl (Yu rfl)<|Zl (Xa rfl rfl)<|Zl (Xi rfl rfl)<|alo H z_Group rfl fun w4 b9 H =>stN H 0 (#[.int .i64 (0), .int .i64 (10), .int .i64 (0), .slice none 0 0, .slice none 0 0]) siz_Group rfl rfl rfl rfl rfl (by kernel_rfl) (by kernel_rfl) fun w5 H =>Zl (Wi rfl)<|Zn<|Zs<|Zr<|cal cb_group_New (gNew_ok 10 _ (by omega) (by omega)) rfl rfl ?_
 rintro _ w6 ⟨rfl, hb⟩; replace H := H.later hb; clear hb
 refine Zl (Yu rfl)<|Zl (Xa rfl rfl)<|Zl (Xi rfl rfl)<|alo H z_Group rfl fun w7 b11 H =>stN H 0 (#[.int .i64 (0), .int .i64 (10), .int .i64 (0), .slice none 0 0, .slice none 0 0]) siz_Group rfl rfl rfl rfl rfl (by kernel_rfl) (by kernel_rfl) fun w8 H =>Zl (Wi rfl)<|Zn<|Zs<|Zs ?_
 have hptk := pk_lt t_ (show 0 < k by omega)
 obtain ⟨t, htd⟩ : ∃ t, pk t_ k = t := ⟨_, rfl⟩
 rw [htd] at hptk
 replace H := H.learn (newGr_rd 10 _).2 (FGr w8.heap.size w8.heap.size ⟨0, 10, 0, [], none, 0, [], none, 0⟩) (newGr_rd 10 _).1 (Nat.le_refl _) (Nat.le_refl _)
 replace H := H.learn (newGr_rd 10 _).2 (FGr w8.heap.size w8.heap.size ⟨0, 10, 0, [], none, 0, [], none, 0⟩) (newGr_rd 10 _).1 (Nat.le_refl _) (Nat.le_refl _)
 refine Zr<|Zl (Yi rfl)<|Zl (Yi rfl)<|Zn<|Zb ?_
 refine cw_loop (τ := Nat × Gr × Gr × Nat × Nat × Nat × Nat) [6, 13, 14, 15, 16, 17, 35, 36, 37, 38, 39, 40, 41, 42, 43, 44, 45, 46, 47, 48, 49, 50, 51, 52, 53, 54, 55, 56, 57, 58, 59, 60, 61, 62, 63, 64, 65, 66, 67, 68, 69, 70, 71, 72] (fun (i, _) => [(35, .int .i64 (i : Nat))]) (fun (i, a, b, lo1, hi1, lo2, hi2) w' => i ≤ k ∧ (GrI anyL 10 p i a ∧ a.ms.map Mem.name = nbs k 0 i ∧ a.gen = i) ∧ (GrI anyL 10 p i b ∧ b.ms.map Mem.name = nbs k t i ∧ b.gen = i) ∧ Hp w w' [(b11, .cells #[.int .i64 (b.clock), .int .i64 (b.wait), .int .i64 (b.gen), .slice b.mA b.ms.length b.mC, .slice b.oA b.os.length b.oC] T_Group (0, 0)), (b9, .cells #[.int .i64 (a.clock), .int .i64 (a.wait), .int .i64 (a.gen), .slice a.mA a.ms.length a.mC, .slice a.oA a.os.length a.oC] T_Group (0, 0))] [FGr lo2 hi2 b, FGr lo1 hi1 a]) (fun (i, _) => k - i) (0, ⟨0, 10, 0, [], none, 0, [], none, 0⟩, ⟨0, 10, 0, [], none, 0, [], none, 0⟩, _, _, _, _) ⟨by omega, ⟨newGr_I _ _ (by decide) (by decide), rfl, rfl⟩, ⟨newGr_I _ _ (by decide) (by decide), rfl, rfl⟩, H⟩ (sl1 rfl) ?_
 rintro ⟨i, a, b, lo1, hi1, lo2, hi2⟩ ρ1 w9 ⟨hi, ⟨hai, han, hag⟩, ⟨hbi, hbn, hbg⟩, H⟩
 show CW _ _ _ _ (updL (ovr _ _ ρ1) [(35, .int .i64 (i : Nat))]) w9
 refine Zs ?_
 have hag0 := hag
 have hbg0 := hbg
 refine Zr ?_
 refine lwD (lss_r rfl rfl) rfl rfl rfl (fun h36 => ?_) (fun h36 => ?_)
 ·
  refine Zn<|Zs<|ZT rfl<|Zk<|Zs<|Zb<|Zs<|Zr<|Zl (Yi rfl)<|Zl (Wi rfl)<|Zn<|Zs<|Zr<|Zl (Yi rfl) ?_
  refine Zl (add_r rfl rfl (by omega) (by omega)) ?_
  have hik : (i + 0) % k = i := Nat.mod_eq_of_lt (by omega)
  rw [show (97 : Int) + (i : Nat) = ((97 + (i + 0) % k : Nat) : Int) by rw [hik]; omega]
  refine Zl (cvI_r (b := ((97 + (i + 0) % k : Nat) : Int)) int_int int_int32 rfl (wrap31 (by omega)))<|Zl (cvIT_r (m := 97 + (i + 0) % k) int_int32 str_string rfl (by omega) (by omega))<|Zl (Wt rfl)<|Zn<|Zs<|Zr<|Zl (Yi rfl)<|Zl (Yi rfl)<|Zl (Yi rfl)<|cal cb_tailracekeep_picked (picked_ok t_ (k : Nat) _ ht.1 ht.2 (by omega) (by omega)) rfl rfl ?_
  rintro _ w10 ⟨rfl, hb⟩; replace H := H.later hb; clear hb
  rw [htd]
  refine Zl (add_r rfl rfl (by omega) (by omega)) ?_
  rw [show ((i : Nat) : Int) + ((t : Nat) : Int) = ((i + t : Nat) : Int) by omega]
  refine Zl (Yi rfl)<|Zl (rem_r rfl rfl (by omega) (by omega)) ?_
  rw [show ((i + t : Nat) : Int) % ((k : Nat) : Int) = (((i + t) % k : Nat) : Int) from (Int.natCast_emod _ _).symm]
  have hmk := Nat.mod_lt (i + t) (show k > 0 by omega)
  refine Zl (add_r rfl rfl (by omega) (by omega)) ?_
  rw [show (97 : Int) + (((i + t) % k : Nat) : Int) = ((97 + (i + t) % k : Nat) : Int) by omega]
  refine Zl (cvI_r (b := ((97 + (i + t) % k : Nat) : Int)) int_int int_int32 rfl (wrap31 (by omega)))<|Zl (cvIT_r (m := 97 + (i + t) % k) int_int32 str_string rfl (by omega) (by omega))<|Zl (Wt rfl)<|Zn<|Zs<|Zr<|Zl (Wi rfl)<|Zl (Wi rfl)<|Zn<|Zs<|Zr<|Zl (Zw agg_Group H 1 rfl rfl rfl)<|Zl (Yt rfl)<|Zl (Yi rfl) ?_
  refine cal cb_group_Join (joinSc_ok a (ltr ((i + 0) % k)) p _ (Hp.gr H 1 rfl) hai.ok (ltr_ok (by omega)) (by omega) (by omega)) rfl rfl ?_
  have hja := order_join hai han hag (by omega) (by omega) (by omega) (show i < k by omega)
  have hloa2 := H.size
  rintro _ w11 ⟨a2, rfl, haa2, hna2⟩; replace H := H.learn hna2.2 (FGr w10.heap.size w11.heap.size a2) hna2.1 (Nat.le_refl _) (Nat.le_refl _); clear hna2
  obtain ⟨ha2i, ha2n, ha2g⟩ := hja.2 a2 haa2
  rw [hja.1]
  refine Zl (Yu rfl)<|Zl (Xa rfl rfl)<|Zl (Xi rfl rfl)<|stN H 1 (#[.int .i64 (a2.clock), .int .i64 (a2.wait), .int .i64 (a2.gen), .slice a2.mA a2.ms.length a2.mC, .slice a2.oA a2.os.length a2.oC]) siz_Group rfl rfl rfl rfl rfl (by kernel_rfl) (by kernel_rfl) fun w12 H =>Zl (Wi rfl)<|Zn<|Zs<|Zr<|Zl (Zw agg_Group H 0 rfl rfl rfl)<|Zl (Yt rfl)<|Zl (Yi rfl)<|cal cb_group_Join (joinSc_ok b (ltr ((i + t) % k)) p _ (Hp.gr H 1 rfl) hbi.ok (ltr_ok (by omega)) (by omega) (by omega)) rfl rfl ?_
  have hjb := order_join hbi hbn hbg (by omega) (by omega) (hptk) (show i < k by omega)
  have hlob2 := H.size
  rintro _ w13 ⟨b2, rfl, hab2, hnb2⟩; replace H := H.learn hnb2.2 (FGr w12.heap.size w13.heap.size b2) hnb2.1 (Nat.le_refl _) (Nat.le_refl _); clear hnb2
  obtain ⟨hb2i, hb2n, hb2g⟩ := hjb.2 b2 hab2
  rw [hjb.1]
  refine Zl (Yu rfl)<|Zl (Xa rfl rfl)<|Zl (Xi rfl rfl)<|stN H 0 (#[.int .i64 (b2.clock), .int .i64 (b2.wait), .int .i64 (b2.gen), .slice b2.mA b2.ms.length b2.mC, .slice b2.oA b2.os.length b2.oC]) siz_Group rfl rfl rfl rfl rfl (by kernel_rfl) (by kernel_rfl) fun w14 H =>Zl (Wi rfl)<|Zn<|Zs<|Zr<|Zl (Yi rfl)<|Zl (neqF_r rfl rfl rfl)<|Zl (Yb rfl)<|ZG<|Zl (Yi rfl)<|ZG ?_
  refine Zl (neqF_r rfl rfl rfl)<|Zl (Kf rfl rfl)<|Zn<|ZF rfl<|Zk<|Zr<|Zl (add_r rfl rfl (by omega) (by omega))<|Zl (Yi rfl)<|Zn ?_
  exact ⟨(i + 1, a2, b2, _, _, _, _), ⟨by omega, ⟨ha2i, ha2n, ha2g⟩, ⟨hb2i, hb2n, hb2g⟩, H.forget (List.Sublist.refl _) (fun f hf => by simp only [List.mem_cons, List.mem_nil_iff, or_false] at hf ⊢; rcases hf with rfl | rfl; exact .inl rfl; exact .inr (.inl rfl))⟩, sl1 rfl, by repeat (first | exact Agr.refl _ _ | exact agr_ovr | refine agr_upd rfl ?_ | refine agr_updL _ rfl ?_ | refine agr_ovr2 rfl ?_), by show k - (i + 1) < k - i; omega⟩
 ·
  refine Zn<|Zs<|ZF rfl<|Zx<|Zs<|Zs ?_
  obtain rfl : i = k := by omega
  have hal := (grOk_iff2.1 hai.ok).1.2.2.2.2.1
  have hbl := (grOk_iff2.1 hbi.ok).1.2.2.2.2.1
  replace H := Hp.grRow H 1 rfl
  replace H := Hp.grRow H (0 + 1) rfl
  refine Zr<|Zl (Zf fd_Group_3 rfl)<|Zl (Zd one_LMember H 1 rfl rfl rfl)<|Zl (lenS_r len_LMember rfl)<|Zl (Yi rfl)<|Zn<|Zb ?_
  refine cw_loop (τ := Nat) [6, 19, 20, 76, 77, 78, 79, 80, 81, 82, 83, 84, 85, 86, 87, 88, 89, 90, 91, 92, 93, 94, 95, 96, 97, 98] (fun j1 => [(76, .int .i64 (j1 : Nat))]) (fun j1 w' => j1 ≤ a.ms.length ∧ Hp w w' [(b11, .cells #[.int .i64 (b.clock), .int .i64 (b.wait), .int .i64 (b.gen), .slice b.mA b.ms.length b.mC, .slice b.oA b.os.length b.oC] T_Group (0, 0)), (b9, .cells #[.int .i64 (a.clock), .int .i64 (a.wait), .int .i64 (a.gen), .slice a.mA a.ms.length a.mC, .slice a.oA a.os.length a.oC] T_Group (0, 0))] [FRd memL lo2 hi2 b.mA b.ms, FRd memL lo1 hi1 a.mA a.ms, FGr lo2 hi2 b, FGr lo1 hi1 a]) (fun j1 => a.ms.length - j1) 0 ⟨by omega, H⟩ (sl1 rfl) ?_
  rintro j1 ρ1 w15 ⟨hj1, H⟩
  show CW _ _ _ _ (updL (ovr _ _ ρ1) [(76, .int .i64 (j1 : Nat))]) w15
  refine Zs<|Zr ?_
  refine lwD (lss_r rfl rfl) rfl rfl rfl (fun h77 => ?_) (fun h77 => ?_)
  ·
   refine Zn<|Zs<|ZT rfl<|Zk<|Zs<|Zb<|Zs ?_
   obtain ⟨x, hx⟩ : ∃ x, a.ms[j1]? = some x := ⟨_, List.getElem?_eq_getElem (by omega)⟩
   refine Zr<|ixF H 1 rfl sl_LMember rfl rfl (by omega) (by omega) rfl fun bq16 o16 x16 e16 => ?_
   obtain rfl : x = x16 := by have := e16.at_; rw [hx] at this; exact Option.some.inj this
   refine Zl (ldA_r (xs := Mem.c x) agg_Member rfl rfl e16.cl)<|alo H z_Member rfl fun w17 b19 H =>stN H 0 (#[.string (x.name), .int .i64 (x.heard), .slice x.A x.parts.length x.cap]) siz_Member rfl rfl rfl rfl rfl (by kernel_rfl) (by kernel_rfl) fun w18 H =>Zn<|Zs ?_
   have hxm := List.mem_of_getElem? hx
   replace H := Hp.grParts H 3 rfl hxm
   refine Zr<|Zl (Zf fd_Group_3 rfl)<|Zl (Zd one_LMember H 1 rfl rfl rfl)<|Zl (mkf_r rfl)<|cal cb_slices_IndexFunc_LMember_Member (indexFunc_Member_ok b.ms _ _ _ (H.rd0 1 rfl) (by omega) i_tailracekeep_GroupOrder_c1 [.pointer (some ⟨b19, 0, none⟩)] cb_tailracekeep_GroupOrder_c1 (fun q => decide (q.name = x.name)) (fun e w2 _ hw2 => order_c1_ok e x b19 w2 ((hw2.block _ (lt_of_heap (H.ent (i := 0) rfl))).trans (H.ent (i := 0) rfl)))) rfl rfl ?_
   rintro _ w19 ⟨rfl, hb⟩; replace H := H.later hb; clear hb
   obtain ⟨j, y, hfj, hy, hye⟩ := order_find hai hbi han hbn hptk (by omega) hx
   have hym := List.mem_of_getElem? hy
   have hjl := (getE hy).1
   rw [hfj, show idxI (some j) = ((j : Nat) : Int) from rfl]
   replace H := Hp.grParts H 3 rfl hym
   refine Zl (Wi rfl)<|Zn<|Zs ?_
     
   refine cw_draw mixed [0, 1, 2, 3, 4, 5, 6, 7, 8, 9, 10, 11, 12, 13] [] [11] [0, 1, 2, 3, 5, 7, 8, 9, 12, 13] (sp [(11, Sp.one (.bool true))]) (by kernel_rfl) (by kernel_rfl) (by kernel_rfl) (by kernel_rfl) (fun _ _ _ h => h) (sp_st _) ?_
   refine aw rfl rfl rfl rfl rfl (fun w' hw' => Yi rfl)<|aw rfl rfl rfl rfl rfl (fun w' hw' => lssF_r rfl rfl (by omega))<|aw rfl rfl rfl rfl rfl (fun w' hw' => Yb rfl)<|aw rfl rfl rfl rfl rfl (fun w' hw' => Zf fd_Member_2 rfl)<|aw rfl rfl rfl rfl rfl (fun w' hw' => ld_r one_Lint rfl (cellE ((H.later hw').ent (i := 0) rfl) rfl))<|aw rfl rfl rfl rfl rfl (fun w' hw' => Zf fd_Group_3 rfl)<|aw rfl rfl rfl rfl rfl (fun w' hw' => ld_r one_LMember rfl (cellE ((H.later hw').ent (i := 1) rfl) rfl))<|aw rfl rfl rfl rfl rfl (fun w' hw' => Yi rfl)<|awIxF H 2 rfl rfl rfl rfl rfl sl_LMember rfl rfl (by omega) (by omega) fun bq20 o20 x20 e20 => ?_
   obtain rfl : y = x20 := by have := e20.at_; rw [hy] at this; exact Option.some.inj this
   refine aw rfl rfl rfl rfl rfl (fun w' hw' => Zf fd_Member_2 rfl)<|aw rfl rfl rfl rfl rfl (fun w' hw' => ld_r one_Lint rfl (e20.later hw' 2 _ rfl))<|awCalV cb_slices_Equal_Lint_int rfl rfl rfl rfl rfl (fun w' hw' => (by have hE := eq_int_ok x.parts y.parts x.A y.A x.cap y.cap w' ((H.later hw').rd0 1 rfl) ((H.later hw').rd0 0 rfl) (by have := partsOk_few (memOk_iff.1 ((grOk_iff2.1 hai.ok).2.1.1 x hxm)).2.2.2; omega); rw [hye, decide_eq_true rfl] at hE; rw [hye]; exact hE)) rfl<|aw rfl rfl rfl rfl rfl (fun w' hw' => not_r rfl)<|aw rfl rfl rfl rfl rfl (fun w' hw' => Kf rfl rfl)<|aw_nil ?_
   intro w21 hw' hF
   replace H := H.later hw'; clear hw' hF
   refine Zn<|ZF rfl<|Zk<|Zr<|Zl (add_r rfl rfl (by omega) (by omega))<|Zl (Yi rfl)<|Zn ?_
   exact ⟨j1 + 1, ⟨by omega, H.forget (.cons _ (List.Sublist.refl _)) (fun f hf => by simp only [List.mem_cons] at hf ⊢; grind)⟩, sl1 rfl, by repeat (first | exact Agr.refl _ _ | exact agr_ovr | refine agr_upd rfl ?_ | refine agr_updL _ rfl ?_ | refine agr_ovr2 rfl ?_), by show a.ms.length - (j1 + 1) < a.ms.length - j1; omega⟩
  ·
   refine Zn<|Zs<|ZF rfl<|Zx<|Zs<|Zr<|Zl (Yi rfl)<|Zl (eqlT_r rfl rfl rfl)<|Zl (Yb rfl)<|ZG<|Zl (Yi rfl)<|ZG<|Zl (eqlT_r rfl rfl rfl)<|Zl (Kt rfl rfl) ?_
   refine Zl (Yb rfl)<|ZG<|Zl (Zf fd_Group_2 rfl)<|ZG<|Zl (Zd one_int H 1 rfl rfl rfl)<|ZG<|Zl (Yi rfl)<|ZG<|Zl (eqlT_r rfl rfl hag)<|Zl (Kt rfl rfl)<|Zl (Yb rfl)<|ZG<|Zl (Zf fd_Group_2 rfl)<|ZG ?_
   refine Zl (Zd one_int H 0 rfl rfl rfl)<|ZG<|Zl (Yi rfl)<|ZG<|Zl (eqlT_r rfl rfl hbg)<|Zl (Kt rfl rfl)<|Zl (Wb rfl)<|Zn<|Zt ?_
   exact fin1 (v := .bool true) rfl rfl ⟨rfl, H.below⟩
end Go.Proofs.Ytemnchkebhclpaa
