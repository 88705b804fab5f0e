/- GI: a part of the proofs over this seat: what stands in its theorems holds for every input that they name. -/
import Derived.Test.YtemnchkebhclpaaGD
import Derived.Test.YtemnchkebhclpaaGE
import Derived.Test.YtemnchkebhclpaaEngZ
open Go.Eng renaming lw_nil → Zn, cw_seq → Zs, cw_region → Zr, cw_skip → Zk, cw_ret → Zt, cw_block → Zb, cw_exit → Zx, mvI_r → Yi, mvB_r → Yb, mvS_r → Ys, mvP_r → Yp, mvT_r → Yt, mvU_r → Yu, mvA_r → Ya, asI_r → Wi, asB_r → Wb, asS_r → Ws, asP_r → Wp, asT_r → Wt, fad_r → Zf, exI_r → Xi, exA_r → Xa, exB_r → Xb, exS_r → Xs, pkTB_r → Kt, pkFB_r → Kf, cw_true → ZT, cw_false → ZF
section
namespace Go.Proofs.Ytemnchkebhclpaa
open Go Go.Eng Go.RowKit
set_option linter.unusedSimpArgs false
theorem txsOk_a (ck nx : Int) : ∀ (l pre : List Tx), txsOk ck nx pre l = txsOk ck nx (pre.map Tx.a) (l.map Tx.a)
 | [], _ => rfl
 | t :: l, pre => by
  rw [List.map_cons]
  unfold txsOk
  have e1 : (pre.map Tx.a).any (sameTx t.a) = pre.any (sameTx t) := by rw [List.any_map]; rfl
  have e2 := txsOk_a ck nx l (pre ++ [t])
  rw [List.map_append] at e2
  rw [e1, e2]
  rfl
theorem coOk_a (c : Co) : coOk c = coOk c.a := by
 unfold coOk
 have := txsOk_a c.clock c.next c.txs []
 rw [this]
 unfold Co.a
 simp
theorem nameIdx_a (c : Co) (s : ByteArray) : nameIdx c s = nameIdx c.a s := by
 unfold nameIdx Co.a
 dsimp only
 rw [List.findIdx?_map]
 rfl
def letter (i : Nat) : ByteArray := ⟨#[UInt8.ofNat (97 + i)]⟩
def pidC (k : Nat) : Co := ⟨0, (k : Nat) + 1, 5, (List.range k).map fun (j : Nat) => newTx (letter j) ((j : Nat) + 1), none, 0⟩
theorem pidC_ok {k : Nat} (h : k ≤ 8) : coOk (pidC k) = true := by
 have : (List.range 9).all (fun k => coOk (pidC k)) = true := by kernel_rfl
 exact List.all_eq_true.1 this k (by simp; omega)
theorem letter_ok {i : Nat} (h : i < 12) : nameOk (letter i) = true ∧ nameIdx (pidC (min i 8)) (letter i) < 0 := by
 have : (List.range 12).all (fun i => nameOk (letter i) && decide (nameIdx (pidC (min i 8)) (letter i) < 0)) = true := by kernel_rfl
 have := List.all_eq_true.1 this i (by simp; omega)
 simpa using this
theorem pidC_succ {k : Nat} : coWith (pidC k) (letter k) = pidC (k + 1) := by
 unfold coWith pidC
 dsimp only
 rw [List.range_succ, List.map_append]
 simp
theorem coWith_a (c : Co) (s : ByteArray) : coWith c.a s = coWith c.a s := rfl
theorem pid_facts {c : Co} {k : Nat} (h : c.a = pidC k) : c.txs.length = k ∧ c.next = k + 1 ∧ ∀ t ∈ c.txs, t.parts = [] := by
 unfold Co.a pidC at h
 simp only [Co.mk.injEq] at h
 obtain ⟨-, h2, -, h4, -, -⟩ := h
 refine ⟨?_, h2, fun t ht => ?_⟩
 ·
  have := congrArg List.length h4
  simpa using this
 ·
  have h5 : t.a ∈ c.txs.map Tx.a := List.mem_map_of_mem ht
  rw [h4] at h5
  obtain ⟨j, _, hj⟩ := List.mem_map.1 h5
  have := congrArg Tx.parts hj
  exact this.symm
theorem Hp.learnAlsoF {w0 w w' : World} {L : List (Nat × Obj)} {F F0 : List Fact} (H0 : Hp w0 w L F0) (H : Hp w0 w' L F) (f : Fact) (hf : f.p w') (hlo : w.heap.size ≤ f.lo) (hhi : f.hi ≤ w'.heap.size) : Hp w0 w' L (f :: F) := by
 refine ⟨H.below, H.ents, H.nodup, fun g hg => ?_⟩
 rcases List.mem_cons.1 hg with rfl | hg
 ·
  exact ⟨hf, hhi, fun e he => .inl (by have := H0.ltAll e he; omega)⟩
 ·
  exact H.facts g hg
/-- a coordinator that was made, to be read -/
structure RdCo (w w2 : World) (c : Co) : Prop where
 below : Below w.heap.size w w2
 row : Rd txL w.heap.size w2.heap.size c.A c.txs w2
 parts : ∀ t ∈ c.txs, Rd intL w.heap.size w2.heap.size t.A t.parts w2
 cap : c.txs.length ≤ c.cap
 caps : ∀ t ∈ c.txs, t.parts.length ≤ t.cap
theorem NewCo.rd {w w2 : World} {ca c' : Co} {L' : List (Nat × Obj)} {lo hi : Nat} (h : NewCo w w2 ca c' L' lo hi) : RdCo w w2 c' := by
 obtain ⟨h1, ho, hc, hcs, hlo, hj⟩ := h
 have hf := hj.facts _ (List.mem_cons_self ..)
 have hj0 : Hp w w2 L' [] := hj.forget (List.Sublist.refl _) (by simp)
 refine ⟨hj.below, ho.rd (K := []) (M := []) (by simpa using hj0), fun t ht => Rd.mono (hf.1 t ht) hlo hf.2.1, hc, hcs⟩
theorem RdCo.learn {w0 w w2 : World} {L : List (Nat × Obj)} {F : List Fact} {c : Co} (h : RdCo w w2 c) (H : Hp w0 w L F) : Hp w0 w2 L (FParts w.heap.size w2.heap.size c.txs :: FRd txL w.heap.size w2.heap.size c.A c.txs :: F) :=
 Hp.learnAlsoF H (H.learnRd h.below h.row) (FParts w.heap.size w2.heap.size c.txs) h.parts (Nat.le_refl _) (Nat.le_refl _)
def zCo : Co := ⟨0, 0, 0, [], none, 0⟩
theorem zCo_rd {w w2 : World} (hb : Below w.heap.size w w2) : RdCo w w2 zCo := ⟨hb, Rd.nil, (by intro t ht; cases ht), Nat.le_refl _, (by intro t ht; cases ht)⟩
theorem pid_rd {c : Co} {k : Nat} {w : World} (h : c.a = pidC k) (hk : k ≤ 8) (h1 : Rd txL 0 w.heap.size c.A c.txs w) (h2 : ∀ t ∈ c.txs, Rd intL 0 w.heap.size t.A t.parts w) (h3 : c.txs.length ≤ c.cap) : c.rd 0 w.heap.size w := by
 obtain ⟨a, _, b⟩ := pid_facts h
 exact ⟨h1, h2, h3, by omega, fun t ht => by rw [b t ht]; exact ⟨Nat.zero_le _, Nat.zero_le _⟩⟩
theorem pid_step {c : Co} {i : Nat} {w : World} (h : c.a = pidC (min i 8)) (hi : i < 12) (h1 : Rd txL 0 w.heap.size c.A c.txs w) (h2 : ∀ t ∈ c.txs, Rd intL 0 w.heap.size t.A t.parts w) (h3 : c.txs.length ≤ c.cap) :
  Ret Try.prog i_coord_Init [c.v, .string (letter i)] w fun v w2 => ∃ (c2 : Co) (n e : Int), v = .tuple #[c2.v, .int .i64 n, .int .i64 0, .int .i64 e] ∧ (8 ≤ i → e = 16) ∧ (i < 8 → e = 0 ∧ n = i + 1 ∧ c2.a = pidC (i + 1)) ∧ RdCo w w2 c2 := by
 have hrd := pid_rd h (by omega) h1 h2 h3
 obtain ⟨a, b, -⟩ := pid_facts h
 have hok : coOk c = true := by rw [coOk_a, h]; exact pidC_ok (by omega)
 obtain ⟨l1, l2⟩ := letter_ok hi
 have hix : nameIdx c (letter i) < 0 := by rw [nameIdx_a, h]; exact l2
 by_cases h8 : i < 8
 ·
  refine (coInit_new c (letter i) w hrd hok l1 hix (by omega) (by omega)).mono ?_
  rintro v w2 ⟨c', L', lo, hh, rfl, hN⟩
  refine ⟨c', c.next, 0, rfl, fun h => by omega, fun _ => ⟨rfl, by omega, ?_⟩, hN.rd⟩
  rw [hN.1, h, show min i 8 = i by omega]
  exact pidC_succ
 ·
  refine (coInit_full c (letter i) w hrd hok l1 hix (by omega)).mono ?_
  rintro v w2 ⟨rfl, hb⟩
  exact ⟨zCo, 0, 16, rfl, fun _ => rfl, fun h => absurd h h8, zCo_rd hb⟩
theorem pid_form {c : Co} {k : Nat} {w : World} (h : c.a = pidC k) (hk : k ≤ 8) (h1 : Rd txL 0 w.heap.size c.A c.txs w) (h2 : ∀ t ∈ c.txs, Rd intL 0 w.heap.size t.A t.parts w) (h3 : c.txs.length ≤ c.cap) :
  Ret Try.prog i_coord_Init [c.v, .string ⟨#[68, 101, 101]⟩] w fun v w2 => v = .tuple #[.agg #[.int .i64 0, .int .i64 0, .int .i64 0, .slice none 0 0], .int .i64 0, .int .i64 0, .int .i64 4] ∧ Below w.heap.size w w2 :=
 coInit_form c _ w (pid_rd h hk h1 h2 h3) (by rw [coOk_a, h]; exact pidC_ok hk) (by kernel_rfl)
set_option maxHeartbeats 4000000 in
set_option maxRecDepth 10000 in
theorem coordPids_ok (n_ : Int) (w : World) (ha : i64 n_) : Ret Try.prog i_tailracekeep_CoordPids [.int .i64 n_] w fun v w2 => v = .bool true ∧ Below w.heap.size w w2 := by
 refine ret_of fn_tailracekeep_CoordPids rfl rfl ?_
 have H := Hp.start w
 obtain ⟨ha1, ha2⟩ := ha
 refine Zs<|Zr<|Zl (Wb rfl)<|Zn<|Zs<|Zr<|Zl (Yi rfl)<|cal cb_tailracekeep_picked (picked_ok n_ 12 _ (by omega) (by omega) (by omega) (by omega)) rfl rfl ?_
 rintro _ w1 ⟨rfl, hb⟩; replace H := H.later hb; clear hb
 have hpl := pk_lt n_ (show 0 < 12 by omega)
 generalize pk n_ 12 = p at hpl ⊢
 refine Zl (add_r rfl rfl (by omega) (by omega)) ?_
 obtain ⟨q, hq⟩ : ∃ q : Nat, (1 : Int) + (p : Nat) = q := ⟨1 + p, by omega⟩
 rw [hq]
 have hq12 : q ≤ 12 := by omega
 refine Zl (Wi rfl)<|Zn<|Zs<|Zr<|cal cb_coord_New (coordNew_ok 5 _ (by omega) (by omega)) rfl rfl ?_
 rintro _ w2 ⟨rfl, hb⟩; replace H := H.later hb; clear hb
 refine Zl (Yu rfl)<|Zl (Xa rfl rfl)<|Zl (Xi rfl rfl)<|alo H z_Coord rfl fun w3 b4 H =>stN H 0 (#[.int .i64 0, .int .i64 1, .int .i64 5, .slice none 0 0]) siz_Coord rfl rfl rfl rfl rfl (by kernel_rfl) (by kernel_rfl) fun w4 H =>Zl (Wi rfl)<|Zn<|Zs<|Zs ?_
 replace H := H.learnRd (Y := txL) (A := none) (es := []) (Below.refl _ _) Rd.nil
 replace H := parts_nil H w4.heap.size H.ltAll (Nat.le_refl _)
 refine Zr<|Zl (Yi rfl)<|Zl (Yi rfl)<|Zn<|Zb ?_
 refine cw_loop (τ := Nat × Co × Nat × Nat × Nat × Nat) [2, 6, 7, 8, 9, 10, 11, 24, 25, 26, 27, 28, 29, 30, 31, 32, 33, 34, 35, 36, 37, 38, 39, 40, 41, 42, 43, 44, 45, 46, 47, 48, 49, 50, 51, 52, 53, 54, 55, 56] (fun (i, _) => [(24, .int .i64 (i : Nat))]) (fun (i, c, lo1, hi1, lo2, hi2) w' => i ≤ q ∧ c.a = pidC (min i 8) ∧ c.txs.length ≤ c.cap ∧ Hp w w' [(b4, .cells c.c.toArray T_Coord (0, 0))] [FParts lo2 hi2 c.txs, FRd txL lo1 hi1 c.A c.txs]) (fun (i, _) => q - i) (0, ⟨0, 1, 5, [], none, 0⟩, _, _, _, _) ⟨by omega, by kernel_rfl, Nat.le_refl _, H⟩ (sl1 rfl) ?_
 rintro ⟨i, c, lo1, hi1, lo2, hi2⟩ ρ1 w5 ⟨hi, hca, hcap, H⟩
 show CW _ _ _ _ (updL (ovr _ _ ρ1) [(24, .int .i64 (i : Nat))]) w5
 refine Zs<|Zr ?_
 refine lwD (lss_r rfl rfl) rfl rfl rfl (fun h25 => ?_) (fun h25 => ?_)
 ·
  refine Zn<|Zs<|ZT rfl<|Zk<|Zs<|Zb<|Zs<|Zr<|Zl (Yi rfl)<|Zl (Wi rfl)<|Zn<|Zs<|Zr<|Zl (Yi rfl) ?_
  refine Zl (add_r rfl rfl (by omega) (by omega)) ?_
  rw [show (97 : Int) + (i : Nat) = ((97 + i : Nat) : Int) by omega]
  refine Zl (cvI_r (b := ((97 + i : Nat) : Int)) int_int int_int32 rfl (wrap31 (by omega)))<|Zl (cvIT_r (m := 97 + i) int_int32 str_string rfl (by omega) (by omega))<|Zl (Wt rfl)<|Zn<|Zs<|Zr<|Zl (Zw agg_Coord H 0 rfl rfl rfl)<|Zl (Yt rfl)<|cal cb_coord_Init (pid_step (i := i) hca (by omega) (H.rd0 1 rfl) (fun t ht => parts0 H 0 rfl ht) hcap) rfl rfl ?_
  rintro _ w6 ⟨c2, n, e, rfl, he8, hlt8, hRC⟩; replace H := hRC.learn H
  refine Zl (Yu rfl)<|Zl (Xa rfl rfl)<|Zl (Xi rfl rfl)<|Zl (Xi rfl rfl)<|Zl (Xi rfl rfl)<|alo H z_Coord rfl fun w7 b8 H =>stN H 0 (c2.c.toArray) siz_Coord rfl rfl rfl rfl rfl (by kernel_rfl) (by kernel_rfl) fun w8 H =>Zl (Wi rfl)<|Zl (Wi rfl)<|Zl (Wi rfl)<|Zn<|Zs<|Zs<|Zr ?_
  refine Zl (Yi rfl) ?_
  refine lwD (geq_r rfl rfl) rfl rfl rfl (fun h40 => ?_) (fun h40 => ?_)
  ·
   refine Zn<|ZT rfl<|Zs<|Zs<|Zr<|Zl (Yi rfl)<|Zl (neqF_r rfl rfl (he8 (by omega)))<|Zn<|ZF rfl<|Zk<|Zx<|Zr<|Zl (add_r rfl rfl (by omega) (by omega))<|Zl (Yi rfl) ?_
   refine Zn ?_
   refine ⟨(i + 1, c, lo1, hi1, lo2, hi2), ⟨by omega, by rw [show min (i + 1) 8 = min i 8 by omega]; exact hca, hcap, H.forget (.cons _ (List.Sublist.refl _)) (by simp)⟩, sl1 rfl, by repeat (first | exact Agr.refl _ _ | exact agr_ovr | refine agr_upd rfl ?_ | refine agr_updL _ rfl ?_ | refine agr_ovr2 rfl ?_), by show q - (i + 1) < q - i; omega⟩
  ·
   refine Zn<|ZF rfl<|Zk<|Zs<|Zs<|Zr<|Zl (Yi rfl)<|Zl (neqF_r rfl rfl (hlt8 (by omega)).1)<|Zl (Yb rfl)<|ZG<|Zl (Yi rfl)<|ZG<|Zl (Yi rfl)<|ZG ?_
   refine Zl (add_r rfl rfl (by omega) (by omega))<|ZG<|Zl (neqF_r rfl rfl (hlt8 (by omega)).2.1)<|Zl (Kf rfl rfl)<|Zl (Yb rfl)<|ZG<|Zl (Yi rfl)<|ZG<|Zl (neqF_r rfl rfl rfl)<|Zl (Kf rfl rfl)<|Zn<|ZF rfl<|Zk<|Zr ?_
   refine Zl (Zw agg_Coord H 0 rfl rfl rfl)<|stN H 1 (c2.c.toArray) siz_Coord rfl rfl rfl rfl rfl (by kernel_rfl) (by kernel_rfl) fun w9 H =>Zn<|Zr<|Zl (add_r rfl rfl (by omega) (by omega))<|Zl (Yi rfl)<|Zn ?_
   refine ⟨(i + 1, c2, w5.heap.size, w6.heap.size, w5.heap.size, w6.heap.size), ⟨by omega, by rw [show min (i + 1) 8 = i + 1 by omega]; exact (hlt8 (by omega)).2.2, hRC.cap, H.forget (.cons _ (List.Sublist.refl _)) (by simp)⟩, sl1 rfl, by repeat (first | exact Agr.refl _ _ | exact agr_ovr | refine agr_upd rfl ?_ | refine agr_updL _ rfl ?_ | refine agr_ovr2 rfl ?_), by show q - (i + 1) < q - i; omega⟩
 ·
  have hiq : i = q := by omega
  obtain ⟨hln, -, -⟩ := pid_facts hca
  refine Zn<|Zs<|ZF rfl<|Zx<|Zs<|Zr<|Zl (Zw agg_Coord H 0 rfl rfl rfl)<|cal cb_coord_Init (pid_form hca (by omega) (H.rd0 1 rfl) (fun t ht => parts0 H 0 rfl ht) hcap) rfl rfl ?_
  rintro _ w10 ⟨rfl, hb⟩; replace H := H.later hb; clear hb
  refine Zl (Yu rfl)<|Zl (Xa rfl rfl)<|Zl (Xi rfl rfl)<|Zl (Xi rfl rfl)<|Zl (Xi rfl rfl)<|alo H z_Coord rfl fun w11 b12 H =>stN H 0 (#[.int .i64 0, .int .i64 0, .int .i64 0, .slice none 0 0]) siz_Coord rfl rfl rfl rfl rfl (by kernel_rfl) (by kernel_rfl) fun w12 H =>Zl (Wi rfl)<|Zl (Wi rfl)<|Zl (Wi rfl)<|Zn<|Zs<|Zr<|Zl (Yi rfl) ?_
  refine Zl (eqlT_r rfl rfl rfl)<|Zl (Yb rfl)<|ZG<|Zl (Yi rfl)<|ZG<|Zl (eqlT_r rfl rfl rfl)<|Zl (Kt rfl rfl)<|Zl (Yb rfl)<|ZG<|Zl (Zf fd_Coord_3 rfl)<|ZG<|Zl (Zd one_LTxn H 1 rfl rfl rfl)<|ZG<|Zl (lenS_r len_LTxn rfl) ?_
  refine ZG<|Zl (Yi rfl)<|ZG<|Zl (minI_r rfl rfl)<|ZG<|Zl (eqlT_r rfl rfl (by omega))<|Zl (Kt rfl rfl)<|Zl (Wb rfl)<|Zn<|Zt ?_
  exact fin1 (v := .bool true) rfl rfl ⟨rfl, H.below⟩
end Go.Proofs.Ytemnchkebhclpaa
end

section
namespace Go.Proofs.Ytemnchkebhclpaa
open Go Go.Eng Go.RowKit
set_option linter.unusedSimpArgs false
/-- the parts of each producer lie in blocks of the call's own -/
def OwnParts : List Tx → List (Nat × Obj) → Prop
 | [], L => L = []
 | t :: ts, L => ∃ L1 L2, L = L1 ++ L2 ∧ Own intL (.slice t.A t.parts.length t.cap) T_int t.parts L1 ∧ OwnParts ts L2
theorem OwnParts.snoc {t : Tx} {L' : List (Nat × Obj)} (ht : Own intL (.slice t.A t.parts.length t.cap) T_int t.parts L') : ∀ {ts : List Tx} {L : List (Nat × Obj)}, OwnParts ts L → OwnParts (ts ++ [t]) (L ++ L')
 | [], _, h => ⟨L', [], by rw [show _ = [] from h]; simp, ht, rfl⟩
 | _ :: _, _, ⟨L1, L2, h1, h2, h3⟩ => ⟨L1, L2 ++ L', by rw [h1, List.append_assoc], h2, OwnParts.snoc ht h3⟩
theorem OwnParts.at_ : ∀ {ts : List Tx} {L : List (Nat × Obj)} {i : Nat} {t : Tx}, OwnParts ts L → ts[i]? = some t → ∃ La Lt Lb, L = La ++ Lt ++ Lb ∧ Own intL (.slice t.A t.parts.length t.cap) T_int t.parts Lt ∧ ∀ (t' : Tx) (Lt' : List (Nat × Obj)), Own intL (.slice t'.A t'.parts.length t'.cap) T_int t'.parts Lt' → OwnParts (ts.set i t') (La ++ Lt' ++ Lb)
 | x :: ts, L, 0, t, ⟨L1, L2, h1, h2, h3⟩, hi => by
  cases hi
  exact ⟨[], L1, L2, by simpa using h1, h2, fun t' Lt' h' => ⟨Lt', L2, by simp, h', h3⟩⟩
 | x :: ts, L, i + 1, t, ⟨L1, L2, h1, h2, h3⟩, hi => by
  obtain ⟨La, Lt, Lb, e, ho, hs⟩ := OwnParts.at_ h3 (show ts[i]? = some t from hi)
  exact ⟨L1 ++ La, Lt, Lb, by rw [h1, e]; simp [List.append_assoc], ho, fun t' Lt' h' => ⟨L1, La ++ Lt' ++ Lb, by simp [List.append_assoc], h2, hs t' Lt' h'⟩⟩
theorem OwnParts.rd {w0 w : World} {ts : List Tx} {L : List (Nat × Obj)} (h : OwnParts ts L) (H : Hp w0 w L []) {t : Tx} (ht : t ∈ ts) : Rd intL w0.heap.size w.heap.size t.A t.parts w := by
 obtain ⟨i, hi⟩ := List.mem_iff_getElem?.1 ht
 obtain ⟨La, Lt, Lb, rfl, ho, -⟩ := h.at_ hi
 exact ho.rd (K := La) (M := Lb) H
/-- a coordinator that a call has made, all of it the caller's own -/
def OwnCo (w w2 : World) (ca c' : Co) (Lr Lp : List (Nat × Obj)) : Prop := c'.a = ca ∧ Own txL (.slice c'.A c'.txs.length c'.cap) T_Txn c'.txs Lr ∧ OwnParts c'.txs Lp ∧ c'.txs.length ≤ c'.cap ∧ (∀ t ∈ c'.txs, t.parts.length ≤ t.cap) ∧ Hp w w2 (Lr ++ Lp) []
theorem OwnCo.read {w w2 : World} {ca c' : Co} {Lr Lp : List (Nat × Obj)} (h : OwnCo w w2 ca c' Lr Lp) : RdCo w w2 c' := by
 obtain ⟨_, h2, h3, h4, h5, h6⟩ := h
 refine ⟨h6.below, h2.rd (K := []) (M := Lp) (by simpa using h6), fun t ht => h3.rd (h6.forget (List.sublist_append_right _ _) (by simp)) ht, h4, h5⟩
set_option maxHeartbeats 4000000 in
set_option maxRecDepth 10000 in
theorem coCopyO_ok (c : Co) (w : World) (h : c.rd 0 w.heap.size w) : Ret Try.prog i_coord_Copy [c.v] w fun v w2 => ∃ (c' : Co) (Lr Lp : List (Nat × Obj)), v = c'.v ∧ OwnCo w w2 c.a c' Lr Lp := by
 refine ret_of fn_coord_Copy rfl rfl ?_
 have hcap := h.cap
 have hfew := h.few
 have hfp := h.fewP
 have H := Hp.startCo h
 obtain ⟨ck, nx, wt, txs, cA, cc⟩ := c
 dsimp only at hcap hfew hfp H
 show CW _ _ _ _ (args [.agg #[.int .i64 ck, .int .i64 nx, .int .i64 wt, .slice cA txs.length cc]]) w
 refine Zs<|Zr<|bxA H rfl rfl fun w1 b1 H =>alo H z_Coord rfl fun w2 b2 H =>Zn<|Zs<|Zr<|Zl (Zf fd_Coord_3 rfl)<|Zl (Zd one_LTxn H 1 rfl rfl rfl)<|cal cb_slices_Clone_LTxn_Txn (clone_Txn_ok txs cA cc _ (H.rd0 0 rfl) (by omega)) rfl rfl ?_
 rintro _ w3 ⟨A6, c6, L6, rfl, hc6, hm6, ho6, hj6⟩; replace H := H.joinR hj6; clear hj6
 refine Zl (Zf fd_Coord_3 rfl)<|stN H 1 (#[.int .i64 ck, .int .i64 nx, .int .i64 wt, .slice A6 txs.length c6]) siz_LTxn rfl rfl rfl rfl rfl (by kernel_rfl) (by kernel_rfl) fun w4 H =>Zn<|Zs<|Zs<|Zr<|Zl (Zf fd_Coord_3 rfl)<|Zl (Zd one_LTxn H 1 rfl rfl rfl)<|Zl (lenS_r len_LTxn rfl)<|Zl (Yi rfl)<|Zn<|Zb ?_
 refine cw_loop (τ := Nat × List Tx × Option Addr × Nat × List (Nat × Obj)) [3, 11, 12, 13, 14, 15, 16, 17, 18, 19, 20, 21, 22, 23, 24, 25, 26] (fun (k, _) => [(11, .int .i64 (k : Nat))]) (fun (k, out, A1, c1, Lp) w' => k ≤ out.length ∧ out.length = txs.length ∧ out.length ≤ c1 ∧ out.map Tx.a = txs.map Tx.a ∧ out.drop k = txs.drop k ∧ (∀ t ∈ out.take k, t.parts.length ≤ t.cap) ∧ OwnParts (out.take k) Lp ∧ ∃ L', Own txL (.slice A1 out.length c1) T_Txn out L' ∧ Hp w w' ([(b2, .cells #[.int .i64 0, .int .i64 0, .int .i64 0, .slice none 0 0] T_Coord (0, 0)), (b1, .cells #[.int .i64 ck, .int .i64 nx, .int .i64 wt, .slice A1 out.length c1] T_Coord (0, 0))] ++ L' ++ Lp) [FRd txL 0 w.heap.size cA txs, FParts 0 w.heap.size txs]) (fun (k, out, _) => out.length - k) (0, txs, A6, c6, []) ⟨by omega, rfl, hc6, rfl, rfl, by simp, rfl, L6, ho6, H⟩ (sl1 rfl) ?_
 rintro ⟨k, out, A1, c1, Lp⟩ ρ1 w5 ⟨hk, hol, hoc, hma, hdr, hpc, hpp, L1, ho, H⟩
 show CW _ _ _ _ (updL (ovr _ _ ρ1) [(11, .int .i64 (k : Nat))]) w5
 refine Zs<|Zr ?_
 refine lwD (lss_r rfl rfl) rfl rfl rfl (fun h12 => ?_) (fun h12 => ?_)
 ·
  refine Zn<|Zs<|ZT rfl<|Zk<|Zs<|Zb<|Zs ?_
  obtain ⟨x, hx⟩ : ∃ x, out[k]? = some x := ⟨_, List.getElem?_eq_getElem (by omega)⟩
  have hxt : txs[k]? = some x := by have := congrArg (fun l => l[0]?) hdr; simp only [List.getElem?_drop, Nat.add_zero] at this; rw [← this]; exact hx
  have hmem := List.mem_of_getElem? hxt
  have hfx := (hfp x hmem).1
  obtain ⟨g, cur, rfl, rfl, row⟩ := ho.row (by omega)
  refine Zr<|Zl (Yi rfl)<|Zl (Wi rfl)<|Zn ?_
   
  refine cw_draw mixed [0, 1, 2, 3, 4, 5, 6, 7, 8, 9, 10, 11] [12] [9] [0, 2, 3, 5, 6, 7, 10, 11] (sp [(9, Sp.orow w5.heap.size intL T_int x.parts)]) (by kernel_rfl) (by kernel_rfl) (by kernel_rfl) (by kernel_rfl) (fun _ _ _ h => h) (sp_st _) ?_
  refine aw rfl rfl rfl rfl rfl (fun w' hw' => Zf fd_Coord_3 rfl)<|aw rfl rfl rfl rfl rfl (fun w' hw' => ld_r one_LTxn rfl (cellE ((H.later hw').ent (i := 1) rfl) rfl))<|aw rfl rfl rfl rfl rfl (fun w' hw' => Yi rfl)<|aw rfl rfl rfl rfl rfl (fun w' hw' => Zf fd_Coord_3 rfl)<|aw rfl rfl rfl rfl rfl (fun w' hw' => ld_r one_LTxn rfl (cellE ((H.later hw').ent (i := 1) rfl) rfl))<|aw rfl rfl rfl rfl rfl (fun w' hw' => Yi rfl)<|aw rfl rfl rfl rfl rfl (fun w' hw' => ixR_r sl_LTxn rfl rfl (by omega))<|aw rfl rfl rfl rfl rfl (fun w' hw' => Zf fd_Txn_4 rfl)<|aw rfl rfl rfl rfl rfl (fun w' hw' => ldR_r one_Lint row hx 4 rfl ((H.later hw').ent (i := 2) rfl) rfl)<|awORow cb_slices_Clone_Lint_int rfl rfl rfl rfl rfl (fun w' hw' => hw'.size) (fun w' hw' => clone_int_ok x.parts _ _ w' (parts0 (H.later hw') 1 rfl hmem) (by omega)) rfl fun A23 c23 hc23 =>aw rfl rfl rfl rfl rfl (fun w' hw' => ixR_r sl_LTxn rfl rfl (by omega))<|aw rfl rfl rfl rfl rfl (fun w' hw' => Zf fd_Txn_4 rfl)<|aw_nil ?_
  intro w6 hw' hF
  obtain ⟨hF, Aq, cq, L23, eq, hcq, hm23, ho23, he23, hn23⟩ := hF; cases eq; clear hcq
  replace H := H.joinR (Hp.ofNew hw' he23 hn23)
  clear hw' hF
  refine stR H 2 ({ x with A := A23, cap := c23 }) siz_Lint row hx 4 rfl rfl rfl rfl rfl rfl (by kernel_rfl) fun w8 cur7 row7 H =>Zn<|Zr<|Zl (add_r rfl rfl (by omega) (by omega))<|Zl (Yi rfl)<|Zn ?_
  obtain ⟨z1, z2, z3⟩ := copy_step (x' := { x with A := A23, cap := c23 }) hx hma hdr rfl
  refine ⟨(k + 1, out.set k { x with A := A23, cap := c23 }, some ⟨g, 0, none⟩, c1, Lp ++ L23), ⟨by rw [List.length_set]; omega, by rw [List.length_set]; exact hol, by rw [List.length_set]; exact hoc, z1, z2, ?_, by rw [z3]; exact hpp.snoc ho23, _, Row.own row7, ?_⟩, sl1 rfl, by repeat (first | exact Agr.refl _ _ | exact agr_ovr | refine agr_upd rfl ?_ | refine agr_updL _ rfl ?_ | refine agr_ovr2 rfl ?_), by show (out.set k _).length - (k + 1) < out.length - k; rw [List.length_set]; omega⟩
  ·
   rw [z3]; intro t ht; rcases List.mem_append.1 ht with ht | ht; exact hpc t ht; rw [List.mem_singleton.1 ht]; exact hc23
  ·
   rw [List.length_set]; simpa using H
 ·
  have hke : k = out.length := by omega
  rw [hke, List.take_length] at hpp hpc
  refine Zn<|Zs<|ZF rfl<|Zx<|Zs<|Zr<|Zl (Zw agg_Coord H 1 rfl rfl rfl)<|stN H 0 (#[.int .i64 ck, .int .i64 nx, .int .i64 wt, .slice A1 out.length c1]) siz_Coord rfl rfl rfl rfl rfl (by kernel_rfl) (by kernel_rfl) fun w9 H =>Zn<|Zt ?_
  exact finC (cs0 := #[.int .i64 ck, .int .i64 nx, .int .i64 wt, .slice A1 out.length c1]) rfl agg_Coord rfl (H.ent (i := 0) rfl) rfl ⟨⟨ck, nx, wt, out, A1, c1⟩, L1, Lp, rfl, by unfold Co.a; dsimp only; rw [hma], ho, hpp, hoc, hpc, H.forget (.cons _ (.cons _ (List.Sublist.refl _))) (by simp)⟩
end Go.Proofs.Ytemnchkebhclpaa
end

section
namespace Go.Proofs.Ytemnchkebhclpaa
open Go Go.Eng Go.RowKit
set_option linter.unusedSimpArgs false
theorem idx_find {c : Co} {s : ByteArray} {i : Nat} (h : nameIdx c s = i) : ∃ t, c.txs[i]? = some t ∧ t.name = s := by
 unfold nameIdx at h
 cases hf : c.txs.findIdx? (fun p => decide (p.name = s)) with
 | none => rw [hf] at h; simp [idxI] at h
 | some j =>
  rw [hf] at h
  have hj : j = i := by have h' : ((j : Nat) : Int) = i := h; omega
  subst hj
  obtain ⟨hl, h1, -⟩ := List.findIdx?_eq_some_iff_getElem.1 hf
  exact ⟨_, List.getElem?_eq_getElem hl, by simpa using h1⟩
theorem map_at {txs tx2 : List Tx} (h : tx2.map Tx.a = txs.map Tx.a) {i : Nat} {t : Tx} (ht : txs[i]? = some t) : ∃ t2, tx2[i]? = some t2 ∧ t2.a = t.a := by
 have h1 := congrArg (fun l => l[i]?) h
 simp only [List.getElem?_map, ht, Option.map_some] at h1
 cases h2 : tx2[i]? with
 | none => rw [h2] at h1; cases h1
 | some t2 => rw [h2] at h1; exact ⟨t2, rfl, by simpa using h1⟩
set_option maxHeartbeats 4000000 in
set_option maxRecDepth 10000 in
theorem coFindO_ok (c : Co) (s : ByteArray) (w : World) (h : c.rd 0 w.heap.size w) (hok : coOk c = true) (hn : nameOk s = true) : Ret Try.prog i_coord_find [c.v, .string s] w fun v w2 => ∃ (c' : Co) (Lr Lp : List (Nat × Obj)), v = .tuple #[c'.v, .int .i64 (nameIdx c s), .int .i64 0] ∧ OwnCo w w2 c.a c' Lr Lp := by
 refine ret_of fn_coord_find rfl rfl ?_
 have hcap := h.cap
 have hfew := h.few
 have hfp := h.fewP
 have H := Hp.startCo h
 obtain ⟨ck, nx, wt, txs, cA, cc⟩ := c
 dsimp only at hcap hfew hfp H
 show CW _ _ _ _ (args [.agg #[.int .i64 ck, .int .i64 nx, .int .i64 wt, .slice cA txs.length cc], .string s]) w
 refine Zs<|Zr<|bxA H rfl rfl fun w1 b2 H =>bxT H rfl rfl fun w2 b3 H =>alo H z_Coord rfl fun w3 b4 H =>Zl (Wi rfl)<|Zl (Wi rfl)<|Zn<|Zs<|Zs<|Zr<|Zl (Zw agg_Coord H 2 rfl rfl rfl)<|cal cb_coord_Check (coCheck_ok ⟨ck, nx, wt, txs, cA, cc⟩ _ ⟨H.rd0 0 rfl, fun t ht => parts0 H 1 rfl ht, hcap, hfew, hfp⟩) rfl rfl ?_
 rw [hok]
 rintro _ w4 ⟨rfl, hb⟩; replace H := H.later hb; clear hb
 refine Zl (Wi rfl)<|Zn<|Zs<|Zr<|Zl (Yi rfl)<|Zl (neqF_r rfl rfl rfl)<|Zn<|ZF rfl<|Zk<|Zs<|Zs<|Zr<|Zl (Zd one_string H 1 rfl rfl rfl)<|cal cb_coord_name (name_ok s _) rfl rfl ?_
 rw [hn]
 rintro _ w5 ⟨rfl, hb⟩; replace H := H.later hb; clear hb
 refine Zl (not_r rfl)<|Zn<|ZF rfl<|Zk<|Zs ?_
 
 refine cw_tree mixed [2, 4] [0, 1, 3, 5, 6, 7, 8] [2, 4] 7 (by kernel_rfl) (by kernel_rfl) (by kernel_rfl) (fun _ _ _ h => h) ?_
 refine aw rfl rfl rfl rfl rfl (fun w' hw' => Zf fd_Coord_3 rfl)<|aw rfl rfl rfl rfl rfl (fun w' hw' => mkf_r rfl)<|aw_nil ?_
 intro w6 hw'; replace H := H.later hw'; clear hw'
 refine xw2 0 3 (by kernel_rfl) rfl rfl ?_ ?_ 
 ·
  refine Zl (Zw agg_Coord H 2 rfl rfl rfl)<|Zn ?_
  refine xw2 1 3 (by kernel_rfl) rfl rfl ?_ ?_ 
  ·
   refine cal cb_coord_Copy (coCopyO_ok ⟨ck, nx, wt, txs, cA, cc⟩ _ ⟨H.rd0 0 rfl, fun t ht => parts0 H 1 rfl ht, hcap, hfew, hfp⟩) rfl rfl ?_
   rintro _ w7 ⟨⟨ck2, nx2, wt2, tx2, A2, c2⟩, Lr, Lp, rfl, ha2, ho2, hp2, hoc2, hpc2, hj2⟩
   replace H := H.joinR hj2; clear hj2
   simp only [Co.a, Co.mk.injEq] at ha2
   obtain ⟨e1, e2, e3, hma, -, -⟩ := ha2
   obtain rfl : ck = ck2 := e1.symm
   obtain rfl : nx = nx2 := e2.symm
   obtain rfl : wt = wt2 := e3.symm
   dsimp only at ho2 hp2 hoc2 hpc2 H
   refine Zn<|xw1 3 (by kernel_rfl) rfl<|Zl (Zd one_LTxn H 2 rfl rfl rfl)<|Zn<|xw1 5 (by kernel_rfl) rfl<|cal cb_slices_IndexFunc_LTxn_Txn (indexFunc_Txn_ok txs cA cc _ (H.rd0 0 rfl) (by omega) i_coord_find_c1 [.pointer (some ⟨b3, 0, none⟩)] cb_coord_find_c1 (fun p => decide (p.name = s)) (fun e w2 _ hw2 => find_c1_ok e s b3 w2 ((hw2.block _ (lt_of_heap (H.ent (i := 1) rfl))).trans (H.ent (i := 1) rfl)))) rfl rfl ?_
   rintro _ w8 ⟨rfl, hb⟩; replace H := H.later hb; clear hb
   refine Zn<|xw1 6 (by kernel_rfl) rfl<|stN H 0 (#[.int .i64 ck, .int .i64 nx, .int .i64 wt, .slice A2 tx2.length c2]) siz_Coord rfl rfl rfl rfl rfl (by kernel_rfl) (by kernel_rfl) fun w9 H =>Zn<|xw1 7 (by kernel_rfl) rfl<|Zl (Wi rfl)<|Zn<|xw1 8 (by kernel_rfl) rfl<|Zl (Wi rfl)<|Zn<|xw_end (by kernel_rfl)<|Zt ?_
   exact finCTT (cs0 := #[.int .i64 ck, .int .i64 nx, .int .i64 wt, .slice A2 tx2.length c2]) (v1 := .int .i64 (idxI (txs.findIdx? fun p => decide (p.name = s)))) (v2 := .int .i64 0) rfl agg_Coord rfl (H.ent (i := 0) rfl) rfl rfl rfl ⟨⟨ck, nx, wt, tx2, A2, c2⟩, Lr, Lp, rfl, by unfold Co.a; dsimp only; rw [hma], ho2, hp2, hoc2, hpc2, H.forget (.cons _ (.cons _ (.cons _ (List.sublist_append_left _ _)))) (by simp)⟩
  ·
   refine Zl (Zd one_LTxn H 2 rfl rfl rfl)<|Zn<|xw1 1 (by kernel_rfl) rfl<|cal cb_coord_Copy (coCopyO_ok ⟨ck, nx, wt, txs, cA, cc⟩ _ ⟨H.rd0 0 rfl, fun t ht => parts0 H 1 rfl ht, hcap, hfew, hfp⟩) rfl rfl ?_
   rintro _ w10 ⟨⟨ck2, nx2, wt2, tx2, A2, c2⟩, Lr, Lp, rfl, ha2, ho2, hp2, hoc2, hpc2, hj2⟩
   replace H := H.joinR hj2; clear hj2
   simp only [Co.a, Co.mk.injEq] at ha2
   obtain ⟨e1, e2, e3, hma, -, -⟩ := ha2
   obtain rfl : ck = ck2 := e1.symm
   obtain rfl : nx = nx2 := e2.symm
   obtain rfl : wt = wt2 := e3.symm
   dsimp only at ho2 hp2 hoc2 hpc2 H
   refine Zn<|xw1 5 (by kernel_rfl) rfl<|cal cb_slices_IndexFunc_LTxn_Txn (indexFunc_Txn_ok txs cA cc _ (H.rd0 0 rfl) (by omega) i_coord_find_c1 [.pointer (some ⟨b3, 0, none⟩)] cb_coord_find_c1 (fun p => decide (p.name = s)) (fun e w2 _ hw2 => find_c1_ok e s b3 w2 ((hw2.block _ (lt_of_heap (H.ent (i := 1) rfl))).trans (H.ent (i := 1) rfl)))) rfl rfl ?_
   rintro _ w11 ⟨rfl, hb⟩; replace H := H.later hb; clear hb
   refine Zn<|xw1 6 (by kernel_rfl) rfl<|stN H 0 (#[.int .i64 ck, .int .i64 nx, .int .i64 wt, .slice A2 tx2.length c2]) siz_Coord rfl rfl rfl rfl rfl (by kernel_rfl) (by kernel_rfl) fun w12 H =>Zn<|xw1 7 (by kernel_rfl) rfl<|Zl (Wi rfl)<|Zn<|xw1 8 (by kernel_rfl) rfl<|Zl (Wi rfl)<|Zn<|xw_end (by kernel_rfl)<|Zt ?_
   exact finCTT (cs0 := #[.int .i64 ck, .int .i64 nx, .int .i64 wt, .slice A2 tx2.length c2]) (v1 := .int .i64 (idxI (txs.findIdx? fun p => decide (p.name = s)))) (v2 := .int .i64 0) rfl agg_Coord rfl (H.ent (i := 0) rfl) rfl rfl rfl ⟨⟨ck, nx, wt, tx2, A2, c2⟩, Lr, Lp, rfl, by unfold Co.a; dsimp only; rw [hma], ho2, hp2, hoc2, hpc2, H.forget (.cons _ (.cons _ (.cons _ (List.sublist_append_left _ _)))) (by simp)⟩
 ·
  refine Zl (Zd one_LTxn H 2 rfl rfl rfl)<|Zn<|xw1 0 (by kernel_rfl) rfl<|Zl (Zw agg_Coord H 2 rfl rfl rfl)<|Zn<|xw1 1 (by kernel_rfl) rfl<|cal cb_coord_Copy (coCopyO_ok ⟨ck, nx, wt, txs, cA, cc⟩ _ ⟨H.rd0 0 rfl, fun t ht => parts0 H 1 rfl ht, hcap, hfew, hfp⟩) rfl rfl ?_
  rintro _ w13 ⟨⟨ck2, nx2, wt2, tx2, A2, c2⟩, Lr, Lp, rfl, ha2, ho2, hp2, hoc2, hpc2, hj2⟩
  replace H := H.joinR hj2; clear hj2
  simp only [Co.a, Co.mk.injEq] at ha2
  obtain ⟨e1, e2, e3, hma, -, -⟩ := ha2
  obtain rfl : ck = ck2 := e1.symm
  obtain rfl : nx = nx2 := e2.symm
  obtain rfl : wt = wt2 := e3.symm
  dsimp only at ho2 hp2 hoc2 hpc2 H
  refine Zn<|xw1 5 (by kernel_rfl) rfl<|cal cb_slices_IndexFunc_LTxn_Txn (indexFunc_Txn_ok txs cA cc _ (H.rd0 0 rfl) (by omega) i_coord_find_c1 [.pointer (some ⟨b3, 0, none⟩)] cb_coord_find_c1 (fun p => decide (p.name = s)) (fun e w2 _ hw2 => find_c1_ok e s b3 w2 ((hw2.block _ (lt_of_heap (H.ent (i := 1) rfl))).trans (H.ent (i := 1) rfl)))) rfl rfl ?_
  rintro _ w14 ⟨rfl, hb⟩; replace H := H.later hb; clear hb
  refine Zn<|xw1 6 (by kernel_rfl) rfl<|stN H 0 (#[.int .i64 ck, .int .i64 nx, .int .i64 wt, .slice A2 tx2.length c2]) siz_Coord rfl rfl rfl rfl rfl (by kernel_rfl) (by kernel_rfl) fun w15 H =>Zn<|xw1 7 (by kernel_rfl) rfl<|Zl (Wi rfl)<|Zn<|xw1 8 (by kernel_rfl) rfl<|Zl (Wi rfl)<|Zn<|xw_end (by kernel_rfl)<|Zt ?_
  exact finCTT (cs0 := #[.int .i64 ck, .int .i64 nx, .int .i64 wt, .slice A2 tx2.length c2]) (v1 := .int .i64 (idxI (txs.findIdx? fun p => decide (p.name = s)))) (v2 := .int .i64 0) rfl agg_Coord rfl (H.ent (i := 0) rfl) rfl rfl rfl ⟨⟨ck, nx, wt, tx2, A2, c2⟩, Lr, Lp, rfl, by unfold Co.a; dsimp only; rw [hma], ho2, hp2, hoc2, hpc2, H.forget (.cons _ (.cons _ (.cons _ (List.sublist_append_left _ _)))) (by simp)⟩
set_option maxHeartbeats 4000000 in
set_option maxRecDepth 10000 in
theorem known_none (c : Co) (s : ByteArray) (ver : Int) (w : World) (h : c.rd 0 w.heap.size w) (hok : coOk c = true) (hn : nameOk s = true) (hi : nameIdx c s = -1) : Ret Try.prog i_coord_known [c.v, .string s, .int .i64 ver] w fun v w2 => v = .tuple #[.agg #[.int .i64 0, .int .i64 0, .int .i64 0, .slice none 0 0], .int .i64 0, .int .i64 5] ∧ Below w.heap.size w w2 := by
 refine ret_of fn_coord_known rfl rfl ?_
 have hcap := h.cap
 have hfew := h.few
 have hfp := h.fewP
 have H := Hp.startCo h
 obtain ⟨ck, nx, wt, txs, cA, cc⟩ := c
 dsimp only at hcap hfew hfp H
 show CW _ _ _ _ (args [.agg #[.int .i64 ck, .int .i64 nx, .int .i64 wt, .slice cA txs.length cc], .string s, .int .i64 ver]) w
 refine Zs<|Zr<|bxA H rfl rfl fun w1 b3 H =>alo H z_Coord rfl fun w2 b6 H =>Zl (Wi rfl)<|Zl (Wi rfl)<|Zn<|Zs<|Zr<|Zl (Zw agg_Coord H 1 rfl rfl rfl)<|Zl (Yt rfl)<|cal cb_coord_find (coFindO_ok ⟨ck, nx, wt, txs, cA, cc⟩ s _ ⟨H.rd0 0 rfl, fun t ht => parts0 H 1 rfl ht, hcap, hfew, hfp⟩ hok hn) rfl rfl ?_
 rintro _ w3 ⟨⟨ck2, nx2, wt2, tx2, A2, c2⟩, Lr, Lp, rfl, ha2, ho2, hp2, hoc2, hpc2, hj2⟩
 replace H := H.joinR hj2; clear hj2
 simp only [Co.a, Co.mk.injEq] at ha2
 obtain ⟨e1, e2, e3, hma, -, -⟩ := ha2
 obtain rfl : ck = ck2 := e1.symm
 obtain rfl : nx = nx2 := e2.symm
 obtain rfl : wt = wt2 := e3.symm
 dsimp only at ho2 hp2 hoc2 hpc2 H
 rw [hi]
 refine Zl (Yu rfl)<|Zl (Xa rfl rfl)<|Zl (Xi rfl rfl)<|Zl (Xi rfl rfl)<|stN H 1 (#[.int .i64 ck, .int .i64 nx, .int .i64 wt, .slice A2 tx2.length c2]) siz_Coord rfl rfl rfl rfl rfl (by kernel_rfl) (by kernel_rfl) fun w4 H =>Zl (Wi rfl)<|Zl (Wi rfl)<|Zn<|Zs<|Zb<|Zs<|Zr<|Zl (Yi rfl)<|Zl (neqF_r rfl rfl rfl) ?_
 refine Zl (Wb rfl)<|Zn<|ZF rfl<|Zs<|Zr<|Zl (Yi rfl)<|Zl (lssT_r rfl rfl (by decide))<|Zl (Wb rfl)<|Zn<|ZT rfl<|Zs<|Zr<|Zl (bld_r (cs := #[.int .i64 0, .int .i64 0, .int .i64 0, .slice none 0 0]) st_Coord z_Coord (by kernel_rfl))<|stN H 0 (#[.int .i64 0, .int .i64 0, .int .i64 0, .slice none 0 0]) siz_Coord rfl rfl rfl rfl rfl (by kernel_rfl) (by kernel_rfl) fun w5 H => ?_
 refine Zl (Wi rfl)<|Zl (Wi rfl)<|Zn<|Zt ?_
 exact finCTT (cs0 := #[.int .i64 0, .int .i64 0, .int .i64 0, .slice none 0 0]) (v1 := .int .i64 0) (v2 := .int .i64 5) rfl agg_Coord rfl (H.ent (i := 0) rfl) rfl rfl rfl ⟨rfl, H.below⟩
set_option maxHeartbeats 4000000 in
set_option maxRecDepth 10000 in
theorem known_fence (c : Co) (s : ByteArray) (ver : Int) (i : Nat) (t : Tx) (w : World) (h : c.rd 0 w.heap.size w) (hok : coOk c = true) (hn : nameOk s = true) (hi : nameIdx c s = i) (ht : c.txs[i]? = some t) (hv : t.ver ≠ ver) : Ret Try.prog i_coord_known [c.v, .string s, .int .i64 ver] w fun v w2 => v = .tuple #[.agg #[.int .i64 0, .int .i64 0, .int .i64 0, .slice none 0 0], .int .i64 0, .int .i64 10] ∧ Below w.heap.size w w2 := by
 refine ret_of fn_coord_known rfl rfl ?_
 have hcap := h.cap
 have hfew := h.few
 have hfp := h.fewP
 have H := Hp.startCo h
 obtain ⟨ck, nx, wt, txs, cA, cc⟩ := c
 dsimp only at hcap hfew hfp H
 show CW _ _ _ _ (args [.agg #[.int .i64 ck, .int .i64 nx, .int .i64 wt, .slice cA txs.length cc], .string s, .int .i64 ver]) w
 dsimp only at ht
 refine Zs<|Zr<|bxA H rfl rfl fun w1 b3 H =>alo H z_Coord rfl fun w2 b6 H =>Zl (Wi rfl)<|Zl (Wi rfl)<|Zn<|Zs<|Zr<|Zl (Zw agg_Coord H 1 rfl rfl rfl)<|Zl (Yt rfl)<|cal cb_coord_find (coFindO_ok ⟨ck, nx, wt, txs, cA, cc⟩ s _ ⟨H.rd0 0 rfl, fun t ht => parts0 H 1 rfl ht, hcap, hfew, hfp⟩ hok hn) rfl rfl ?_
 rintro _ w3 ⟨⟨ck2, nx2, wt2, tx2, A2, c2⟩, Lr, Lp, rfl, ha2, ho2, hp2, hoc2, hpc2, hj2⟩
 replace H := H.joinR hj2; clear hj2
 simp only [Co.a, Co.mk.injEq] at ha2
 obtain ⟨e1, e2, e3, hma, -, -⟩ := ha2
 obtain rfl : ck = ck2 := e1.symm
 obtain rfl : nx = nx2 := e2.symm
 obtain rfl : wt = wt2 := e3.symm
 dsimp only at ho2 hp2 hoc2 hpc2 H
 rw [hi]
 refine Zl (Yu rfl)<|Zl (Xa rfl rfl)<|Zl (Xi rfl rfl)<|Zl (Xi rfl rfl)<|stN H 1 (#[.int .i64 ck, .int .i64 nx, .int .i64 wt, .slice A2 tx2.length c2]) siz_Coord rfl rfl rfl rfl rfl (by kernel_rfl) (by kernel_rfl) fun w4 H =>Zl (Wi rfl)<|Zl (Wi rfl)<|Zn<|Zs<|Zb<|Zs<|Zr<|Zl (Yi rfl)<|Zl (neqF_r rfl rfl rfl) ?_
 refine Zl (Wb rfl)<|Zn<|ZF rfl<|Zs<|Zr<|Zl (Yi rfl)<|Zl (lssF_r rfl rfl (by omega))<|Zl (Wb rfl)<|Zn<|ZF rfl<|Zs ?_
 obtain ⟨t2, ht2, hta⟩ := map_at hma ht
 have hl2 := (getE ht2).1
 obtain ⟨g, cur, rfl, rfl, row⟩ := ho2.row (by omega)
 have hver : t2.ver = t.ver := by show t2.a.ver = t.a.ver; rw [hta]
 refine Zr<|Zl (Zf fd_Coord_3 rfl)<|Zl (Zd one_LTxn H 1 rfl rfl rfl)<|Zl (Yi rfl)<|Zl (ixR_r sl_LTxn rfl rfl (by omega))<|Zl (Zf fd_Txn_2 rfl)<|Zl (ldR_r one_int row ht2 2 rfl (H.ent (i := 2) rfl) rfl)<|Zl (Yi rfl)<|Zl (neqT_r rfl rfl (by omega))<|Zl (Wb rfl)<|Zn<|ZT rfl<|Zs<|Zr ?_
 refine Zl (bld_r (cs := #[.int .i64 0, .int .i64 0, .int .i64 0, .slice none 0 0]) st_Coord z_Coord (by kernel_rfl))<|stN H 0 (#[.int .i64 0, .int .i64 0, .int .i64 0, .slice none 0 0]) siz_Coord rfl rfl rfl rfl rfl (by kernel_rfl) (by kernel_rfl) fun w5 H =>Zl (Wi rfl)<|Zl (Wi rfl)<|Zn<|Zt ?_
 exact finCTT (cs0 := #[.int .i64 0, .int .i64 0, .int .i64 0, .slice none 0 0]) (v1 := .int .i64 0) (v2 := .int .i64 10) rfl agg_Coord rfl (H.ent (i := 0) rfl) rfl rfl rfl ⟨rfl, H.below⟩
set_option maxHeartbeats 4000000 in
set_option maxRecDepth 10000 in
theorem known_ok (c : Co) (s : ByteArray) (ver : Int) (i : Nat) (t : Tx) (w : World) (h : c.rd 0 w.heap.size w) (hok : coOk c = true) (hn : nameOk s = true) (hi : nameIdx c s = i) (ht : c.txs[i]? = some t) (hv : t.ver = ver) : Ret Try.prog i_coord_known [c.v, .string s, .int .i64 ver] w fun v w2 => ∃ (c' : Co) (Lr Lp : List (Nat × Obj)), v = .tuple #[c'.v, .int .i64 (i : Nat), .int .i64 0] ∧ OwnCo w w2 c.a c' Lr Lp := by
 refine ret_of fn_coord_known rfl rfl ?_
 have hcap := h.cap
 have hfew := h.few
 have hfp := h.fewP
 have H := Hp.startCo h
 obtain ⟨ck, nx, wt, txs, cA, cc⟩ := c
 dsimp only at hcap hfew hfp H
 show CW _ _ _ _ (args [.agg #[.int .i64 ck, .int .i64 nx, .int .i64 wt, .slice cA txs.length cc], .string s, .int .i64 ver]) w
 dsimp only at ht
 refine Zs<|Zr<|bxA H rfl rfl fun w1 b3 H =>alo H z_Coord rfl fun w2 b6 H =>Zl (Wi rfl)<|Zl (Wi rfl)<|Zn<|Zs<|Zr<|Zl (Zw agg_Coord H 1 rfl rfl rfl)<|Zl (Yt rfl)<|cal cb_coord_find (coFindO_ok ⟨ck, nx, wt, txs, cA, cc⟩ s _ ⟨H.rd0 0 rfl, fun t ht => parts0 H 1 rfl ht, hcap, hfew, hfp⟩ hok hn) rfl rfl ?_
 rintro _ w3 ⟨⟨ck2, nx2, wt2, tx2, A2, c2⟩, Lr, Lp, rfl, ha2, ho2, hp2, hoc2, hpc2, hj2⟩
 replace H := H.joinR hj2; clear hj2
 simp only [Co.a, Co.mk.injEq] at ha2
 obtain ⟨e1, e2, e3, hma, -, -⟩ := ha2
 obtain rfl : ck = ck2 := e1.symm
 obtain rfl : nx = nx2 := e2.symm
 obtain rfl : wt = wt2 := e3.symm
 dsimp only at ho2 hp2 hoc2 hpc2 H
 rw [hi]
 refine Zl (Yu rfl)<|Zl (Xa rfl rfl)<|Zl (Xi rfl rfl)<|Zl (Xi rfl rfl)<|stN H 1 (#[.int .i64 ck, .int .i64 nx, .int .i64 wt, .slice A2 tx2.length c2]) siz_Coord rfl rfl rfl rfl rfl (by kernel_rfl) (by kernel_rfl) fun w4 H =>Zl (Wi rfl)<|Zl (Wi rfl)<|Zn<|Zs<|Zb<|Zs<|Zr<|Zl (Yi rfl)<|Zl (neqF_r rfl rfl rfl) ?_
 refine Zl (Wb rfl)<|Zn<|ZF rfl<|Zs<|Zr<|Zl (Yi rfl)<|Zl (lssF_r rfl rfl (by omega))<|Zl (Wb rfl)<|Zn<|ZF rfl<|Zs ?_
 obtain ⟨t2, ht2, hta⟩ := map_at hma ht
 have hl2 := (getE ht2).1
 obtain ⟨g, cur, rfl, rfl, row⟩ := ho2.row (by omega)
 have hver : t2.ver = t.ver := by show t2.a.ver = t.a.ver; rw [hta]
 refine Zr<|Zl (Zf fd_Coord_3 rfl)<|Zl (Zd one_LTxn H 1 rfl rfl rfl)<|Zl (Yi rfl)<|Zl (ixR_r sl_LTxn rfl rfl (by omega))<|Zl (Zf fd_Txn_2 rfl)<|Zl (ldR_r one_int row ht2 2 rfl (H.ent (i := 2) rfl) rfl)<|Zl (Yi rfl)<|Zl (neqF_r rfl rfl (by omega))<|Zl (Wb rfl)<|Zn<|ZF rfl<|Zk<|Zs ?_
 refine Zr<|Zl (Zw agg_Coord H 1 rfl rfl rfl)<|Zl (Yi rfl)<|stN H 0 (#[.int .i64 ck, .int .i64 nx, .int .i64 wt, .slice (some ⟨g, 0, none⟩) tx2.length c2]) siz_Coord rfl rfl rfl rfl rfl (by kernel_rfl) (by kernel_rfl) fun w5 H =>Zl (Wi rfl)<|Zl (Wi rfl)<|Zn<|Zt ?_
 exact finCTT (cs0 := #[.int .i64 ck, .int .i64 nx, .int .i64 wt, .slice (some ⟨g, 0, none⟩) tx2.length c2]) (v1 := .int .i64 (i : Nat)) (v2 := .int .i64 0) rfl agg_Coord rfl (H.ent (i := 0) rfl) rfl rfl rfl ⟨⟨ck, nx, wt, tx2, some ⟨g, 0, none⟩, c2⟩, [(g, .cells cur T_Txn (0, 0))], Lp, rfl, by unfold Co.a; dsimp only; rw [hma], Row.own row, hp2, hoc2, hpc2, H.forget (.cons _ (.cons _ (List.sublist_append_left _ _))) (by simp)⟩
end Go.Proofs.Ytemnchkebhclpaa
end

section
namespace Go.Proofs.Ytemnchkebhclpaa
open Go Go.Eng Go.RowKit
set_option linter.unusedSimpArgs false
/-- P5.5 -/
def endTx (want : Int) (t : Tx) : Option Tx := if t.state = 2 then some { t with state := want } else if t.state = 1 ∧ t.done = 0 then some { t with done := want } else if t.state = want ∨ (t.state = 1 ∧ t.done = want) then some t else none
def wantOf (commit : Bool) : Int := if commit then 3 else 4
theorem OwnParts.same {ts : List Tx} {L : List (Nat × Obj)} {i : Nat} {t t' : Tx} (h : OwnParts ts L) (hi : ts[i]? = some t) (h1 : t'.A = t.A) (h2 : t'.parts = t.parts) (h3 : t'.cap = t.cap) : OwnParts (ts.set i t') L := by
 obtain ⟨La, Lt, Lb, rfl, ho, hs⟩ := h.at_ hi
 exact hs t' Lt (by rw [h1, h2, h3]; exact ho)
theorem a_state {t t' : Tx} (h : t'.a = t.a) (v : Int) : ({ t' with state := v } : Tx).a = ({ t with state := v } : Tx).a := congrArg (fun x : Tx => ({ x with state := v } : Tx)) h
theorem a_done {t t' : Tx} (h : t'.a = t.a) (v : Int) : ({ t' with done := v } : Tx).a = ({ t with done := v } : Tx).a := congrArg (fun x : Tx => ({ x with done := v } : Tx)) h
theorem set_a {txs tx2 : List Tx} (h : tx2.map Tx.a = txs.map Tx.a) (i : Nat) {t t' : Tx} (ht : t'.a = t.a) : (tx2.set i t').map Tx.a = (txs.set i t).map Tx.a := by rw [List.map_set, List.map_set, h, ht]
theorem caps_set {ts : List Tx} (h : ∀ t ∈ ts, t.parts.length ≤ t.cap) {i : Nat} {t t' : Tx} (hi : ts[i]? = some t) (h2 : t'.parts = t.parts) (h3 : t'.cap = t.cap) : ∀ x ∈ ts.set i t', x.parts.length ≤ x.cap := fun x hx => by
 rcases List.mem_or_eq_of_mem_set hx with hx | rfl
 ·
  exact h x hx
 ·
  rw [h2, h3]; exact h t (List.mem_of_getElem? hi)
set_option maxHeartbeats 4000000 in
set_option maxRecDepth 10000 in
theorem end_true (c : Co) (s : ByteArray) (ver : Int) (i : Nat) (t : Tx) (w : World) (h : c.rd 0 w.heap.size w) (hok : coOk c = true) (hn : nameOk s = true) (hi : nameIdx c s = i) (ht : c.txs[i]? = some t) (hv : t.ver = ver) : Ret Try.prog i_coord_End [c.v, .string s, .int .i64 ver, .bool true] w fun v w2 => match endTx 3 t with | none => v = .tuple #[.agg #[.int .i64 0, .int .i64 0, .int .i64 0, .slice none 0 0], .int .i64 12] ∧ Below w.heap.size w w2 | some t' => ∃ (c' : Co) (Lr Lp : List (Nat × Obj)), v = .tuple #[c'.v, .int .i64 0] ∧ OwnCo w w2 (Co.a { c with txs := c.txs.set i t' }) c' Lr Lp := by
 refine ret_of fn_coord_End rfl rfl ?_
 have hcap := h.cap
 have hfew := h.few
 have hfp := h.fewP
 have H := Hp.startCo h
 obtain ⟨ck, nx, wt, txs, cA, cc⟩ := c
 dsimp only at hcap hfew hfp H
 show CW _ _ _ _ (args [.agg #[.int .i64 ck, .int .i64 nx, .int .i64 wt, .slice cA txs.length cc], .string s, .int .i64 ver, .bool true]) w
 dsimp only at ht ⊢
 refine Zs<|Zr<|bxA H rfl rfl fun w1 b4 H =>alo H z_Coord rfl fun w2 b8 H =>Zl (Wi rfl)<|Zn<|Zs<|Zr<|Zl (Zw agg_Coord H 1 rfl rfl rfl)<|Zl (Yt rfl)<|Zl (Yi rfl)<|cal cb_coord_known (known_ok ⟨ck, nx, wt, txs, cA, cc⟩ s ver i t _ ⟨H.rd0 0 rfl, fun t ht => parts0 H 1 rfl ht, hcap, hfew, hfp⟩ hok hn hi ht hv) rfl rfl ?_
 rintro _ w3 ⟨⟨ck2, nx2, wt2, tx2, A2, c2⟩, Lr, Lp, rfl, ha2, ho2, hp2, hoc2, hpc2, hj2⟩
 replace H := H.joinR hj2; clear hj2
 simp only [Co.a, Co.mk.injEq] at ha2
 obtain ⟨e1, e2, e3, hma, -, -⟩ := ha2
 obtain rfl : ck = ck2 := e1.symm
 obtain rfl : nx = nx2 := e2.symm
 obtain rfl : wt = wt2 := e3.symm
 dsimp only at ho2 hp2 hoc2 hpc2 H
 refine Zl (Yu rfl)<|Zl (Xa rfl rfl)<|Zl (Xi rfl rfl)<|Zl (Xi rfl rfl)<|stN H 1 (#[.int .i64 ck, .int .i64 nx, .int .i64 wt, .slice A2 tx2.length c2]) siz_Coord rfl rfl rfl rfl rfl (by kernel_rfl) (by kernel_rfl) fun w4 H =>Zl (Wi rfl)<|Zl (Wi rfl)<|Zn<|Zs<|Zs<|Zr<|Zl (Yi rfl)<|Zl (neqF_r rfl rfl rfl)<|Zn ?_
 refine ZF rfl<|Zk<|Zs<|Zr<|Zl (Wi rfl)<|Zn<|Zs<|Zs<|Zr<|Zl (Yb rfl)<|Zn<|ZT rfl<|Zr<|Zl (Wi rfl) ?_
 refine Zn<|Zs<|Zs ?_
 obtain ⟨t2, ht2, hta⟩ := map_at hma ht
 have hl2 := (getE ht2).1
 obtain ⟨g, cur, rfl, rfl, row⟩ := ho2.row (by omega)
 have hst : t2.state = t.state := by show t2.a.state = t.a.state; rw [hta]
 have hdn : t2.done = t.done := by show t2.a.done = t.a.done; rw [hta]
 refine Zr<|Zl (Zf fd_Coord_3 rfl)<|Zl (Zd one_LTxn H 1 rfl rfl rfl)<|Zl (Yi rfl)<|Zl (ixR_r sl_LTxn rfl rfl (by omega))<|Zl (Wp rfl)<|Zn<|Zb<|Zs<|Zr<|Zl (Yp rfl)<|Zl (nck_r rfl)<|Zl (Zf fd_Txn_3 rfl)<|Zl (ldR_r one_int row ht2 3 rfl (H.ent (i := 2) rfl) rfl) ?_
 refine lwD (eql_r rfl rfl) rfl rfl rfl (fun h37 => ?_) (fun h37 => ?_)
 ·
  refine Zl (Wb rfl)<|Zn<|ZT rfl<|Zr<|Zl (Yp rfl)<|Zl (Yi rfl)<|Zl (nck_r rfl)<|Zl (Zf fd_Txn_3 rfl)<|stR H 2 ({ t2 with state := 3 }) siz_int row ht2 3 rfl rfl rfl rfl rfl rfl (by kernel_rfl) fun w6 cur5 row5 H =>Zn<|Zs<|Zr<|Zl (Zw agg_Coord H 1 rfl rfl rfl)<|stN H 0 (#[.int .i64 ck, .int .i64 nx, .int .i64 wt, .slice (some ⟨g, 0, none⟩) tx2.length c2]) siz_Coord rfl rfl rfl rfl rfl (by kernel_rfl) (by kernel_rfl) fun w7 H => ?_
  refine Zl (Wi rfl)<|Zn<|Zt ?_
  have hE : endTx 3 t = some { t with state := 3 } := by unfold endTx; rw [if_pos (by omega)]
  rw [hE]
  dsimp only
  exact finCTn (cs0 := #[.int .i64 ck, .int .i64 nx, .int .i64 wt, .slice (some ⟨g, 0, none⟩) tx2.length c2]) (v1 := .int .i64 0) rfl agg_Coord rfl (H.ent (i := 0) rfl) rfl rfl ⟨⟨ck, nx, wt, (tx2.set i { t2 with state := 3 }), some ⟨g, 0, none⟩, c2⟩, [(g, .cells cur5 T_Txn (0, 0))], Lp, by unfold Co.v Co.c; dsimp only; rw [List.length_set], by unfold Co.a; dsimp only; rw [set_a hma i (a_state hta _)], Row.own row5, hp2.same ht2 rfl rfl rfl, by dsimp only; rw [List.length_set]; exact hoc2, caps_set hpc2 ht2 rfl rfl, H.forget (.cons _ (.cons _ (List.sublist_append_left _ _))) (by simp)⟩
 ·
  refine Zl (Wb rfl)<|Zn<|ZF rfl<|Zs<|Zr<|Zl (Yp rfl)<|Zl (nck_r rfl)<|Zl (Zf fd_Txn_3 rfl)<|Zl (ldR_r one_int row ht2 3 rfl (H.ent (i := 2) rfl) rfl) ?_
  refine lwD (eql_r rfl rfl) rfl rfl rfl (fun h47 => ?_) (fun h47 => ?_)
  ·
   refine Zl (Yb rfl)<|ZG<|Zl (Yp rfl)<|ZG<|Zl (nck_r rfl)<|ZG<|Zl (Zf fd_Txn_6 rfl)<|ZG<|Zl (ldR_r one_int row ht2 6 rfl (H.ent (i := 2) rfl) rfl)<|ZG ?_
   refine lwD (eql_r rfl rfl) rfl rfl rfl (fun h53 => ?_) (fun h53 => ?_)
   ·
    refine Zl (Kt rfl rfl)<|Zl (Wb rfl)<|Zn<|ZT rfl<|Zr<|Zl (Yp rfl)<|Zl (Yi rfl)<|Zl (nck_r rfl)<|Zl (Zf fd_Txn_6 rfl)<|stR H 2 ({ t2 with done := 3 }) siz_int row ht2 6 rfl rfl rfl rfl rfl rfl (by kernel_rfl) fun w9 cur8 row8 H =>Zn<|Zs<|Zr<|Zl (Zw agg_Coord H 1 rfl rfl rfl) ?_
    refine stN H 0 (#[.int .i64 ck, .int .i64 nx, .int .i64 wt, .slice (some ⟨g, 0, none⟩) tx2.length c2]) siz_Coord rfl rfl rfl rfl rfl (by kernel_rfl) (by kernel_rfl) fun w10 H =>Zl (Wi rfl)<|Zn<|Zt ?_
    have hE : endTx 3 t = some { t with done := 3 } := by unfold endTx; rw [if_neg (by omega), if_pos (by omega)]
    rw [hE]
    dsimp only
    exact finCTn (cs0 := #[.int .i64 ck, .int .i64 nx, .int .i64 wt, .slice (some ⟨g, 0, none⟩) tx2.length c2]) (v1 := .int .i64 0) rfl agg_Coord rfl (H.ent (i := 0) rfl) rfl rfl ⟨⟨ck, nx, wt, (tx2.set i { t2 with done := 3 }), some ⟨g, 0, none⟩, c2⟩, [(g, .cells cur8 T_Txn (0, 0))], Lp, by unfold Co.v Co.c; dsimp only; rw [List.length_set], by unfold Co.a; dsimp only; rw [set_a hma i (a_done hta _)], Row.own row8, hp2.same ht2 rfl rfl rfl, by dsimp only; rw [List.length_set]; exact hoc2, caps_set hpc2 ht2 rfl rfl, H.forget (.cons _ (.cons _ (List.sublist_append_left _ _))) (by simp)⟩
   ·
    refine Zl (Kt rfl rfl)<|Zl (Wb rfl)<|Zn<|ZF rfl<|Zs<|Zs<|Zr<|Zl (Yp rfl)<|Zl (nck_r rfl)<|Zl (Zf fd_Txn_3 rfl)<|Zl (ldR_r one_int row ht2 3 rfl (H.ent (i := 2) rfl) rfl)<|Zl (Yi rfl) ?_
    refine lwD (eql_r rfl rfl) rfl rfl rfl (fun h65 => ?_) (fun h65 => ?_)
    ·
     refine Zl (Wb rfl)<|Zn<|ZT rfl<|Zk<|ZT rfl<|Zk<|Zs<|Zr<|Zl (Zw agg_Coord H 1 rfl rfl rfl)<|stN H 0 (#[.int .i64 ck, .int .i64 nx, .int .i64 wt, .slice (some ⟨g, 0, none⟩) tx2.length c2]) siz_Coord rfl rfl rfl rfl rfl (by kernel_rfl) (by kernel_rfl) fun w11 H =>Zl (Wi rfl)<|Zn<|Zt ?_
     have hE : endTx 3 t = some t := by unfold endTx; rw [if_neg (by omega), if_neg (by omega), if_pos (by omega)]
     rw [hE]
     dsimp only
     exact finCTn (cs0 := #[.int .i64 ck, .int .i64 nx, .int .i64 wt, .slice (some ⟨g, 0, none⟩) tx2.length c2]) (v1 := .int .i64 0) rfl agg_Coord rfl (H.ent (i := 0) rfl) rfl rfl ⟨⟨ck, nx, wt, tx2, some ⟨g, 0, none⟩, c2⟩, [(g, .cells cur T_Txn (0, 0))], Lp, rfl, by unfold Co.a; dsimp only; rw [set_same ht, hma], Row.own row, hp2, hoc2, hpc2, H.forget (.cons _ (.cons _ (List.sublist_append_left _ _))) (by simp)⟩
    ·
     refine Zl (Wb rfl)<|Zn<|ZF rfl<|Zr<|Zl (Yp rfl)<|Zl (nck_r rfl)<|Zl (Zf fd_Txn_3 rfl)<|Zl (ldR_r one_int row ht2 3 rfl (H.ent (i := 2) rfl) rfl) ?_
     refine lwD (eql_r rfl rfl) rfl rfl rfl (fun h70 => ?_) (fun h70 => ?_)
     ·
      refine Zl (Yb rfl)<|ZG<|Zl (Yp rfl)<|ZG<|Zl (nck_r rfl)<|ZG<|Zl (Zf fd_Txn_6 rfl)<|ZG<|Zl (ldR_r one_int row ht2 6 rfl (H.ent (i := 2) rfl) rfl)<|ZG<|Zl (Yi rfl)<|ZG ?_
      refine lwD (eql_r rfl rfl) rfl rfl rfl (fun h77 => ?_) (fun h77 => ?_)
      ·
       refine Zl (Kt rfl rfl)<|Zl (Wb rfl)<|Zn<|ZT rfl<|Zk<|Zs<|Zr<|Zl (Zw agg_Coord H 1 rfl rfl rfl)<|stN H 0 (#[.int .i64 ck, .int .i64 nx, .int .i64 wt, .slice (some ⟨g, 0, none⟩) tx2.length c2]) siz_Coord rfl rfl rfl rfl rfl (by kernel_rfl) (by kernel_rfl) fun w12 H =>Zl (Wi rfl)<|Zn<|Zt ?_
       have hE : endTx 3 t = some t := by unfold endTx; rw [if_neg (by omega), if_neg (by omega), if_pos (by omega)]
       rw [hE]
       dsimp only
       exact finCTn (cs0 := #[.int .i64 ck, .int .i64 nx, .int .i64 wt, .slice (some ⟨g, 0, none⟩) tx2.length c2]) (v1 := .int .i64 0) rfl agg_Coord rfl (H.ent (i := 0) rfl) rfl rfl ⟨⟨ck, nx, wt, tx2, some ⟨g, 0, none⟩, c2⟩, [(g, .cells cur T_Txn (0, 0))], Lp, rfl, by unfold Co.a; dsimp only; rw [set_same ht, hma], Row.own row, hp2, hoc2, hpc2, H.forget (.cons _ (.cons _ (List.sublist_append_left _ _))) (by simp)⟩
      ·
       refine Zl (Kt rfl rfl)<|Zl (Wb rfl)<|Zn<|ZF rfl<|Zs<|Zr<|Zl (bld_r (cs := #[.int .i64 0, .int .i64 0, .int .i64 0, .slice none 0 0]) st_Coord z_Coord (by kernel_rfl))<|stN H 0 (#[.int .i64 0, .int .i64 0, .int .i64 0, .slice none 0 0]) siz_Coord rfl rfl rfl rfl rfl (by kernel_rfl) (by kernel_rfl) fun w13 H =>Zl (Wi rfl)<|Zn<|Zt ?_
       have hE : endTx 3 t = none := by unfold endTx; rw [if_neg (by omega), if_neg (by omega), if_neg (by omega)]
       rw [hE]
       dsimp only
       exact finCTn (cs0 := #[.int .i64 0, .int .i64 0, .int .i64 0, .slice none 0 0]) (v1 := .int .i64 12) rfl agg_Coord rfl (H.ent (i := 0) rfl) rfl rfl ⟨rfl, H.below⟩
     ·
      refine Zl (Yb rfl)<|ZN<|ZN<|ZN<|ZN<|ZN<|ZN<|Zl (Kf rfl rfl)<|Zl (Wb rfl)<|Zn<|ZF rfl<|Zs<|Zr<|Zl (bld_r (cs := #[.int .i64 0, .int .i64 0, .int .i64 0, .slice none 0 0]) st_Coord z_Coord (by kernel_rfl)) ?_
      refine stN H 0 (#[.int .i64 0, .int .i64 0, .int .i64 0, .slice none 0 0]) siz_Coord rfl rfl rfl rfl rfl (by kernel_rfl) (by kernel_rfl) fun w14 H =>Zl (Wi rfl)<|Zn<|Zt ?_
      have hE : endTx 3 t = none := by unfold endTx; rw [if_neg (by omega), if_neg (by omega), if_neg (by omega)]
      rw [hE]
      dsimp only
      exact finCTn (cs0 := #[.int .i64 0, .int .i64 0, .int .i64 0, .slice none 0 0]) (v1 := .int .i64 12) rfl agg_Coord rfl (H.ent (i := 0) rfl) rfl rfl ⟨rfl, H.below⟩
  ·
   refine Zl (Yb rfl)<|ZN<|ZN<|ZN<|ZN<|ZN<|Zl (Kf rfl rfl)<|Zl (Wb rfl)<|Zn<|ZF rfl<|Zs<|Zs<|Zr<|Zl (Yp rfl) ?_
   refine Zl (nck_r rfl)<|Zl (Zf fd_Txn_3 rfl)<|Zl (ldR_r one_int row ht2 3 rfl (H.ent (i := 2) rfl) rfl)<|Zl (Yi rfl) ?_
   refine lwD (eql_r rfl rfl) rfl rfl rfl (fun h65 => ?_) (fun h65 => ?_)
   ·
    refine Zl (Wb rfl)<|Zn<|ZT rfl<|Zk<|ZT rfl<|Zk<|Zs<|Zr<|Zl (Zw agg_Coord H 1 rfl rfl rfl)<|stN H 0 (#[.int .i64 ck, .int .i64 nx, .int .i64 wt, .slice (some ⟨g, 0, none⟩) tx2.length c2]) siz_Coord rfl rfl rfl rfl rfl (by kernel_rfl) (by kernel_rfl) fun w15 H =>Zl (Wi rfl)<|Zn<|Zt ?_
    have hE : endTx 3 t = some t := by unfold endTx; rw [if_neg (by omega), if_neg (by omega), if_pos (by omega)]
    rw [hE]
    dsimp only
    exact finCTn (cs0 := #[.int .i64 ck, .int .i64 nx, .int .i64 wt, .slice (some ⟨g, 0, none⟩) tx2.length c2]) (v1 := .int .i64 0) rfl agg_Coord rfl (H.ent (i := 0) rfl) rfl rfl ⟨⟨ck, nx, wt, tx2, some ⟨g, 0, none⟩, c2⟩, [(g, .cells cur T_Txn (0, 0))], Lp, rfl, by unfold Co.a; dsimp only; rw [set_same ht, hma], Row.own row, hp2, hoc2, hpc2, H.forget (.cons _ (.cons _ (List.sublist_append_left _ _))) (by simp)⟩
   ·
    refine Zl (Wb rfl)<|Zn<|ZF rfl<|Zr<|Zl (Yp rfl)<|Zl (nck_r rfl)<|Zl (Zf fd_Txn_3 rfl)<|Zl (ldR_r one_int row ht2 3 rfl (H.ent (i := 2) rfl) rfl) ?_
    refine lwD (eql_r rfl rfl) rfl rfl rfl (fun h70 => ?_) (fun h70 => ?_)
    ·
     refine Zl (Yb rfl)<|ZG<|Zl (Yp rfl)<|ZG<|Zl (nck_r rfl)<|ZG<|Zl (Zf fd_Txn_6 rfl)<|ZG<|Zl (ldR_r one_int row ht2 6 rfl (H.ent (i := 2) rfl) rfl)<|ZG<|Zl (Yi rfl)<|ZG ?_
     refine lwD (eql_r rfl rfl) rfl rfl rfl (fun h77 => ?_) (fun h77 => ?_)
     ·
      refine Zl (Kt rfl rfl)<|Zl (Wb rfl)<|Zn<|ZT rfl<|Zk<|Zs<|Zr<|Zl (Zw agg_Coord H 1 rfl rfl rfl)<|stN H 0 (#[.int .i64 ck, .int .i64 nx, .int .i64 wt, .slice (some ⟨g, 0, none⟩) tx2.length c2]) siz_Coord rfl rfl rfl rfl rfl (by kernel_rfl) (by kernel_rfl) fun w16 H =>Zl (Wi rfl)<|Zn<|Zt ?_
      have hE : endTx 3 t = some t := by unfold endTx; rw [if_neg (by omega), if_neg (by omega), if_pos (by omega)]
      rw [hE]
      dsimp only
      exact finCTn (cs0 := #[.int .i64 ck, .int .i64 nx, .int .i64 wt, .slice (some ⟨g, 0, none⟩) tx2.length c2]) (v1 := .int .i64 0) rfl agg_Coord rfl (H.ent (i := 0) rfl) rfl rfl ⟨⟨ck, nx, wt, tx2, some ⟨g, 0, none⟩, c2⟩, [(g, .cells cur T_Txn (0, 0))], Lp, rfl, by unfold Co.a; dsimp only; rw [set_same ht, hma], Row.own row, hp2, hoc2, hpc2, H.forget (.cons _ (.cons _ (List.sublist_append_left _ _))) (by simp)⟩
     ·
      refine Zl (Kt rfl rfl)<|Zl (Wb rfl)<|Zn<|ZF rfl<|Zs<|Zr<|Zl (bld_r (cs := #[.int .i64 0, .int .i64 0, .int .i64 0, .slice none 0 0]) st_Coord z_Coord (by kernel_rfl))<|stN H 0 (#[.int .i64 0, .int .i64 0, .int .i64 0, .slice none 0 0]) siz_Coord rfl rfl rfl rfl rfl (by kernel_rfl) (by kernel_rfl) fun w17 H =>Zl (Wi rfl)<|Zn<|Zt ?_
      have hE : endTx 3 t = none := by unfold endTx; rw [if_neg (by omega), if_neg (by omega), if_neg (by omega)]
      rw [hE]
      dsimp only
      exact finCTn (cs0 := #[.int .i64 0, .int .i64 0, .int .i64 0, .slice none 0 0]) (v1 := .int .i64 12) rfl agg_Coord rfl (H.ent (i := 0) rfl) rfl rfl ⟨rfl, H.below⟩
    ·
     refine Zl (Yb rfl)<|ZN<|ZN<|ZN<|ZN<|ZN<|ZN<|Zl (Kf rfl rfl)<|Zl (Wb rfl)<|Zn<|ZF rfl<|Zs<|Zr<|Zl (bld_r (cs := #[.int .i64 0, .int .i64 0, .int .i64 0, .slice none 0 0]) st_Coord z_Coord (by kernel_rfl)) ?_
     refine stN H 0 (#[.int .i64 0, .int .i64 0, .int .i64 0, .slice none 0 0]) siz_Coord rfl rfl rfl rfl rfl (by kernel_rfl) (by kernel_rfl) fun w18 H =>Zl (Wi rfl)<|Zn<|Zt ?_
     have hE : endTx 3 t = none := by unfold endTx; rw [if_neg (by omega), if_neg (by omega), if_neg (by omega)]
     rw [hE]
     dsimp only
     exact finCTn (cs0 := #[.int .i64 0, .int .i64 0, .int .i64 0, .slice none 0 0]) (v1 := .int .i64 12) rfl agg_Coord rfl (H.ent (i := 0) rfl) rfl rfl ⟨rfl, H.below⟩
set_option maxHeartbeats 4000000 in
set_option maxRecDepth 10000 in
theorem end_false (c : Co) (s : ByteArray) (ver : Int) (i : Nat) (t : Tx) (w : World) (h : c.rd 0 w.heap.size w) (hok : coOk c = true) (hn : nameOk s = true) (hi : nameIdx c s = i) (ht : c.txs[i]? = some t) (hv : t.ver = ver) : Ret Try.prog i_coord_End [c.v, .string s, .int .i64 ver, .bool false] w fun v w2 => match endTx 4 t with | none => v = .tuple #[.agg #[.int .i64 0, .int .i64 0, .int .i64 0, .slice none 0 0], .int .i64 12] ∧ Below w.heap.size w w2 | some t' => ∃ (c' : Co) (Lr Lp : List (Nat × Obj)), v = .tuple #[c'.v, .int .i64 0] ∧ OwnCo w w2 (Co.a { c with txs := c.txs.set i t' }) c' Lr Lp := by
 refine ret_of fn_coord_End rfl rfl ?_
 have hcap := h.cap
 have hfew := h.few
 have hfp := h.fewP
 have H := Hp.startCo h
 obtain ⟨ck, nx, wt, txs, cA, cc⟩ := c
 dsimp only at hcap hfew hfp H
 show CW _ _ _ _ (args [.agg #[.int .i64 ck, .int .i64 nx, .int .i64 wt, .slice cA txs.length cc], .string s, .int .i64 ver, .bool false]) w
 dsimp only at ht ⊢
 refine Zs<|Zr<|bxA H rfl rfl fun w1 b4 H =>alo H z_Coord rfl fun w2 b8 H =>Zl (Wi rfl)<|Zn<|Zs<|Zr<|Zl (Zw agg_Coord H 1 rfl rfl rfl)<|Zl (Yt rfl)<|Zl (Yi rfl)<|cal cb_coord_known (known_ok ⟨ck, nx, wt, txs, cA, cc⟩ s ver i t _ ⟨H.rd0 0 rfl, fun t ht => parts0 H 1 rfl ht, hcap, hfew, hfp⟩ hok hn hi ht hv) rfl rfl ?_
 rintro _ w3 ⟨⟨ck2, nx2, wt2, tx2, A2, c2⟩, Lr, Lp, rfl, ha2, ho2, hp2, hoc2, hpc2, hj2⟩
 replace H := H.joinR hj2; clear hj2
 simp only [Co.a, Co.mk.injEq] at ha2
 obtain ⟨e1, e2, e3, hma, -, -⟩ := ha2
 obtain rfl : ck = ck2 := e1.symm
 obtain rfl : nx = nx2 := e2.symm
 obtain rfl : wt = wt2 := e3.symm
 dsimp only at ho2 hp2 hoc2 hpc2 H
 refine Zl (Yu rfl)<|Zl (Xa rfl rfl)<|Zl (Xi rfl rfl)<|Zl (Xi rfl rfl)<|stN H 1 (#[.int .i64 ck, .int .i64 nx, .int .i64 wt, .slice A2 tx2.length c2]) siz_Coord rfl rfl rfl rfl rfl (by kernel_rfl) (by kernel_rfl) fun w4 H =>Zl (Wi rfl)<|Zl (Wi rfl)<|Zn<|Zs<|Zs<|Zr<|Zl (Yi rfl)<|Zl (neqF_r rfl rfl rfl)<|Zn ?_
 refine ZF rfl<|Zk<|Zs<|Zr<|Zl (Wi rfl)<|Zn<|Zs<|Zs<|Zr<|Zl (Yb rfl)<|Zn<|ZF rfl<|Zk<|Zs ?_
 refine Zs ?_
 obtain ⟨t2, ht2, hta⟩ := map_at hma ht
 have hl2 := (getE ht2).1
 obtain ⟨g, cur, rfl, rfl, row⟩ := ho2.row (by omega)
 have hst : t2.state = t.state := by show t2.a.state = t.a.state; rw [hta]
 have hdn : t2.done = t.done := by show t2.a.done = t.a.done; rw [hta]
 refine Zr<|Zl (Zf fd_Coord_3 rfl)<|Zl (Zd one_LTxn H 1 rfl rfl rfl)<|Zl (Yi rfl)<|Zl (ixR_r sl_LTxn rfl rfl (by omega))<|Zl (Wp rfl)<|Zn<|Zb<|Zs<|Zr<|Zl (Yp rfl)<|Zl (nck_r rfl)<|Zl (Zf fd_Txn_3 rfl)<|Zl (ldR_r one_int row ht2 3 rfl (H.ent (i := 2) rfl) rfl) ?_
 refine lwD (eql_r rfl rfl) rfl rfl rfl (fun h37 => ?_) (fun h37 => ?_)
 ·
  refine Zl (Wb rfl)<|Zn<|ZT rfl<|Zr<|Zl (Yp rfl)<|Zl (Yi rfl)<|Zl (nck_r rfl)<|Zl (Zf fd_Txn_3 rfl)<|stR H 2 ({ t2 with state := 4 }) siz_int row ht2 3 rfl rfl rfl rfl rfl rfl (by kernel_rfl) fun w6 cur5 row5 H =>Zn<|Zs<|Zr<|Zl (Zw agg_Coord H 1 rfl rfl rfl)<|stN H 0 (#[.int .i64 ck, .int .i64 nx, .int .i64 wt, .slice (some ⟨g, 0, none⟩) tx2.length c2]) siz_Coord rfl rfl rfl rfl rfl (by kernel_rfl) (by kernel_rfl) fun w7 H => ?_
  refine Zl (Wi rfl)<|Zn<|Zt ?_
  have hE : endTx 4 t = some { t with state := 4 } := by unfold endTx; rw [if_pos (by omega)]
  rw [hE]
  dsimp only
  exact finCTn (cs0 := #[.int .i64 ck, .int .i64 nx, .int .i64 wt, .slice (some ⟨g, 0, none⟩) tx2.length c2]) (v1 := .int .i64 0) rfl agg_Coord rfl (H.ent (i := 0) rfl) rfl rfl ⟨⟨ck, nx, wt, (tx2.set i { t2 with state := 4 }), some ⟨g, 0, none⟩, c2⟩, [(g, .cells cur5 T_Txn (0, 0))], Lp, by unfold Co.v Co.c; dsimp only; rw [List.length_set], by unfold Co.a; dsimp only; rw [set_a hma i (a_state hta _)], Row.own row5, hp2.same ht2 rfl rfl rfl, by dsimp only; rw [List.length_set]; exact hoc2, caps_set hpc2 ht2 rfl rfl, H.forget (.cons _ (.cons _ (List.sublist_append_left _ _))) (by simp)⟩
 ·
  refine Zl (Wb rfl)<|Zn<|ZF rfl<|Zs<|Zr<|Zl (Yp rfl)<|Zl (nck_r rfl)<|Zl (Zf fd_Txn_3 rfl)<|Zl (ldR_r one_int row ht2 3 rfl (H.ent (i := 2) rfl) rfl) ?_
  refine lwD (eql_r rfl rfl) rfl rfl rfl (fun h47 => ?_) (fun h47 => ?_)
  ·
   refine Zl (Yb rfl)<|ZG<|Zl (Yp rfl)<|ZG<|Zl (nck_r rfl)<|ZG<|Zl (Zf fd_Txn_6 rfl)<|ZG<|Zl (ldR_r one_int row ht2 6 rfl (H.ent (i := 2) rfl) rfl)<|ZG ?_
   refine lwD (eql_r rfl rfl) rfl rfl rfl (fun h53 => ?_) (fun h53 => ?_)
   ·
    refine Zl (Kt rfl rfl)<|Zl (Wb rfl)<|Zn<|ZT rfl<|Zr<|Zl (Yp rfl)<|Zl (Yi rfl)<|Zl (nck_r rfl)<|Zl (Zf fd_Txn_6 rfl)<|stR H 2 ({ t2 with done := 4 }) siz_int row ht2 6 rfl rfl rfl rfl rfl rfl (by kernel_rfl) fun w9 cur8 row8 H =>Zn<|Zs<|Zr<|Zl (Zw agg_Coord H 1 rfl rfl rfl) ?_
    refine stN H 0 (#[.int .i64 ck, .int .i64 nx, .int .i64 wt, .slice (some ⟨g, 0, none⟩) tx2.length c2]) siz_Coord rfl rfl rfl rfl rfl (by kernel_rfl) (by kernel_rfl) fun w10 H =>Zl (Wi rfl)<|Zn<|Zt ?_
    have hE : endTx 4 t = some { t with done := 4 } := by unfold endTx; rw [if_neg (by omega), if_pos (by omega)]
    rw [hE]
    dsimp only
    exact finCTn (cs0 := #[.int .i64 ck, .int .i64 nx, .int .i64 wt, .slice (some ⟨g, 0, none⟩) tx2.length c2]) (v1 := .int .i64 0) rfl agg_Coord rfl (H.ent (i := 0) rfl) rfl rfl ⟨⟨ck, nx, wt, (tx2.set i { t2 with done := 4 }), some ⟨g, 0, none⟩, c2⟩, [(g, .cells cur8 T_Txn (0, 0))], Lp, by unfold Co.v Co.c; dsimp only; rw [List.length_set], by unfold Co.a; dsimp only; rw [set_a hma i (a_done hta _)], Row.own row8, hp2.same ht2 rfl rfl rfl, by dsimp only; rw [List.length_set]; exact hoc2, caps_set hpc2 ht2 rfl rfl, H.forget (.cons _ (.cons _ (List.sublist_append_left _ _))) (by simp)⟩
   ·
    refine Zl (Kt rfl rfl)<|Zl (Wb rfl)<|Zn<|ZF rfl<|Zs<|Zs<|Zr<|Zl (Yp rfl)<|Zl (nck_r rfl)<|Zl (Zf fd_Txn_3 rfl)<|Zl (ldR_r one_int row ht2 3 rfl (H.ent (i := 2) rfl) rfl)<|Zl (Yi rfl) ?_
    refine lwD (eql_r rfl rfl) rfl rfl rfl (fun h65 => ?_) (fun h65 => ?_)
    ·
     refine Zl (Wb rfl)<|Zn<|ZT rfl<|Zk<|ZT rfl<|Zk<|Zs<|Zr<|Zl (Zw agg_Coord H 1 rfl rfl rfl)<|stN H 0 (#[.int .i64 ck, .int .i64 nx, .int .i64 wt, .slice (some ⟨g, 0, none⟩) tx2.length c2]) siz_Coord rfl rfl rfl rfl rfl (by kernel_rfl) (by kernel_rfl) fun w11 H =>Zl (Wi rfl)<|Zn<|Zt ?_
     have hE : endTx 4 t = some t := by unfold endTx; rw [if_neg (by omega), if_neg (by omega), if_pos (by omega)]
     rw [hE]
     dsimp only
     exact finCTn (cs0 := #[.int .i64 ck, .int .i64 nx, .int .i64 wt, .slice (some ⟨g, 0, none⟩) tx2.length c2]) (v1 := .int .i64 0) rfl agg_Coord rfl (H.ent (i := 0) rfl) rfl rfl ⟨⟨ck, nx, wt, tx2, some ⟨g, 0, none⟩, c2⟩, [(g, .cells cur T_Txn (0, 0))], Lp, rfl, by unfold Co.a; dsimp only; rw [set_same ht, hma], Row.own row, hp2, hoc2, hpc2, H.forget (.cons _ (.cons _ (List.sublist_append_left _ _))) (by simp)⟩
    ·
     refine Zl (Wb rfl)<|Zn<|ZF rfl<|Zr<|Zl (Yp rfl)<|Zl (nck_r rfl)<|Zl (Zf fd_Txn_3 rfl)<|Zl (ldR_r one_int row ht2 3 rfl (H.ent (i := 2) rfl) rfl) ?_
     refine lwD (eql_r rfl rfl) rfl rfl rfl (fun h70 => ?_) (fun h70 => ?_)
     ·
      refine Zl (Yb rfl)<|ZG<|Zl (Yp rfl)<|ZG<|Zl (nck_r rfl)<|ZG<|Zl (Zf fd_Txn_6 rfl)<|ZG<|Zl (ldR_r one_int row ht2 6 rfl (H.ent (i := 2) rfl) rfl)<|ZG<|Zl (Yi rfl)<|ZG ?_
      refine lwD (eql_r rfl rfl) rfl rfl rfl (fun h77 => ?_) (fun h77 => ?_)
      ·
       refine Zl (Kt rfl rfl)<|Zl (Wb rfl)<|Zn<|ZT rfl<|Zk<|Zs<|Zr<|Zl (Zw agg_Coord H 1 rfl rfl rfl)<|stN H 0 (#[.int .i64 ck, .int .i64 nx, .int .i64 wt, .slice (some ⟨g, 0, none⟩) tx2.length c2]) siz_Coord rfl rfl rfl rfl rfl (by kernel_rfl) (by kernel_rfl) fun w12 H =>Zl (Wi rfl)<|Zn<|Zt ?_
       have hE : endTx 4 t = some t := by unfold endTx; rw [if_neg (by omega), if_neg (by omega), if_pos (by omega)]
       rw [hE]
       dsimp only
       exact finCTn (cs0 := #[.int .i64 ck, .int .i64 nx, .int .i64 wt, .slice (some ⟨g, 0, none⟩) tx2.length c2]) (v1 := .int .i64 0) rfl agg_Coord rfl (H.ent (i := 0) rfl) rfl rfl ⟨⟨ck, nx, wt, tx2, some ⟨g, 0, none⟩, c2⟩, [(g, .cells cur T_Txn (0, 0))], Lp, rfl, by unfold Co.a; dsimp only; rw [set_same ht, hma], Row.own row, hp2, hoc2, hpc2, H.forget (.cons _ (.cons _ (List.sublist_append_left _ _))) (by simp)⟩
      ·
       refine Zl (Kt rfl rfl)<|Zl (Wb rfl)<|Zn<|ZF rfl<|Zs<|Zr<|Zl (bld_r (cs := #[.int .i64 0, .int .i64 0, .int .i64 0, .slice none 0 0]) st_Coord z_Coord (by kernel_rfl))<|stN H 0 (#[.int .i64 0, .int .i64 0, .int .i64 0, .slice none 0 0]) siz_Coord rfl rfl rfl rfl rfl (by kernel_rfl) (by kernel_rfl) fun w13 H =>Zl (Wi rfl)<|Zn<|Zt ?_
       have hE : endTx 4 t = none := by unfold endTx; rw [if_neg (by omega), if_neg (by omega), if_neg (by omega)]
       rw [hE]
       dsimp only
       exact finCTn (cs0 := #[.int .i64 0, .int .i64 0, .int .i64 0, .slice none 0 0]) (v1 := .int .i64 12) rfl agg_Coord rfl (H.ent (i := 0) rfl) rfl rfl ⟨rfl, H.below⟩
     ·
      refine Zl (Yb rfl)<|ZN<|ZN<|ZN<|ZN<|ZN<|ZN<|Zl (Kf rfl rfl)<|Zl (Wb rfl)<|Zn<|ZF rfl<|Zs<|Zr<|Zl (bld_r (cs := #[.int .i64 0, .int .i64 0, .int .i64 0, .slice none 0 0]) st_Coord z_Coord (by kernel_rfl)) ?_
      refine stN H 0 (#[.int .i64 0, .int .i64 0, .int .i64 0, .slice none 0 0]) siz_Coord rfl rfl rfl rfl rfl (by kernel_rfl) (by kernel_rfl) fun w14 H =>Zl (Wi rfl)<|Zn<|Zt ?_
      have hE : endTx 4 t = none := by unfold endTx; rw [if_neg (by omega), if_neg (by omega), if_neg (by omega)]
      rw [hE]
      dsimp only
      exact finCTn (cs0 := #[.int .i64 0, .int .i64 0, .int .i64 0, .slice none 0 0]) (v1 := .int .i64 12) rfl agg_Coord rfl (H.ent (i := 0) rfl) rfl rfl ⟨rfl, H.below⟩
  ·
   refine Zl (Yb rfl)<|ZN<|ZN<|ZN<|ZN<|ZN<|Zl (Kf rfl rfl)<|Zl (Wb rfl)<|Zn<|ZF rfl<|Zs<|Zs<|Zr<|Zl (Yp rfl) ?_
   refine Zl (nck_r rfl)<|Zl (Zf fd_Txn_3 rfl)<|Zl (ldR_r one_int row ht2 3 rfl (H.ent (i := 2) rfl) rfl)<|Zl (Yi rfl) ?_
   refine lwD (eql_r rfl rfl) rfl rfl rfl (fun h65 => ?_) (fun h65 => ?_)
   ·
    refine Zl (Wb rfl)<|Zn<|ZT rfl<|Zk<|ZT rfl<|Zk<|Zs<|Zr<|Zl (Zw agg_Coord H 1 rfl rfl rfl)<|stN H 0 (#[.int .i64 ck, .int .i64 nx, .int .i64 wt, .slice (some ⟨g, 0, none⟩) tx2.length c2]) siz_Coord rfl rfl rfl rfl rfl (by kernel_rfl) (by kernel_rfl) fun w15 H =>Zl (Wi rfl)<|Zn<|Zt ?_
    have hE : endTx 4 t = some t := by unfold endTx; rw [if_neg (by omega), if_neg (by omega), if_pos (by omega)]
    rw [hE]
    dsimp only
    exact finCTn (cs0 := #[.int .i64 ck, .int .i64 nx, .int .i64 wt, .slice (some ⟨g, 0, none⟩) tx2.length c2]) (v1 := .int .i64 0) rfl agg_Coord rfl (H.ent (i := 0) rfl) rfl rfl ⟨⟨ck, nx, wt, tx2, some ⟨g, 0, none⟩, c2⟩, [(g, .cells cur T_Txn (0, 0))], Lp, rfl, by unfold Co.a; dsimp only; rw [set_same ht, hma], Row.own row, hp2, hoc2, hpc2, H.forget (.cons _ (.cons _ (List.sublist_append_left _ _))) (by simp)⟩
   ·
    refine Zl (Wb rfl)<|Zn<|ZF rfl<|Zr<|Zl (Yp rfl)<|Zl (nck_r rfl)<|Zl (Zf fd_Txn_3 rfl)<|Zl (ldR_r one_int row ht2 3 rfl (H.ent (i := 2) rfl) rfl) ?_
    refine lwD (eql_r rfl rfl) rfl rfl rfl (fun h70 => ?_) (fun h70 => ?_)
    ·
     refine Zl (Yb rfl)<|ZG<|Zl (Yp rfl)<|ZG<|Zl (nck_r rfl)<|ZG<|Zl (Zf fd_Txn_6 rfl)<|ZG<|Zl (ldR_r one_int row ht2 6 rfl (H.ent (i := 2) rfl) rfl)<|ZG<|Zl (Yi rfl)<|ZG ?_
     refine lwD (eql_r rfl rfl) rfl rfl rfl (fun h77 => ?_) (fun h77 => ?_)
     ·
      refine Zl (Kt rfl rfl)<|Zl (Wb rfl)<|Zn<|ZT rfl<|Zk<|Zs<|Zr<|Zl (Zw agg_Coord H 1 rfl rfl rfl)<|stN H 0 (#[.int .i64 ck, .int .i64 nx, .int .i64 wt, .slice (some ⟨g, 0, none⟩) tx2.length c2]) siz_Coord rfl rfl rfl rfl rfl (by kernel_rfl) (by kernel_rfl) fun w16 H =>Zl (Wi rfl)<|Zn<|Zt ?_
      have hE : endTx 4 t = some t := by unfold endTx; rw [if_neg (by omega), if_neg (by omega), if_pos (by omega)]
      rw [hE]
      dsimp only
      exact finCTn (cs0 := #[.int .i64 ck, .int .i64 nx, .int .i64 wt, .slice (some ⟨g, 0, none⟩) tx2.length c2]) (v1 := .int .i64 0) rfl agg_Coord rfl (H.ent (i := 0) rfl) rfl rfl ⟨⟨ck, nx, wt, tx2, some ⟨g, 0, none⟩, c2⟩, [(g, .cells cur T_Txn (0, 0))], Lp, rfl, by unfold Co.a; dsimp only; rw [set_same ht, hma], Row.own row, hp2, hoc2, hpc2, H.forget (.cons _ (.cons _ (List.sublist_append_left _ _))) (by simp)⟩
     ·
      refine Zl (Kt rfl rfl)<|Zl (Wb rfl)<|Zn<|ZF rfl<|Zs<|Zr<|Zl (bld_r (cs := #[.int .i64 0, .int .i64 0, .int .i64 0, .slice none 0 0]) st_Coord z_Coord (by kernel_rfl))<|stN H 0 (#[.int .i64 0, .int .i64 0, .int .i64 0, .slice none 0 0]) siz_Coord rfl rfl rfl rfl rfl (by kernel_rfl) (by kernel_rfl) fun w17 H =>Zl (Wi rfl)<|Zn<|Zt ?_
      have hE : endTx 4 t = none := by unfold endTx; rw [if_neg (by omega), if_neg (by omega), if_neg (by omega)]
      rw [hE]
      dsimp only
      exact finCTn (cs0 := #[.int .i64 0, .int .i64 0, .int .i64 0, .slice none 0 0]) (v1 := .int .i64 12) rfl agg_Coord rfl (H.ent (i := 0) rfl) rfl rfl ⟨rfl, H.below⟩
    ·
     refine Zl (Yb rfl)<|ZN<|ZN<|ZN<|ZN<|ZN<|ZN<|Zl (Kf rfl rfl)<|Zl (Wb rfl)<|Zn<|ZF rfl<|Zs<|Zr<|Zl (bld_r (cs := #[.int .i64 0, .int .i64 0, .int .i64 0, .slice none 0 0]) st_Coord z_Coord (by kernel_rfl)) ?_
     refine stN H 0 (#[.int .i64 0, .int .i64 0, .int .i64 0, .slice none 0 0]) siz_Coord rfl rfl rfl rfl rfl (by kernel_rfl) (by kernel_rfl) fun w18 H =>Zl (Wi rfl)<|Zn<|Zt ?_
     have hE : endTx 4 t = none := by unfold endTx; rw [if_neg (by omega), if_neg (by omega), if_neg (by omega)]
     rw [hE]
     dsimp only
     exact finCTn (cs0 := #[.int .i64 0, .int .i64 0, .int .i64 0, .slice none 0 0]) (v1 := .int .i64 12) rfl agg_Coord rfl (H.ent (i := 0) rfl) rfl rfl ⟨rfl, H.below⟩
end Go.Proofs.Ytemnchkebhclpaa
end

section
namespace Go.Proofs.Ytemnchkebhclpaa
open Go Go.Eng Go.RowKit
set_option linter.unusedSimpArgs false
/-- P5.7: what a tick does to one producer's transaction -/
def tickTx (clock wait : Int) (t : Tx) : Tx := if t.state = 2 ∧ wait ≤ clock - t.since ∧ t.ver < 1073741824 then { t with state := 4, ver := t.ver + 1 } else t
theorem tick_a (ck wt : Int) (t : Tx) : (tickTx ck wt t).a = tickTx ck wt t.a := by
 unfold tickTx
 by_cases h : t.state = 2 ∧ wt ≤ ck - t.since ∧ t.ver < 1073741824
 ·
  rw [if_pos h, if_pos (show t.a.state = 2 ∧ wt ≤ ck - t.a.since ∧ t.a.ver < 1073741824 from h)]; rfl
 ·
  rw [if_neg h, if_neg (show ¬ (t.a.state = 2 ∧ wt ≤ ck - t.a.since ∧ t.a.ver < 1073741824) from h)]
theorem tick_keep (ck wt : Int) (t : Tx) : (tickTx ck wt t).A = t.A ∧ (tickTx ck wt t).parts = t.parts ∧ (tickTx ck wt t).cap = t.cap := by
 unfold tickTx
 split <;> exact ⟨rfl, rfl, rfl⟩
theorem OwnParts.tick (ck wt : Int) : ∀ {ts : List Tx} {L : List (Nat × Obj)}, OwnParts ts L → OwnParts (ts.map (tickTx ck wt)) L
 | [], _, h => h
 | t :: _, _, ⟨L1, L2, h1, h2, h3⟩ => ⟨L1, L2, h1, by obtain ⟨a, b, c⟩ := tick_keep ck wt t; rw [a, b, c]; exact h2, OwnParts.tick ck wt h3⟩
def ticked (ck wt : Int) (ts : List Tx) (k : Nat) : List Tx := (ts.take k).map (tickTx ck wt) ++ ts.drop k
theorem ticked_len (ck wt : Int) (ts : List Tx) (k : Nat) : (ticked ck wt ts k).length = ts.length := by
 unfold ticked; simp; omega
theorem ticked_at {ck wt : Int} {ts : List Tx} {k : Nat} {x : Tx} (h : ts[k]? = some x) : (ticked ck wt ts k)[k]? = some x := by
 have := (getE h).1
 unfold ticked
 rw [List.getElem?_append_right (by simp; omega)]
 simp
 rw [show k - min k ts.length = 0 by omega]
 simpa using h
theorem ticked_set {ck wt : Int} {ts : List Tx} {k : Nat} {x : Tx} (h : ts[k]? = some x) : (ticked ck wt ts k).set k (tickTx ck wt x) = ticked ck wt ts (k + 1) := by
 have hl := (getE h).1
 unfold ticked
 rw [take_snoc h, take_drop_step h, List.map_append, List.set_append_right _ _ (by simp; omega)]
 simp
 rw [show k - min k ts.length = 0 by omega]
 simp
theorem txsOk_mem {ck nx : Int} : ∀ {l pre : List Tx}, txsOk ck nx pre l = true → ∀ t ∈ l, txOk ck nx t = true
 | [], _, _, _, ht => by cases ht
 | x :: l, pre, h, t, ht => by
  unfold txsOk at h
  simp only [Bool.and_eq_true] at h
  rcases List.mem_cons.1 ht with rfl | ht
  ·
   exact h.1.1
  ·
   exact txsOk_mem h.2 t ht
def tickCo (c : Co) (n : Int) : Co := { c with clock := c.clock + n, txs := c.txs.map (tickTx (c.clock + n) c.wait) }
set_option maxHeartbeats 4000000 in
set_option maxRecDepth 10000 in
theorem tick_ok (c : Co) (n : Int) (w : World) (h : c.rd 0 w.heap.size w) (hok : coOk c = true) (hn0 : 0 ≤ n) (hn1 : n ≤ 1000) (hcl : c.clock + n ≤ 1073741824) : Ret Try.prog i_coord_Tick [c.v, .int .i64 n] w fun v w2 => ∃ (c' : Co) (Lr Lp : List (Nat × Obj)), v = .tuple #[c'.v, .int .i64 0] ∧ OwnCo w w2 (tickCo c.a n) c' Lr Lp := by
 refine ret_of fn_coord_Tick rfl rfl ?_
 have hcap := h.cap
 have hfew := h.few
 have hfp := h.fewP
 have H := Hp.startCo h
 obtain ⟨ck, nx, wt, txs, cA, cc⟩ := c
 dsimp only at hcap hfew hfp H
 show CW _ _ _ _ (args [.agg #[.int .i64 ck, .int .i64 nx, .int .i64 wt, .slice cA txs.length cc], .int .i64 n]) w
 dsimp only at hcl
 obtain ⟨q1, q2, q3, q4, q5, q6, q7⟩ := coOk_iff.1 hok
 dsimp only at q1 q2 q3 q4 q5 q6
 obtain ⟨q8, q9⟩ := inNum_t q1
 refine Zs<|Zr<|bxA H rfl rfl fun w1 b2 H =>alo H z_Coord rfl fun w2 b4 H =>Zl (Wi rfl)<|Zn<|Zs<|Zs<|Zr<|Zl (Zw agg_Coord H 1 rfl rfl rfl)<|cal cb_coord_Check (coCheck_ok ⟨ck, nx, wt, txs, cA, cc⟩ _ ⟨H.rd0 0 rfl, fun t ht => parts0 H 1 rfl ht, hcap, hfew, hfp⟩) rfl rfl ?_
 rw [hok]
 rintro _ w3 ⟨rfl, hb⟩; replace H := H.later hb; clear hb
 refine Zl (Wi rfl)<|Zn<|Zs<|Zr<|Zl (Yi rfl)<|Zl (neqF_r rfl rfl rfl)<|Zn<|ZF rfl<|Zk<|Zs<|Zs<|Zr<|Zl (Yi rfl)<|Zl (lssF_r rfl rfl (by omega)) ?_
 refine Zl (Yb rfl)<|ZG<|Zl (Yi rfl)<|ZG<|Zl (gtrF_r rfl rfl (by omega))<|Zl (Kf rfl rfl)<|Zl (Yb rfl)<|ZG<|Zl (Zf fd_Coord_0 rfl)<|ZG<|Zl (Zd one_int H 1 rfl rfl rfl)<|ZG<|Zl (Yi rfl)<|ZG ?_
 refine Zl (add_r rfl rfl (by omega) (by omega))<|ZG<|Zl (gtrF_r rfl rfl (by omega))<|Zl (Kf rfl rfl)<|Zn<|ZF rfl<|Zk<|Zs<|Zr<|Zl (Zw agg_Coord H 1 rfl rfl rfl)<|cal cb_coord_Copy (coCopyO_ok ⟨ck, nx, wt, txs, cA, cc⟩ _ ⟨H.rd0 0 rfl, fun t ht => parts0 H 1 rfl ht, hcap, hfew, hfp⟩) rfl rfl ?_
 rintro _ w4 ⟨⟨ck2, nx2, wt2, tx2, A2, c2⟩, Lr, Lp, rfl, ha2, ho2, hp2, hoc2, hpc2, hj2⟩
 replace H := H.joinR hj2; clear hj2
 simp only [Co.a, Co.mk.injEq] at ha2
 obtain ⟨e1, e2, e3, hma, -, -⟩ := ha2
 obtain rfl : ck = ck2 := e1.symm
 obtain rfl : nx = nx2 := e2.symm
 obtain rfl : wt = wt2 := e3.symm
 dsimp only at ho2 hp2 hoc2 hpc2 H
 have hlen2 : tx2.length = txs.length := by have := congrArg List.length hma; simpa using this
 refine stN H 1 (#[.int .i64 ck, .int .i64 nx, .int .i64 wt, .slice A2 tx2.length c2]) siz_Coord rfl rfl rfl rfl rfl (by kernel_rfl) (by kernel_rfl) fun w5 H =>Zn<|Zs<|Zr<|Zl (Zf fd_Coord_0 rfl)<|Zl (Zd one_int H 1 rfl rfl rfl)<|Zl (Yi rfl)<|Zl (add_r rfl rfl (by omega) (by omega))<|Zl (Zf fd_Coord_0 rfl)<|stN H 1 (#[.int .i64 (ck + n), .int .i64 nx, .int .i64 wt, .slice A2 tx2.length c2]) siz_int rfl rfl rfl rfl rfl (by kernel_rfl) (by kernel_rfl) fun w6 H =>Zn<|Zs<|Zs<|Zr ?_
 refine Zl (Zf fd_Coord_3 rfl)<|Zl (Zd one_LTxn H 1 rfl rfl rfl)<|Zl (lenS_r len_LTxn rfl)<|Zl (Yi rfl)<|Zn<|Zb ?_
 refine cw_loop (τ := Nat × Option Addr) [7, 8, 39, 40, 41, 42, 43, 44, 45, 46, 47, 48, 49, 50, 51, 52, 53, 54, 55, 56, 57, 58, 59, 60, 61, 62, 63, 64, 65, 66, 67, 68, 69, 70, 71, 72, 73, 74, 75, 76, 77, 78, 79, 80] (fun (k, _) => [(39, .int .i64 (k : Nat))]) (fun (k, A2) w' => k ≤ tx2.length ∧ ∃ L', Own txL (.slice A2 (ticked (ck + n) wt tx2 k).length c2) T_Txn (ticked (ck + n) wt tx2 k) L' ∧ Hp w w' ([(b4, .cells #[.int .i64 0, .int .i64 0, .int .i64 0, .slice none 0 0] T_Coord (0, 0)), (b2, .cells #[.int .i64 (ck + n), .int .i64 nx, .int .i64 wt, .slice A2 tx2.length c2] T_Coord (0, 0))] ++ L' ++ (Lp ++ [])) [FRd txL 0 w.heap.size cA txs, FParts 0 w.heap.size txs]) (fun (k, _) => tx2.length - k) (0, A2) ⟨by omega, Lr, by unfold ticked; simpa using ho2, by show Hp w _ (_ :: _ :: (Lr ++ (Lp ++ []))) _; rw [← List.append_assoc]; exact H⟩ (sl1 rfl) ?_
 rintro ⟨k, A2⟩ ρ1 w7 ⟨hk, L1, ho, H⟩
 show CW _ _ _ _ (updL (ovr _ _ ρ1) [(39, .int .i64 (k : Nat))]) w7
 refine Zs<|Zr ?_
 refine lwD (lss_r rfl rfl) rfl rfl rfl (fun h40 => ?_) (fun h40 => ?_)
 ·
  refine Zn<|Zs<|ZT rfl<|Zk<|Zs<|Zb<|Zs ?_
  obtain ⟨x, hxt⟩ : ∃ x, tx2[k]? = some x := ⟨_, List.getElem?_eq_getElem (by omega)⟩
  have hx := ticked_at (ck := ck + n) (wt := wt) hxt
  have htl := ticked_len (ck + n) wt tx2 k
  obtain ⟨g, cur, rfl, rfl, row⟩ := ho.row (by omega)
  obtain ⟨t, ht, hta⟩ := map_at hma.symm hxt
  have hxo : txOk ck nx x = true := by have h1 : txOk ck nx t.a = true := txsOk_mem q7 t (List.mem_of_getElem? ht); rw [hta] at h1; exact h1
  obtain ⟨a1, a2, a3, a4, a5, a6, a7, a8, a9, a10, a11⟩ := txOk_iff.1 hxo
  obtain ⟨v1, v2⟩ := inNum_t a4
  refine Zr<|Zl (Yi rfl)<|Zl (Wi rfl)<|Zn<|Zs<|Zr<|Zl (Zf fd_Coord_3 rfl)<|Zl (Zd one_LTxn H 1 rfl rfl rfl)<|Zl (Yi rfl)<|Zl (ixR_r sl_LTxn rfl rfl (by omega))<|Zl (Wp rfl)<|Zn<|Zs ?_
   
  refine cw_draw mixed [0, 1, 2, 3, 4, 5, 6, 7, 8, 9, 10, 11, 12, 13, 14, 15, 16, 17, 18, 19, 20, 21, 22, 23] [] [] [0, 1, 2, 4, 5, 6, 8, 9, 10, 12, 13, 15, 16, 17, 18, 19, 20, 22, 23] (sp []) (by kernel_rfl) (by kernel_rfl) (by kernel_rfl) (by kernel_rfl) (fun _ _ _ h => h) (sp_st _) ?_
  refine aw rfl rfl rfl rfl rfl (fun w' hw' => Yp rfl)<|aw rfl rfl rfl rfl rfl (fun w' hw' => nck_r rfl)<|aw rfl rfl rfl rfl rfl (fun w' hw' => Zf fd_Txn_3 rfl)<|aw rfl rfl rfl rfl rfl (fun w' hw' => ldR_r one_int row hx 3 rfl ((H.later hw').ent (i := 2) rfl) rfl) ?_
  refine awD rfl rfl rfl rfl rfl (fun w' hw' => eql_r rfl rfl) (fun h50 => ?_) (fun h50 => ?_)
  ·
   refine aw rfl rfl rfl rfl rfl (fun w' hw' => Yb rfl)<|aw rfl rfl rfl rfl rfl (fun w' hw' => Zf fd_Coord_0 rfl)<|aw rfl rfl rfl rfl rfl (fun w' hw' => ld_r one_int rfl (cellE ((H.later hw').ent (i := 1) rfl) rfl))<|aw rfl rfl rfl rfl rfl (fun w' hw' => Yp rfl)<|aw rfl rfl rfl rfl rfl (fun w' hw' => nck_r rfl)<|aw rfl rfl rfl rfl rfl (fun w' hw' => Zf fd_Txn_5 rfl)<|aw rfl rfl rfl rfl rfl (fun w' hw' => ldR_r one_int row hx 5 rfl ((H.later hw').ent (i := 2) rfl) rfl)<|aw rfl rfl rfl rfl rfl (fun w' hw' => sub_r rfl rfl (by omega) (by omega))<|aw rfl rfl rfl rfl rfl (fun w' hw' => Zf fd_Coord_2 rfl)<|aw rfl rfl rfl rfl rfl (fun w' hw' => ld_r one_int rfl (cellE ((H.later hw').ent (i := 1) rfl) rfl)) ?_
   refine awD rfl rfl rfl rfl rfl (fun w' hw' => geq_r rfl rfl) (fun h61 => ?_) (fun h61 => ?_)
   ·
    refine aw rfl rfl rfl rfl rfl (fun w' hw' => Kt rfl rfl)<|aw rfl rfl rfl rfl rfl (fun w' hw' => Yb rfl)<|aw rfl rfl rfl rfl rfl (fun w' hw' => Yp rfl)<|aw rfl rfl rfl rfl rfl (fun w' hw' => nck_r rfl)<|aw rfl rfl rfl rfl rfl (fun w' hw' => Zf fd_Txn_2 rfl)<|aw rfl rfl rfl rfl rfl (fun w' hw' => ldR_r one_int row hx 2 rfl ((H.later hw').ent (i := 2) rfl) rfl) ?_
    refine awD rfl rfl rfl rfl rfl (fun w' hw' => lss_r rfl rfl) (fun h68 => ?_) (fun h68 => ?_)
    ·
     refine aw rfl rfl rfl rfl rfl (fun w' hw' => Kt rfl rfl)<|aw_nil ?_
     intro w8 hw' hF
     replace H := H.later hw'; clear hw' hF
     refine Zn<|ZT rfl<|Zs<|Zr<|Zl (Yp rfl)<|Zl (nck_r rfl)<|Zl (Zf fd_Txn_3 rfl)<|stR H 2 ({ x with state := 4 }) siz_int row hx 3 rfl rfl rfl rfl rfl rfl (by kernel_rfl) fun w10 cur9 row9 H =>Zn ?_
     have hx2 : ((ticked (ck + n) wt tx2 k).set k { x with state := 4 })[k]? = some { x with state := 4 } := List.getElem?_set_self (by omega)
     have hv2 : ({ x with state := 4 } : Tx).ver = x.ver := rfl
     refine Zr<|Zl (Yp rfl)<|Zl (nck_r rfl)<|Zl (Zf fd_Txn_2 rfl)<|Zl (ldR_r one_int row9 hx2 2 rfl (H.ent (i := 2) rfl) rfl)<|Zl (add_r rfl rfl (by omega) (by omega))<|Zl (nck_r rfl)<|Zl (Zf fd_Txn_2 rfl)<|stR H 2 ({ x with state := 4, ver := x.ver + 1 }) siz_int row9 hx2 2 rfl rfl rfl rfl rfl rfl (by kernel_rfl) fun w12 cur11 row11 H =>Zn<|Zr<|Zl (add_r rfl rfl (by omega) (by omega))<|Zl (Yi rfl)<|Zn ?_
     have hT : tickTx (ck + n) wt x = { x with state := 4, ver := x.ver + 1 } := by unfold tickTx; rw [if_pos (by omega)]
     have hS := ticked_set (ck := ck + n) (wt := wt) hxt
     rw [hT] at hS
     refine ⟨(k + 1, some ⟨g, 0, none⟩), ⟨by omega, _, by rw [← hS]; exact Row.own (by have := row11; rwa [List.set_set] at this), H⟩, sl1 rfl, by repeat (first | exact Agr.refl _ _ | exact agr_ovr | refine agr_upd rfl ?_ | refine agr_updL _ rfl ?_ | refine agr_ovr2 rfl ?_), by show tx2.length - (k + 1) < tx2.length - k; omega⟩
    ·
     refine aw rfl rfl rfl rfl rfl (fun w' hw' => Kt rfl rfl)<|aw_nil ?_
     intro w13 hw' hF
     replace H := H.later hw'; clear hw' hF
     refine Zn<|ZF rfl<|Zk<|Zr<|Zl (add_r rfl rfl (by omega) (by omega))<|Zl (Yi rfl)<|Zn ?_
     have hT : tickTx (ck + n) wt x = x := by unfold tickTx; rw [if_neg (by omega)]
     have hS := ticked_set (ck := ck + n) (wt := wt) hxt
     rw [hT] at hS
     refine ⟨(k + 1, some ⟨g, 0, none⟩), ⟨by omega, _, by rw [← hS]; exact Row.own (by rw [set_same hx]; exact row), H⟩, sl1 rfl, by repeat (first | exact Agr.refl _ _ | exact agr_ovr | refine agr_upd rfl ?_ | refine agr_updL _ rfl ?_ | refine agr_ovr2 rfl ?_), by show tx2.length - (k + 1) < tx2.length - k; omega⟩
   ·
    refine aw rfl rfl rfl rfl rfl (fun w' hw' => Kt rfl rfl)<|aw rfl rfl rfl rfl rfl (fun w' hw' => Yb rfl)<|awN rfl rfl rfl rfl<|awN rfl rfl rfl rfl<|awN rfl rfl rfl rfl<|awN rfl rfl rfl rfl<|awN rfl rfl rfl rfl<|aw rfl rfl rfl rfl rfl (fun w' hw' => Kf rfl rfl)<|aw_nil ?_
    intro w14 hw' hF
    replace H := H.later hw'; clear hw' hF
    refine Zn<|ZF rfl<|Zk<|Zr<|Zl (add_r rfl rfl (by omega) (by omega))<|Zl (Yi rfl)<|Zn ?_
    have hT : tickTx (ck + n) wt x = x := by unfold tickTx; rw [if_neg (by omega)]
    have hS := ticked_set (ck := ck + n) (wt := wt) hxt
    rw [hT] at hS
    refine ⟨(k + 1, some ⟨g, 0, none⟩), ⟨by omega, _, by rw [← hS]; exact Row.own (by rw [set_same hx]; exact row), H⟩, sl1 rfl, by repeat (first | exact Agr.refl _ _ | exact agr_ovr | refine agr_upd rfl ?_ | refine agr_updL _ rfl ?_ | refine agr_ovr2 rfl ?_), by show tx2.length - (k + 1) < tx2.length - k; omega⟩
  ·
   refine aw rfl rfl rfl rfl rfl (fun w' hw' => Yb rfl)<|awN rfl rfl rfl rfl<|awN rfl rfl rfl rfl<|awN rfl rfl rfl rfl<|awN rfl rfl rfl rfl<|awN rfl rfl rfl rfl<|awN rfl rfl rfl rfl<|awN rfl rfl rfl rfl<|awN rfl rfl rfl rfl<|awN rfl rfl rfl rfl<|awN rfl rfl rfl rfl<|aw rfl rfl rfl rfl rfl (fun w' hw' => Kf rfl rfl)<|aw rfl rfl rfl rfl rfl (fun w' hw' => Yb rfl)<|awN rfl rfl rfl rfl ?_
   refine awN rfl rfl rfl rfl<|awN rfl rfl rfl rfl<|awN rfl rfl rfl rfl<|awN rfl rfl rfl rfl<|aw rfl rfl rfl rfl rfl (fun w' hw' => Kf rfl rfl)<|aw_nil ?_
   intro w15 hw' hF
   replace H := H.later hw'; clear hw' hF
   refine Zn<|ZF rfl<|Zk<|Zr<|Zl (add_r rfl rfl (by omega) (by omega))<|Zl (Yi rfl)<|Zn ?_
   have hT : tickTx (ck + n) wt x = x := by unfold tickTx; rw [if_neg (by omega)]
   have hS := ticked_set (ck := ck + n) (wt := wt) hxt
   rw [hT] at hS
   refine ⟨(k + 1, some ⟨g, 0, none⟩), ⟨by omega, _, by rw [← hS]; exact Row.own (by rw [set_same hx]; exact row), H⟩, sl1 rfl, by repeat (first | exact Agr.refl _ _ | exact agr_ovr | refine agr_upd rfl ?_ | refine agr_updL _ rfl ?_ | refine agr_ovr2 rfl ?_), by show tx2.length - (k + 1) < tx2.length - k; omega⟩
 ·
  have hke : k = tx2.length := by omega
  have hfin : ticked (ck + n) wt tx2 k = tx2.map (tickTx (ck + n) wt) := by unfold ticked; rw [hke, List.take_length, List.drop_length, List.append_nil]
  have hfl : (ticked (ck + n) wt tx2 k).length = tx2.length := ticked_len _ _ _ _
  rw [hfin] at ho hfl
  have hTa : (tx2.map (tickTx (ck + n) wt)).map Tx.a = (txs.map Tx.a).map (tickTx (ck + n) wt) := by rw [← hma, List.map_map, List.map_map]; congr 1; funext t; exact tick_a _ _ t
  refine Zn<|Zs<|ZF rfl<|Zx<|Zs<|Zr<|Zl (Zw agg_Coord H 1 rfl rfl rfl)<|stN H 0 (#[.int .i64 (ck + n), .int .i64 nx, .int .i64 wt, .slice A2 tx2.length c2]) siz_Coord rfl rfl rfl rfl rfl (by kernel_rfl) (by kernel_rfl) fun w16 H =>Zl (Wi rfl)<|Zn<|Zt ?_
  exact finCTn (cs0 := #[.int .i64 (ck + n), .int .i64 nx, .int .i64 wt, .slice A2 tx2.length c2]) (v1 := .int .i64 0) rfl agg_Coord rfl (H.ent (i := 0) rfl) rfl rfl ⟨⟨ck + n, nx, wt, tx2.map (tickTx (ck + n) wt), A2, c2⟩, L1, Lp, by unfold Co.v Co.c; dsimp only; rw [List.length_map], by unfold Co.a tickCo; dsimp only; rw [hTa], ho, hp2.tick _ _, by dsimp only; rw [List.length_map]; exact hoc2, by intro t ht; obtain ⟨y, hy, rfl⟩ := List.mem_map.1 ht; obtain ⟨a, b, c⟩ := tick_keep (ck + n) wt y; rw [b, c]; exact hpc2 y hy, by simpa using H.forget (.cons _ (.cons _ (List.Sublist.refl _))) (F' := []) (by simp)⟩
end Go.Proofs.Ytemnchkebhclpaa
end

section
namespace Go.Proofs.Ytemnchkebhclpaa
open Go Go.Eng Go.RowKit
set_option linter.unusedSimpArgs false
/-- P5.3: a producer that was there: its version rises, what is under way is aborted -/
def initTx (t : Tx) : Tx := if t.state = 2 then { t with state := 4, ver := t.ver + 1 } else { t with ver := t.ver + 1 }
theorem init_a {t t' : Tx} (h : t'.a = t.a) : (initTx t').a = (initTx t).a := by
 have h1 : t'.state = t.state := by show t'.a.state = t.a.state; rw [h]
 unfold initTx
 by_cases hs : t.state = 2
 ·
  rw [if_pos (h1.trans hs), if_pos hs]
  exact congrArg (fun x : Tx => ({ x with state := 4, ver := x.ver + 1 } : Tx)) h
 ·
  rw [if_neg (fun q => hs (h1.symm.trans q)), if_neg hs]
  exact congrArg (fun x : Tx => ({ x with ver := x.ver + 1 } : Tx)) h
set_option maxHeartbeats 4000000 in
set_option maxRecDepth 10000 in
theorem init_known (c : Co) (s : ByteArray) (i : Nat) (t : Tx) (w : World) (h : c.rd 0 w.heap.size w) (hok : coOk c = true) (hn : nameOk s = true) (hi : nameIdx c s = i) (ht : c.txs[i]? = some t) (h3 : t.state ≠ 3) (h4 : t.state ≠ 4) (hv0 : 0 ≤ t.ver) (hv : t.ver < 1073741824) : Ret Try.prog i_coord_Init [c.v, .string s] w fun v w2 => ∃ (c' : Co) (Lr Lp : List (Nat × Obj)), v = .tuple #[c'.v, .int .i64 t.pid, .int .i64 (t.ver + 1), .int .i64 0] ∧ OwnCo w w2 (Co.a { c with txs := c.txs.set i (initTx t) }) c' Lr Lp := by
 refine ret_of fn_coord_Init rfl rfl ?_
 have hcap := h.cap
 have hfew := h.few
 have hfp := h.fewP
 have H := Hp.startCo h
 obtain ⟨ck, nx, wt, txs, cA, cc⟩ := c
 dsimp only at hcap hfew hfp H
 show CW _ _ _ _ (args [.agg #[.int .i64 ck, .int .i64 nx, .int .i64 wt, .slice cA txs.length cc], .string s]) w
 dsimp only at ht ⊢
 refine Zs<|Zr<|bxA H rfl rfl fun w1 b2 H =>alo H z_Coord rfl fun w2 b4 H =>Zl (Wi rfl)<|Zl (Wi rfl)<|Zl (Wi rfl)<|Zn<|Zs<|Zr<|Zl (Zw agg_Coord H 1 rfl rfl rfl)<|Zl (Yt rfl)<|cal cb_coord_find (coFindO_ok ⟨ck, nx, wt, txs, cA, cc⟩ s _ ⟨H.rd0 0 rfl, fun t ht => parts0 H 1 rfl ht, hcap, hfew, hfp⟩ hok hn) rfl rfl ?_
 rintro _ w3 ⟨⟨ck2, nx2, wt2, tx2, A2, c2⟩, Lr, Lp, rfl, ha2, ho2, hp2, hoc2, hpc2, hj2⟩
 replace H := H.joinR hj2; clear hj2
 simp only [Co.a, Co.mk.injEq] at ha2
 obtain ⟨e1, e2, e3, hma, -, -⟩ := ha2
 obtain rfl : ck = ck2 := e1.symm
 obtain rfl : nx = nx2 := e2.symm
 obtain rfl : wt = wt2 := e3.symm
 dsimp only at ho2 hp2 hoc2 hpc2 H
 rw [hi]
 refine Zl (Yu rfl)<|Zl (Xa rfl rfl)<|Zl (Xi rfl rfl)<|Zl (Xi rfl rfl)<|stN H 1 (#[.int .i64 ck, .int .i64 nx, .int .i64 wt, .slice A2 tx2.length c2]) siz_Coord rfl rfl rfl rfl rfl (by kernel_rfl) (by kernel_rfl) fun w4 H =>Zl (Wi rfl)<|Zl (Wi rfl)<|Zn<|Zs<|Zs<|Zr<|Zl (Yi rfl)<|Zl (neqF_r rfl rfl rfl)<|Zn ?_
 refine ZF rfl<|Zk<|Zs<|Zs<|Zr<|Zl (Yi rfl)<|Zl (lssF_r rfl rfl (by omega))<|Zn<|ZF rfl<|Zk<|Zs ?_
 obtain ⟨t2, ht2, hta⟩ := map_at hma ht
 have hl2 := (getE ht2).1
 obtain ⟨g, cur, rfl, rfl, row⟩ := ho2.row (by omega)
 have hst : t2.state = t.state := by show t2.a.state = t.a.state; rw [hta]
 have hdn : t2.done = t.done := by show t2.a.done = t.a.done; rw [hta]
 have hver : t2.ver = t.ver := by show t2.a.ver = t.a.ver; rw [hta]
 have hpid : t2.pid = t.pid := by show t2.a.pid = t.a.pid; rw [hta]
 refine Zr<|Zl (Zf fd_Coord_3 rfl)<|Zl (Zd one_LTxn H 1 rfl rfl rfl)<|Zl (Yi rfl)<|Zl (ixR_r sl_LTxn rfl rfl (by omega))<|Zl (Wp rfl)<|Zn<|Zs<|Zb<|Zs<|Zr<|Zl (Yp rfl)<|Zl (nck_r rfl)<|Zl (Zf fd_Txn_3 rfl) ?_
 refine Zl (ldR_r one_int row ht2 3 rfl (H.ent (i := 2) rfl) rfl)<|Zl (eqlF_r rfl rfl (by omega))<|Zl (Yb rfl)<|ZG<|Zl (Yp rfl)<|ZG<|Zl (nck_r rfl)<|ZG<|Zl (Zf fd_Txn_3 rfl)<|ZG<|Zl (ldR_r one_int row ht2 3 rfl (H.ent (i := 2) rfl) rfl)<|ZG<|Zl (eqlF_r rfl rfl (by omega))<|Zl (Kf rfl rfl) ?_
 refine Zl (Wb rfl)<|Zn<|ZF rfl<|Zs<|Zr<|Zl (Yp rfl)<|Zl (nck_r rfl)<|Zl (Zf fd_Txn_2 rfl)<|Zl (ldR_r one_int row ht2 2 rfl (H.ent (i := 2) rfl) rfl)<|Zl (eqlF_r rfl rfl (by omega))<|Zl (Wb rfl)<|Zn<|ZF rfl<|Zs ?_
 refine Zr<|Zl (Yp rfl)<|Zl (nck_r rfl)<|Zl (Zf fd_Txn_3 rfl)<|Zl (ldR_r one_int row ht2 3 rfl (H.ent (i := 2) rfl) rfl) ?_
 refine lwD (eql_r rfl rfl) rfl rfl rfl (fun h81 => ?_) (fun h81 => ?_)
 ·
  refine Zl (Wb rfl)<|Zn<|ZT rfl<|Zr<|Zl (Yp rfl)<|Zl (nck_r rfl)<|Zl (Zf fd_Txn_3 rfl)<|stR H 2 ({ t2 with state := 4 }) siz_int row ht2 3 rfl rfl rfl rfl rfl rfl (by kernel_rfl) fun w6 cur5 row5 H =>Zn<|Zs ?_
  have ht3 : (tx2.set i { t2 with state := 4 })[i]? = some { t2 with state := 4 } := List.getElem?_set_self hl2
  have hv3 : ({ t2 with state := 4 } : Tx).ver = t2.ver := rfl
  refine Zr<|Zl (Yp rfl)<|Zl (nck_r rfl)<|Zl (Zf fd_Txn_2 rfl)<|Zl (ldR_r one_int row5 ht3 2 rfl (H.ent (i := 2) rfl) rfl)<|Zl (add_r rfl rfl (by omega) (by omega))<|Zl (nck_r rfl)<|Zl (Zf fd_Txn_2 rfl)<|stR H 2 ({ t2 with state := 4, ver := t2.ver + 1 }) siz_int row5 ht3 2 rfl rfl rfl rfl rfl rfl (by kernel_rfl) fun w8 cur7 row7 H =>Zn<|Zs ?_
  have ht4 : (tx2.set i { t2 with state := 4, ver := t2.ver + 1 })[i]? = some { t2 with state := 4, ver := t2.ver + 1 } := List.getElem?_set_self hl2
  rw [List.set_set] at row7
   
  refine cw_tree mixed [1, 2, 3, 5, 6, 7] [0, 4, 8, 9, 10, 11, 12] [1, 2, 3, 5, 6, 7] 7 (by kernel_rfl) (by kernel_rfl) (by kernel_rfl) (fun _ _ _ h => h) ?_
  refine aw rfl rfl rfl rfl rfl (fun w' hw' => Yp rfl)<|aw rfl rfl rfl rfl rfl (fun w' hw' => nck_r rfl)<|aw rfl rfl rfl rfl rfl (fun w' hw' => Zf fd_Txn_1 rfl)<|aw rfl rfl rfl rfl rfl (fun w' hw' => Yp rfl)<|aw rfl rfl rfl rfl rfl (fun w' hw' => nck_r rfl)<|aw rfl rfl rfl rfl rfl (fun w' hw' => Zf fd_Txn_2 rfl)<|aw_nil ?_
  intro w9 hw'; replace H := H.later hw'; clear hw'
  refine xw3 0 4 8 (by kernel_rfl) rfl rfl rfl ?_ ?_ ?_ 
  ·
   refine Zl (Zw agg_Coord H 1 rfl rfl rfl)<|Zn ?_
   refine xw3 4 8 9 (by kernel_rfl) rfl rfl rfl ?_ ?_ ?_ 
   ·
    refine Zl (ldR_r one_int row7 ht4 1 rfl (H.ent (i := 2) rfl) rfl)<|Zn ?_
    refine xw2 8 9 (by kernel_rfl) rfl rfl ?_ ?_ 
    ·
     refine Zl (ldR_r one_int row7 ht4 2 rfl (H.ent (i := 2) rfl) rfl)<|Zn<|xw1 9 (by kernel_rfl) rfl<|stN H 0 (#[.int .i64 ck, .int .i64 nx, .int .i64 wt, .slice (some ⟨g, 0, none⟩) tx2.length c2]) siz_Coord rfl rfl rfl rfl rfl (by kernel_rfl) (by kernel_rfl) fun w10 H =>Zn<|xw1 10 (by kernel_rfl) rfl<|Zl (Wi rfl)<|Zn<|xw1 11 (by kernel_rfl) rfl<|Zl (Wi rfl)<|Zn<|xw1 12 (by kernel_rfl) rfl<|Zl (Wi rfl)<|Zn ?_
     refine xw_end (by kernel_rfl)<|Zt ?_
     have hI : initTx t2 = { t2 with state := 4, ver := t2.ver + 1 } := by unfold initTx; rw [if_pos (by omega)]
     exact finCTTT (cs0 := #[.int .i64 ck, .int .i64 nx, .int .i64 wt, .slice (some ⟨g, 0, none⟩) tx2.length c2]) (v1 := .int .i64 t2.pid) (v2 := .int .i64 (t2.ver + 1)) (v3 := .int .i64 0) rfl agg_Coord rfl (H.ent (i := 0) rfl) rfl rfl rfl rfl ⟨⟨ck, nx, wt, tx2.set i ({ t2 with state := 4, ver := t2.ver + 1 }), some ⟨g, 0, none⟩, c2⟩, [(g, .cells cur7 T_Txn (0, 0))], Lp, by unfold Co.v Co.c; dsimp only; rw [List.length_set, hpid, hver], by unfold Co.a; dsimp only; rw [set_a hma i (show Tx.a ({ t2 with state := 4, ver := t2.ver + 1 }) = (initTx t).a by rw [← hI]; exact init_a hta)], by dsimp only; exact Row.own row7, hp2.same ht2 rfl rfl rfl, by dsimp only; rw [List.length_set]; exact hoc2, caps_set hpc2 ht2 rfl rfl, H.forget (.cons _ (.cons _ (List.sublist_append_left _ _))) (by simp)⟩
    ·
     refine stN H 0 (#[.int .i64 ck, .int .i64 nx, .int .i64 wt, .slice (some ⟨g, 0, none⟩) tx2.length c2]) siz_Coord rfl rfl rfl rfl rfl (by kernel_rfl) (by kernel_rfl) fun w11 H =>Zn ?_
     refine xw2 8 10 (by kernel_rfl) rfl rfl ?_ ?_ 
     ·
      refine Zl (ldR_r one_int row7 ht4 2 rfl (H.ent (i := 2) rfl) rfl)<|Zn<|xw1 10 (by kernel_rfl) rfl<|Zl (Wi rfl)<|Zn<|xw1 11 (by kernel_rfl) rfl<|Zl (Wi rfl)<|Zn<|xw1 12 (by kernel_rfl) rfl<|Zl (Wi rfl)<|Zn<|xw_end (by kernel_rfl)<|Zt ?_
      have hI : initTx t2 = { t2 with state := 4, ver := t2.ver + 1 } := by unfold initTx; rw [if_pos (by omega)]
      exact finCTTT (cs0 := #[.int .i64 ck, .int .i64 nx, .int .i64 wt, .slice (some ⟨g, 0, none⟩) tx2.length c2]) (v1 := .int .i64 t2.pid) (v2 := .int .i64 (t2.ver + 1)) (v3 := .int .i64 0) rfl agg_Coord rfl (H.ent (i := 0) rfl) rfl rfl rfl rfl ⟨⟨ck, nx, wt, tx2.set i ({ t2 with state := 4, ver := t2.ver + 1 }), some ⟨g, 0, none⟩, c2⟩, [(g, .cells cur7 T_Txn (0, 0))], Lp, by unfold Co.v Co.c; dsimp only; rw [List.length_set, hpid, hver], by unfold Co.a; dsimp only; rw [set_a hma i (show Tx.a ({ t2 with state := 4, ver := t2.ver + 1 }) = (initTx t).a by rw [← hI]; exact init_a hta)], by dsimp only; exact Row.own row7, hp2.same ht2 rfl rfl rfl, by dsimp only; rw [List.length_set]; exact hoc2, caps_set hpc2 ht2 rfl rfl, H.forget (.cons _ (.cons _ (List.sublist_append_left _ _))) (by simp)⟩
     ·
      refine Zl (Wi rfl)<|Zn<|xw1 8 (by kernel_rfl) rfl<|Zl (ldR_r one_int row7 ht4 2 rfl (H.ent (i := 2) rfl) rfl)<|Zn<|xw1 11 (by kernel_rfl) rfl<|Zl (Wi rfl)<|Zn<|xw1 12 (by kernel_rfl) rfl<|Zl (Wi rfl)<|Zn<|xw_end (by kernel_rfl)<|Zt ?_
      have hI : initTx t2 = { t2 with state := 4, ver := t2.ver + 1 } := by unfold initTx; rw [if_pos (by omega)]
      exact finCTTT (cs0 := #[.int .i64 ck, .int .i64 nx, .int .i64 wt, .slice (some ⟨g, 0, none⟩) tx2.length c2]) (v1 := .int .i64 t2.pid) (v2 := .int .i64 (t2.ver + 1)) (v3 := .int .i64 0) rfl agg_Coord rfl (H.ent (i := 0) rfl) rfl rfl rfl rfl ⟨⟨ck, nx, wt, tx2.set i ({ t2 with state := 4, ver := t2.ver + 1 }), some ⟨g, 0, none⟩, c2⟩, [(g, .cells cur7 T_Txn (0, 0))], Lp, by unfold Co.v Co.c; dsimp only; rw [List.length_set, hpid, hver], by unfold Co.a; dsimp only; rw [set_a hma i (show Tx.a ({ t2 with state := 4, ver := t2.ver + 1 }) = (initTx t).a by rw [← hI]; exact init_a hta)], by dsimp only; exact Row.own row7, hp2.same ht2 rfl rfl rfl, by dsimp only; rw [List.length_set]; exact hoc2, caps_set hpc2 ht2 rfl rfl, H.forget (.cons _ (.cons _ (List.sublist_append_left _ _))) (by simp)⟩
   ·
    refine Zl (ldR_r one_int row7 ht4 2 rfl (H.ent (i := 2) rfl) rfl)<|Zn ?_
    refine xw2 4 9 (by kernel_rfl) rfl rfl ?_ ?_ 
    ·
     refine Zl (ldR_r one_int row7 ht4 1 rfl (H.ent (i := 2) rfl) rfl)<|Zn<|xw1 9 (by kernel_rfl) rfl<|stN H 0 (#[.int .i64 ck, .int .i64 nx, .int .i64 wt, .slice (some ⟨g, 0, none⟩) tx2.length c2]) siz_Coord rfl rfl rfl rfl rfl (by kernel_rfl) (by kernel_rfl) fun w12 H =>Zn<|xw1 10 (by kernel_rfl) rfl<|Zl (Wi rfl)<|Zn<|xw1 11 (by kernel_rfl) rfl<|Zl (Wi rfl)<|Zn<|xw1 12 (by kernel_rfl) rfl<|Zl (Wi rfl)<|Zn ?_
     refine xw_end (by kernel_rfl)<|Zt ?_
     have hI : initTx t2 = { t2 with state := 4, ver := t2.ver + 1 } := by unfold initTx; rw [if_pos (by omega)]
     exact finCTTT (cs0 := #[.int .i64 ck, .int .i64 nx, .int .i64 wt, .slice (some ⟨g, 0, none⟩) tx2.length c2]) (v1 := .int .i64 t2.pid) (v2 := .int .i64 (t2.ver + 1)) (v3 := .int .i64 0) rfl agg_Coord rfl (H.ent (i := 0) rfl) rfl rfl rfl rfl ⟨⟨ck, nx, wt, tx2.set i ({ t2 with state := 4, ver := t2.ver + 1 }), some ⟨g, 0, none⟩, c2⟩, [(g, .cells cur7 T_Txn (0, 0))], Lp, by unfold Co.v Co.c; dsimp only; rw [List.length_set, hpid, hver], by unfold Co.a; dsimp only; rw [set_a hma i (show Tx.a ({ t2 with state := 4, ver := t2.ver + 1 }) = (initTx t).a by rw [← hI]; exact init_a hta)], by dsimp only; exact Row.own row7, hp2.same ht2 rfl rfl rfl, by dsimp only; rw [List.length_set]; exact hoc2, caps_set hpc2 ht2 rfl rfl, H.forget (.cons _ (.cons _ (List.sublist_append_left _ _))) (by simp)⟩
    ·
     refine stN H 0 (#[.int .i64 ck, .int .i64 nx, .int .i64 wt, .slice (some ⟨g, 0, none⟩) tx2.length c2]) siz_Coord rfl rfl rfl rfl rfl (by kernel_rfl) (by kernel_rfl) fun w13 H =>Zn<|xw1 4 (by kernel_rfl) rfl<|Zl (ldR_r one_int row7 ht4 1 rfl (H.ent (i := 2) rfl) rfl)<|Zn<|xw1 10 (by kernel_rfl) rfl<|Zl (Wi rfl)<|Zn<|xw1 11 (by kernel_rfl) rfl<|Zl (Wi rfl)<|Zn<|xw1 12 (by kernel_rfl) rfl<|Zl (Wi rfl)<|Zn ?_
     refine xw_end (by kernel_rfl)<|Zt ?_
     have hI : initTx t2 = { t2 with state := 4, ver := t2.ver + 1 } := by unfold initTx; rw [if_pos (by omega)]
     exact finCTTT (cs0 := #[.int .i64 ck, .int .i64 nx, .int .i64 wt, .slice (some ⟨g, 0, none⟩) tx2.length c2]) (v1 := .int .i64 t2.pid) (v2 := .int .i64 (t2.ver + 1)) (v3 := .int .i64 0) rfl agg_Coord rfl (H.ent (i := 0) rfl) rfl rfl rfl rfl ⟨⟨ck, nx, wt, tx2.set i ({ t2 with state := 4, ver := t2.ver + 1 }), some ⟨g, 0, none⟩, c2⟩, [(g, .cells cur7 T_Txn (0, 0))], Lp, by unfold Co.v Co.c; dsimp only; rw [List.length_set, hpid, hver], by unfold Co.a; dsimp only; rw [set_a hma i (show Tx.a ({ t2 with state := 4, ver := t2.ver + 1 }) = (initTx t).a by rw [← hI]; exact init_a hta)], by dsimp only; exact Row.own row7, hp2.same ht2 rfl rfl rfl, by dsimp only; rw [List.length_set]; exact hoc2, caps_set hpc2 ht2 rfl rfl, H.forget (.cons _ (.cons _ (List.sublist_append_left _ _))) (by simp)⟩
   ·
    refine stN H 0 (#[.int .i64 ck, .int .i64 nx, .int .i64 wt, .slice (some ⟨g, 0, none⟩) tx2.length c2]) siz_Coord rfl rfl rfl rfl rfl (by kernel_rfl) (by kernel_rfl) fun w14 H =>Zn ?_
    refine xw2 4 8 (by kernel_rfl) rfl rfl ?_ ?_ 
    ·
     refine Zl (ldR_r one_int row7 ht4 1 rfl (H.ent (i := 2) rfl) rfl)<|Zn ?_
     refine xw2 8 10 (by kernel_rfl) rfl rfl ?_ ?_ 
     ·
      refine Zl (ldR_r one_int row7 ht4 2 rfl (H.ent (i := 2) rfl) rfl)<|Zn<|xw1 10 (by kernel_rfl) rfl<|Zl (Wi rfl)<|Zn<|xw1 11 (by kernel_rfl) rfl<|Zl (Wi rfl)<|Zn<|xw1 12 (by kernel_rfl) rfl<|Zl (Wi rfl)<|Zn<|xw_end (by kernel_rfl)<|Zt ?_
      have hI : initTx t2 = { t2 with state := 4, ver := t2.ver + 1 } := by unfold initTx; rw [if_pos (by omega)]
      exact finCTTT (cs0 := #[.int .i64 ck, .int .i64 nx, .int .i64 wt, .slice (some ⟨g, 0, none⟩) tx2.length c2]) (v1 := .int .i64 t2.pid) (v2 := .int .i64 (t2.ver + 1)) (v3 := .int .i64 0) rfl agg_Coord rfl (H.ent (i := 0) rfl) rfl rfl rfl rfl ⟨⟨ck, nx, wt, tx2.set i ({ t2 with state := 4, ver := t2.ver + 1 }), some ⟨g, 0, none⟩, c2⟩, [(g, .cells cur7 T_Txn (0, 0))], Lp, by unfold Co.v Co.c; dsimp only; rw [List.length_set, hpid, hver], by unfold Co.a; dsimp only; rw [set_a hma i (show Tx.a ({ t2 with state := 4, ver := t2.ver + 1 }) = (initTx t).a by rw [← hI]; exact init_a hta)], by dsimp only; exact Row.own row7, hp2.same ht2 rfl rfl rfl, by dsimp only; rw [List.length_set]; exact hoc2, caps_set hpc2 ht2 rfl rfl, H.forget (.cons _ (.cons _ (List.sublist_append_left _ _))) (by simp)⟩
     ·
      refine Zl (Wi rfl)<|Zn<|xw1 8 (by kernel_rfl) rfl<|Zl (ldR_r one_int row7 ht4 2 rfl (H.ent (i := 2) rfl) rfl)<|Zn<|xw1 11 (by kernel_rfl) rfl<|Zl (Wi rfl)<|Zn<|xw1 12 (by kernel_rfl) rfl<|Zl (Wi rfl)<|Zn<|xw_end (by kernel_rfl)<|Zt ?_
      have hI : initTx t2 = { t2 with state := 4, ver := t2.ver + 1 } := by unfold initTx; rw [if_pos (by omega)]
      exact finCTTT (cs0 := #[.int .i64 ck, .int .i64 nx, .int .i64 wt, .slice (some ⟨g, 0, none⟩) tx2.length c2]) (v1 := .int .i64 t2.pid) (v2 := .int .i64 (t2.ver + 1)) (v3 := .int .i64 0) rfl agg_Coord rfl (H.ent (i := 0) rfl) rfl rfl rfl rfl ⟨⟨ck, nx, wt, tx2.set i ({ t2 with state := 4, ver := t2.ver + 1 }), some ⟨g, 0, none⟩, c2⟩, [(g, .cells cur7 T_Txn (0, 0))], Lp, by unfold Co.v Co.c; dsimp only; rw [List.length_set, hpid, hver], by unfold Co.a; dsimp only; rw [set_a hma i (show Tx.a ({ t2 with state := 4, ver := t2.ver + 1 }) = (initTx t).a by rw [← hI]; exact init_a hta)], by dsimp only; exact Row.own row7, hp2.same ht2 rfl rfl rfl, by dsimp only; rw [List.length_set]; exact hoc2, caps_set hpc2 ht2 rfl rfl, H.forget (.cons _ (.cons _ (List.sublist_append_left _ _))) (by simp)⟩
    ·
     refine Zl (ldR_r one_int row7 ht4 2 rfl (H.ent (i := 2) rfl) rfl)<|Zn<|xw1 4 (by kernel_rfl) rfl<|Zl (ldR_r one_int row7 ht4 1 rfl (H.ent (i := 2) rfl) rfl)<|Zn<|xw1 10 (by kernel_rfl) rfl<|Zl (Wi rfl)<|Zn<|xw1 11 (by kernel_rfl) rfl<|Zl (Wi rfl)<|Zn<|xw1 12 (by kernel_rfl) rfl<|Zl (Wi rfl)<|Zn ?_
     refine xw_end (by kernel_rfl)<|Zt ?_
     have hI : initTx t2 = { t2 with state := 4, ver := t2.ver + 1 } := by unfold initTx; rw [if_pos (by omega)]
     exact finCTTT (cs0 := #[.int .i64 ck, .int .i64 nx, .int .i64 wt, .slice (some ⟨g, 0, none⟩) tx2.length c2]) (v1 := .int .i64 t2.pid) (v2 := .int .i64 (t2.ver + 1)) (v3 := .int .i64 0) rfl agg_Coord rfl (H.ent (i := 0) rfl) rfl rfl rfl rfl ⟨⟨ck, nx, wt, tx2.set i ({ t2 with state := 4, ver := t2.ver + 1 }), some ⟨g, 0, none⟩, c2⟩, [(g, .cells cur7 T_Txn (0, 0))], Lp, by unfold Co.v Co.c; dsimp only; rw [List.length_set, hpid, hver], by unfold Co.a; dsimp only; rw [set_a hma i (show Tx.a ({ t2 with state := 4, ver := t2.ver + 1 }) = (initTx t).a by rw [← hI]; exact init_a hta)], by dsimp only; exact Row.own row7, hp2.same ht2 rfl rfl rfl, by dsimp only; rw [List.length_set]; exact hoc2, caps_set hpc2 ht2 rfl rfl, H.forget (.cons _ (.cons _ (List.sublist_append_left _ _))) (by simp)⟩
  ·
   refine Zl (ldR_r one_int row7 ht4 1 rfl (H.ent (i := 2) rfl) rfl)<|Zn ?_
   refine xw2 0 8 (by kernel_rfl) rfl rfl ?_ ?_ 
   ·
    refine Zl (Zw agg_Coord H 1 rfl rfl rfl)<|Zn ?_
    refine xw2 8 9 (by kernel_rfl) rfl rfl ?_ ?_ 
    ·
     refine Zl (ldR_r one_int row7 ht4 2 rfl (H.ent (i := 2) rfl) rfl)<|Zn<|xw1 9 (by kernel_rfl) rfl<|stN H 0 (#[.int .i64 ck, .int .i64 nx, .int .i64 wt, .slice (some ⟨g, 0, none⟩) tx2.length c2]) siz_Coord rfl rfl rfl rfl rfl (by kernel_rfl) (by kernel_rfl) fun w15 H =>Zn<|xw1 10 (by kernel_rfl) rfl<|Zl (Wi rfl)<|Zn<|xw1 11 (by kernel_rfl) rfl<|Zl (Wi rfl)<|Zn<|xw1 12 (by kernel_rfl) rfl<|Zl (Wi rfl)<|Zn ?_
     refine xw_end (by kernel_rfl)<|Zt ?_
     have hI : initTx t2 = { t2 with state := 4, ver := t2.ver + 1 } := by unfold initTx; rw [if_pos (by omega)]
     exact finCTTT (cs0 := #[.int .i64 ck, .int .i64 nx, .int .i64 wt, .slice (some ⟨g, 0, none⟩) tx2.length c2]) (v1 := .int .i64 t2.pid) (v2 := .int .i64 (t2.ver + 1)) (v3 := .int .i64 0) rfl agg_Coord rfl (H.ent (i := 0) rfl) rfl rfl rfl rfl ⟨⟨ck, nx, wt, tx2.set i ({ t2 with state := 4, ver := t2.ver + 1 }), some ⟨g, 0, none⟩, c2⟩, [(g, .cells cur7 T_Txn (0, 0))], Lp, by unfold Co.v Co.c; dsimp only; rw [List.length_set, hpid, hver], by unfold Co.a; dsimp only; rw [set_a hma i (show Tx.a ({ t2 with state := 4, ver := t2.ver + 1 }) = (initTx t).a by rw [← hI]; exact init_a hta)], by dsimp only; exact Row.own row7, hp2.same ht2 rfl rfl rfl, by dsimp only; rw [List.length_set]; exact hoc2, caps_set hpc2 ht2 rfl rfl, H.forget (.cons _ (.cons _ (List.sublist_append_left _ _))) (by simp)⟩
    ·
     refine stN H 0 (#[.int .i64 ck, .int .i64 nx, .int .i64 wt, .slice (some ⟨g, 0, none⟩) tx2.length c2]) siz_Coord rfl rfl rfl rfl rfl (by kernel_rfl) (by kernel_rfl) fun w16 H =>Zn ?_
     refine xw2 8 10 (by kernel_rfl) rfl rfl ?_ ?_ 
     ·
      refine Zl (ldR_r one_int row7 ht4 2 rfl (H.ent (i := 2) rfl) rfl)<|Zn<|xw1 10 (by kernel_rfl) rfl<|Zl (Wi rfl)<|Zn<|xw1 11 (by kernel_rfl) rfl<|Zl (Wi rfl)<|Zn<|xw1 12 (by kernel_rfl) rfl<|Zl (Wi rfl)<|Zn<|xw_end (by kernel_rfl)<|Zt ?_
      have hI : initTx t2 = { t2 with state := 4, ver := t2.ver + 1 } := by unfold initTx; rw [if_pos (by omega)]
      exact finCTTT (cs0 := #[.int .i64 ck, .int .i64 nx, .int .i64 wt, .slice (some ⟨g, 0, none⟩) tx2.length c2]) (v1 := .int .i64 t2.pid) (v2 := .int .i64 (t2.ver + 1)) (v3 := .int .i64 0) rfl agg_Coord rfl (H.ent (i := 0) rfl) rfl rfl rfl rfl ⟨⟨ck, nx, wt, tx2.set i ({ t2 with state := 4, ver := t2.ver + 1 }), some ⟨g, 0, none⟩, c2⟩, [(g, .cells cur7 T_Txn (0, 0))], Lp, by unfold Co.v Co.c; dsimp only; rw [List.length_set, hpid, hver], by unfold Co.a; dsimp only; rw [set_a hma i (show Tx.a ({ t2 with state := 4, ver := t2.ver + 1 }) = (initTx t).a by rw [← hI]; exact init_a hta)], by dsimp only; exact Row.own row7, hp2.same ht2 rfl rfl rfl, by dsimp only; rw [List.length_set]; exact hoc2, caps_set hpc2 ht2 rfl rfl, H.forget (.cons _ (.cons _ (List.sublist_append_left _ _))) (by simp)⟩
     ·
      refine Zl (Wi rfl)<|Zn<|xw1 8 (by kernel_rfl) rfl<|Zl (ldR_r one_int row7 ht4 2 rfl (H.ent (i := 2) rfl) rfl)<|Zn<|xw1 11 (by kernel_rfl) rfl<|Zl (Wi rfl)<|Zn<|xw1 12 (by kernel_rfl) rfl<|Zl (Wi rfl)<|Zn<|xw_end (by kernel_rfl)<|Zt ?_
      have hI : initTx t2 = { t2 with state := 4, ver := t2.ver + 1 } := by unfold initTx; rw [if_pos (by omega)]
      exact finCTTT (cs0 := #[.int .i64 ck, .int .i64 nx, .int .i64 wt, .slice (some ⟨g, 0, none⟩) tx2.length c2]) (v1 := .int .i64 t2.pid) (v2 := .int .i64 (t2.ver + 1)) (v3 := .int .i64 0) rfl agg_Coord rfl (H.ent (i := 0) rfl) rfl rfl rfl rfl ⟨⟨ck, nx, wt, tx2.set i ({ t2 with state := 4, ver := t2.ver + 1 }), some ⟨g, 0, none⟩, c2⟩, [(g, .cells cur7 T_Txn (0, 0))], Lp, by unfold Co.v Co.c; dsimp only; rw [List.length_set, hpid, hver], by unfold Co.a; dsimp only; rw [set_a hma i (show Tx.a ({ t2 with state := 4, ver := t2.ver + 1 }) = (initTx t).a by rw [← hI]; exact init_a hta)], by dsimp only; exact Row.own row7, hp2.same ht2 rfl rfl rfl, by dsimp only; rw [List.length_set]; exact hoc2, caps_set hpc2 ht2 rfl rfl, H.forget (.cons _ (.cons _ (List.sublist_append_left _ _))) (by simp)⟩
   ·
    refine Zl (ldR_r one_int row7 ht4 2 rfl (H.ent (i := 2) rfl) rfl)<|Zn<|xw1 0 (by kernel_rfl) rfl<|Zl (Zw agg_Coord H 1 rfl rfl rfl)<|Zn<|xw1 9 (by kernel_rfl) rfl<|stN H 0 (#[.int .i64 ck, .int .i64 nx, .int .i64 wt, .slice (some ⟨g, 0, none⟩) tx2.length c2]) siz_Coord rfl rfl rfl rfl rfl (by kernel_rfl) (by kernel_rfl) fun w17 H =>Zn<|xw1 10 (by kernel_rfl) rfl<|Zl (Wi rfl)<|Zn<|xw1 11 (by kernel_rfl) rfl<|Zl (Wi rfl)<|Zn ?_
    refine xw1 12 (by kernel_rfl) rfl<|Zl (Wi rfl)<|Zn<|xw_end (by kernel_rfl)<|Zt ?_
    have hI : initTx t2 = { t2 with state := 4, ver := t2.ver + 1 } := by unfold initTx; rw [if_pos (by omega)]
    exact finCTTT (cs0 := #[.int .i64 ck, .int .i64 nx, .int .i64 wt, .slice (some ⟨g, 0, none⟩) tx2.length c2]) (v1 := .int .i64 t2.pid) (v2 := .int .i64 (t2.ver + 1)) (v3 := .int .i64 0) rfl agg_Coord rfl (H.ent (i := 0) rfl) rfl rfl rfl rfl ⟨⟨ck, nx, wt, tx2.set i ({ t2 with state := 4, ver := t2.ver + 1 }), some ⟨g, 0, none⟩, c2⟩, [(g, .cells cur7 T_Txn (0, 0))], Lp, by unfold Co.v Co.c; dsimp only; rw [List.length_set, hpid, hver], by unfold Co.a; dsimp only; rw [set_a hma i (show Tx.a ({ t2 with state := 4, ver := t2.ver + 1 }) = (initTx t).a by rw [← hI]; exact init_a hta)], by dsimp only; exact Row.own row7, hp2.same ht2 rfl rfl rfl, by dsimp only; rw [List.length_set]; exact hoc2, caps_set hpc2 ht2 rfl rfl, H.forget (.cons _ (.cons _ (List.sublist_append_left _ _))) (by simp)⟩
  ·
   refine Zl (ldR_r one_int row7 ht4 2 rfl (H.ent (i := 2) rfl) rfl)<|Zn ?_
   refine xw2 0 4 (by kernel_rfl) rfl rfl ?_ ?_ 
   ·
    refine Zl (Zw agg_Coord H 1 rfl rfl rfl)<|Zn ?_
    refine xw2 4 9 (by kernel_rfl) rfl rfl ?_ ?_ 
    ·
     refine Zl (ldR_r one_int row7 ht4 1 rfl (H.ent (i := 2) rfl) rfl)<|Zn<|xw1 9 (by kernel_rfl) rfl<|stN H 0 (#[.int .i64 ck, .int .i64 nx, .int .i64 wt, .slice (some ⟨g, 0, none⟩) tx2.length c2]) siz_Coord rfl rfl rfl rfl rfl (by kernel_rfl) (by kernel_rfl) fun w18 H =>Zn<|xw1 10 (by kernel_rfl) rfl<|Zl (Wi rfl)<|Zn<|xw1 11 (by kernel_rfl) rfl<|Zl (Wi rfl)<|Zn<|xw1 12 (by kernel_rfl) rfl<|Zl (Wi rfl)<|Zn ?_
     refine xw_end (by kernel_rfl)<|Zt ?_
     have hI : initTx t2 = { t2 with state := 4, ver := t2.ver + 1 } := by unfold initTx; rw [if_pos (by omega)]
     exact finCTTT (cs0 := #[.int .i64 ck, .int .i64 nx, .int .i64 wt, .slice (some ⟨g, 0, none⟩) tx2.length c2]) (v1 := .int .i64 t2.pid) (v2 := .int .i64 (t2.ver + 1)) (v3 := .int .i64 0) rfl agg_Coord rfl (H.ent (i := 0) rfl) rfl rfl rfl rfl ⟨⟨ck, nx, wt, tx2.set i ({ t2 with state := 4, ver := t2.ver + 1 }), some ⟨g, 0, none⟩, c2⟩, [(g, .cells cur7 T_Txn (0, 0))], Lp, by unfold Co.v Co.c; dsimp only; rw [List.length_set, hpid, hver], by unfold Co.a; dsimp only; rw [set_a hma i (show Tx.a ({ t2 with state := 4, ver := t2.ver + 1 }) = (initTx t).a by rw [← hI]; exact init_a hta)], by dsimp only; exact Row.own row7, hp2.same ht2 rfl rfl rfl, by dsimp only; rw [List.length_set]; exact hoc2, caps_set hpc2 ht2 rfl rfl, H.forget (.cons _ (.cons _ (List.sublist_append_left _ _))) (by simp)⟩
    ·
     refine stN H 0 (#[.int .i64 ck, .int .i64 nx, .int .i64 wt, .slice (some ⟨g, 0, none⟩) tx2.length c2]) siz_Coord rfl rfl rfl rfl rfl (by kernel_rfl) (by kernel_rfl) fun w19 H =>Zn<|xw1 4 (by kernel_rfl) rfl<|Zl (ldR_r one_int row7 ht4 1 rfl (H.ent (i := 2) rfl) rfl)<|Zn<|xw1 10 (by kernel_rfl) rfl<|Zl (Wi rfl)<|Zn<|xw1 11 (by kernel_rfl) rfl<|Zl (Wi rfl)<|Zn<|xw1 12 (by kernel_rfl) rfl<|Zl (Wi rfl)<|Zn ?_
     refine xw_end (by kernel_rfl)<|Zt ?_
     have hI : initTx t2 = { t2 with state := 4, ver := t2.ver + 1 } := by unfold initTx; rw [if_pos (by omega)]
     exact finCTTT (cs0 := #[.int .i64 ck, .int .i64 nx, .int .i64 wt, .slice (some ⟨g, 0, none⟩) tx2.length c2]) (v1 := .int .i64 t2.pid) (v2 := .int .i64 (t2.ver + 1)) (v3 := .int .i64 0) rfl agg_Coord rfl (H.ent (i := 0) rfl) rfl rfl rfl rfl ⟨⟨ck, nx, wt, tx2.set i ({ t2 with state := 4, ver := t2.ver + 1 }), some ⟨g, 0, none⟩, c2⟩, [(g, .cells cur7 T_Txn (0, 0))], Lp, by unfold Co.v Co.c; dsimp only; rw [List.length_set, hpid, hver], by unfold Co.a; dsimp only; rw [set_a hma i (show Tx.a ({ t2 with state := 4, ver := t2.ver + 1 }) = (initTx t).a by rw [← hI]; exact init_a hta)], by dsimp only; exact Row.own row7, hp2.same ht2 rfl rfl rfl, by dsimp only; rw [List.length_set]; exact hoc2, caps_set hpc2 ht2 rfl rfl, H.forget (.cons _ (.cons _ (List.sublist_append_left _ _))) (by simp)⟩
   ·
    refine Zl (ldR_r one_int row7 ht4 1 rfl (H.ent (i := 2) rfl) rfl)<|Zn<|xw1 0 (by kernel_rfl) rfl<|Zl (Zw agg_Coord H 1 rfl rfl rfl)<|Zn<|xw1 9 (by kernel_rfl) rfl<|stN H 0 (#[.int .i64 ck, .int .i64 nx, .int .i64 wt, .slice (some ⟨g, 0, none⟩) tx2.length c2]) siz_Coord rfl rfl rfl rfl rfl (by kernel_rfl) (by kernel_rfl) fun w20 H =>Zn<|xw1 10 (by kernel_rfl) rfl<|Zl (Wi rfl)<|Zn<|xw1 11 (by kernel_rfl) rfl<|Zl (Wi rfl)<|Zn ?_
    refine xw1 12 (by kernel_rfl) rfl<|Zl (Wi rfl)<|Zn<|xw_end (by kernel_rfl)<|Zt ?_
    have hI : initTx t2 = { t2 with state := 4, ver := t2.ver + 1 } := by unfold initTx; rw [if_pos (by omega)]
    exact finCTTT (cs0 := #[.int .i64 ck, .int .i64 nx, .int .i64 wt, .slice (some ⟨g, 0, none⟩) tx2.length c2]) (v1 := .int .i64 t2.pid) (v2 := .int .i64 (t2.ver + 1)) (v3 := .int .i64 0) rfl agg_Coord rfl (H.ent (i := 0) rfl) rfl rfl rfl rfl ⟨⟨ck, nx, wt, tx2.set i ({ t2 with state := 4, ver := t2.ver + 1 }), some ⟨g, 0, none⟩, c2⟩, [(g, .cells cur7 T_Txn (0, 0))], Lp, by unfold Co.v Co.c; dsimp only; rw [List.length_set, hpid, hver], by unfold Co.a; dsimp only; rw [set_a hma i (show Tx.a ({ t2 with state := 4, ver := t2.ver + 1 }) = (initTx t).a by rw [← hI]; exact init_a hta)], by dsimp only; exact Row.own row7, hp2.same ht2 rfl rfl rfl, by dsimp only; rw [List.length_set]; exact hoc2, caps_set hpc2 ht2 rfl rfl, H.forget (.cons _ (.cons _ (List.sublist_append_left _ _))) (by simp)⟩
 ·
  refine Zl (Wb rfl)<|Zn<|ZF rfl<|Zk<|Zs<|Zr<|Zl (Yp rfl)<|Zl (nck_r rfl)<|Zl (Zf fd_Txn_2 rfl)<|Zl (ldR_r one_int row ht2 2 rfl (H.ent (i := 2) rfl) rfl)<|Zl (add_r rfl rfl (by omega) (by omega))<|Zl (nck_r rfl)<|Zl (Zf fd_Txn_2 rfl)<|stR H 2 ({ t2 with ver := t2.ver + 1 }) siz_int row ht2 2 rfl rfl rfl rfl rfl rfl (by kernel_rfl) fun w22 cur21 row21 H => ?_
  refine Zn<|Zs ?_
  have ht4 : (tx2.set i { t2 with ver := t2.ver + 1 })[i]? = some { t2 with ver := t2.ver + 1 } := List.getElem?_set_self hl2
   
  refine cw_tree mixed [1, 2, 3, 5, 6, 7] [0, 4, 8, 9, 10, 11, 12] [1, 2, 3, 5, 6, 7] 7 (by kernel_rfl) (by kernel_rfl) (by kernel_rfl) (fun _ _ _ h => h) ?_
  refine aw rfl rfl rfl rfl rfl (fun w' hw' => Yp rfl)<|aw rfl rfl rfl rfl rfl (fun w' hw' => nck_r rfl)<|aw rfl rfl rfl rfl rfl (fun w' hw' => Zf fd_Txn_1 rfl)<|aw rfl rfl rfl rfl rfl (fun w' hw' => Yp rfl)<|aw rfl rfl rfl rfl rfl (fun w' hw' => nck_r rfl)<|aw rfl rfl rfl rfl rfl (fun w' hw' => Zf fd_Txn_2 rfl)<|aw_nil ?_
  intro w23 hw'; replace H := H.later hw'; clear hw'
  refine xw3 0 4 8 (by kernel_rfl) rfl rfl rfl ?_ ?_ ?_ 
  ·
   refine Zl (Zw agg_Coord H 1 rfl rfl rfl)<|Zn ?_
   refine xw3 4 8 9 (by kernel_rfl) rfl rfl rfl ?_ ?_ ?_ 
   ·
    refine Zl (ldR_r one_int row21 ht4 1 rfl (H.ent (i := 2) rfl) rfl)<|Zn ?_
    refine xw2 8 9 (by kernel_rfl) rfl rfl ?_ ?_ 
    ·
     refine Zl (ldR_r one_int row21 ht4 2 rfl (H.ent (i := 2) rfl) rfl)<|Zn<|xw1 9 (by kernel_rfl) rfl<|stN H 0 (#[.int .i64 ck, .int .i64 nx, .int .i64 wt, .slice (some ⟨g, 0, none⟩) tx2.length c2]) siz_Coord rfl rfl rfl rfl rfl (by kernel_rfl) (by kernel_rfl) fun w24 H =>Zn<|xw1 10 (by kernel_rfl) rfl<|Zl (Wi rfl)<|Zn<|xw1 11 (by kernel_rfl) rfl<|Zl (Wi rfl)<|Zn<|xw1 12 (by kernel_rfl) rfl<|Zl (Wi rfl)<|Zn ?_
     refine xw_end (by kernel_rfl)<|Zt ?_
     have hI : initTx t2 = { t2 with ver := t2.ver + 1 } := by unfold initTx; rw [if_neg (by omega)]
     exact finCTTT (cs0 := #[.int .i64 ck, .int .i64 nx, .int .i64 wt, .slice (some ⟨g, 0, none⟩) tx2.length c2]) (v1 := .int .i64 t2.pid) (v2 := .int .i64 (t2.ver + 1)) (v3 := .int .i64 0) rfl agg_Coord rfl (H.ent (i := 0) rfl) rfl rfl rfl rfl ⟨⟨ck, nx, wt, tx2.set i ({ t2 with ver := t2.ver + 1 }), some ⟨g, 0, none⟩, c2⟩, [(g, .cells cur21 T_Txn (0, 0))], Lp, by unfold Co.v Co.c; dsimp only; rw [List.length_set, hpid, hver], by unfold Co.a; dsimp only; rw [set_a hma i (show Tx.a ({ t2 with ver := t2.ver + 1 }) = (initTx t).a by rw [← hI]; exact init_a hta)], by dsimp only; exact Row.own row21, hp2.same ht2 rfl rfl rfl, by dsimp only; rw [List.length_set]; exact hoc2, caps_set hpc2 ht2 rfl rfl, H.forget (.cons _ (.cons _ (List.sublist_append_left _ _))) (by simp)⟩
    ·
     refine stN H 0 (#[.int .i64 ck, .int .i64 nx, .int .i64 wt, .slice (some ⟨g, 0, none⟩) tx2.length c2]) siz_Coord rfl rfl rfl rfl rfl (by kernel_rfl) (by kernel_rfl) fun w25 H =>Zn ?_
     refine xw2 8 10 (by kernel_rfl) rfl rfl ?_ ?_ 
     ·
      refine Zl (ldR_r one_int row21 ht4 2 rfl (H.ent (i := 2) rfl) rfl)<|Zn<|xw1 10 (by kernel_rfl) rfl<|Zl (Wi rfl)<|Zn<|xw1 11 (by kernel_rfl) rfl<|Zl (Wi rfl)<|Zn<|xw1 12 (by kernel_rfl) rfl<|Zl (Wi rfl)<|Zn<|xw_end (by kernel_rfl)<|Zt ?_
      have hI : initTx t2 = { t2 with ver := t2.ver + 1 } := by unfold initTx; rw [if_neg (by omega)]
      exact finCTTT (cs0 := #[.int .i64 ck, .int .i64 nx, .int .i64 wt, .slice (some ⟨g, 0, none⟩) tx2.length c2]) (v1 := .int .i64 t2.pid) (v2 := .int .i64 (t2.ver + 1)) (v3 := .int .i64 0) rfl agg_Coord rfl (H.ent (i := 0) rfl) rfl rfl rfl rfl ⟨⟨ck, nx, wt, tx2.set i ({ t2 with ver := t2.ver + 1 }), some ⟨g, 0, none⟩, c2⟩, [(g, .cells cur21 T_Txn (0, 0))], Lp, by unfold Co.v Co.c; dsimp only; rw [List.length_set, hpid, hver], by unfold Co.a; dsimp only; rw [set_a hma i (show Tx.a ({ t2 with ver := t2.ver + 1 }) = (initTx t).a by rw [← hI]; exact init_a hta)], by dsimp only; exact Row.own row21, hp2.same ht2 rfl rfl rfl, by dsimp only; rw [List.length_set]; exact hoc2, caps_set hpc2 ht2 rfl rfl, H.forget (.cons _ (.cons _ (List.sublist_append_left _ _))) (by simp)⟩
     ·
      refine Zl (Wi rfl)<|Zn<|xw1 8 (by kernel_rfl) rfl<|Zl (ldR_r one_int row21 ht4 2 rfl (H.ent (i := 2) rfl) rfl)<|Zn<|xw1 11 (by kernel_rfl) rfl<|Zl (Wi rfl)<|Zn<|xw1 12 (by kernel_rfl) rfl<|Zl (Wi rfl)<|Zn<|xw_end (by kernel_rfl)<|Zt ?_
      have hI : initTx t2 = { t2 with ver := t2.ver + 1 } := by unfold initTx; rw [if_neg (by omega)]
      exact finCTTT (cs0 := #[.int .i64 ck, .int .i64 nx, .int .i64 wt, .slice (some ⟨g, 0, none⟩) tx2.length c2]) (v1 := .int .i64 t2.pid) (v2 := .int .i64 (t2.ver + 1)) (v3 := .int .i64 0) rfl agg_Coord rfl (H.ent (i := 0) rfl) rfl rfl rfl rfl ⟨⟨ck, nx, wt, tx2.set i ({ t2 with ver := t2.ver + 1 }), some ⟨g, 0, none⟩, c2⟩, [(g, .cells cur21 T_Txn (0, 0))], Lp, by unfold Co.v Co.c; dsimp only; rw [List.length_set, hpid, hver], by unfold Co.a; dsimp only; rw [set_a hma i (show Tx.a ({ t2 with ver := t2.ver + 1 }) = (initTx t).a by rw [← hI]; exact init_a hta)], by dsimp only; exact Row.own row21, hp2.same ht2 rfl rfl rfl, by dsimp only; rw [List.length_set]; exact hoc2, caps_set hpc2 ht2 rfl rfl, H.forget (.cons _ (.cons _ (List.sublist_append_left _ _))) (by simp)⟩
   ·
    refine Zl (ldR_r one_int row21 ht4 2 rfl (H.ent (i := 2) rfl) rfl)<|Zn ?_
    refine xw2 4 9 (by kernel_rfl) rfl rfl ?_ ?_ 
    ·
     refine Zl (ldR_r one_int row21 ht4 1 rfl (H.ent (i := 2) rfl) rfl)<|Zn<|xw1 9 (by kernel_rfl) rfl<|stN H 0 (#[.int .i64 ck, .int .i64 nx, .int .i64 wt, .slice (some ⟨g, 0, none⟩) tx2.length c2]) siz_Coord rfl rfl rfl rfl rfl (by kernel_rfl) (by kernel_rfl) fun w26 H =>Zn<|xw1 10 (by kernel_rfl) rfl<|Zl (Wi rfl)<|Zn<|xw1 11 (by kernel_rfl) rfl<|Zl (Wi rfl)<|Zn<|xw1 12 (by kernel_rfl) rfl<|Zl (Wi rfl)<|Zn ?_
     refine xw_end (by kernel_rfl)<|Zt ?_
     have hI : initTx t2 = { t2 with ver := t2.ver + 1 } := by unfold initTx; rw [if_neg (by omega)]
     exact finCTTT (cs0 := #[.int .i64 ck, .int .i64 nx, .int .i64 wt, .slice (some ⟨g, 0, none⟩) tx2.length c2]) (v1 := .int .i64 t2.pid) (v2 := .int .i64 (t2.ver + 1)) (v3 := .int .i64 0) rfl agg_Coord rfl (H.ent (i := 0) rfl) rfl rfl rfl rfl ⟨⟨ck, nx, wt, tx2.set i ({ t2 with ver := t2.ver + 1 }), some ⟨g, 0, none⟩, c2⟩, [(g, .cells cur21 T_Txn (0, 0))], Lp, by unfold Co.v Co.c; dsimp only; rw [List.length_set, hpid, hver], by unfold Co.a; dsimp only; rw [set_a hma i (show Tx.a ({ t2 with ver := t2.ver + 1 }) = (initTx t).a by rw [← hI]; exact init_a hta)], by dsimp only; exact Row.own row21, hp2.same ht2 rfl rfl rfl, by dsimp only; rw [List.length_set]; exact hoc2, caps_set hpc2 ht2 rfl rfl, H.forget (.cons _ (.cons _ (List.sublist_append_left _ _))) (by simp)⟩
    ·
     refine stN H 0 (#[.int .i64 ck, .int .i64 nx, .int .i64 wt, .slice (some ⟨g, 0, none⟩) tx2.length c2]) siz_Coord rfl rfl rfl rfl rfl (by kernel_rfl) (by kernel_rfl) fun w27 H =>Zn<|xw1 4 (by kernel_rfl) rfl<|Zl (ldR_r one_int row21 ht4 1 rfl (H.ent (i := 2) rfl) rfl)<|Zn<|xw1 10 (by kernel_rfl) rfl<|Zl (Wi rfl)<|Zn<|xw1 11 (by kernel_rfl) rfl<|Zl (Wi rfl)<|Zn<|xw1 12 (by kernel_rfl) rfl<|Zl (Wi rfl)<|Zn ?_
     refine xw_end (by kernel_rfl)<|Zt ?_
     have hI : initTx t2 = { t2 with ver := t2.ver + 1 } := by unfold initTx; rw [if_neg (by omega)]
     exact finCTTT (cs0 := #[.int .i64 ck, .int .i64 nx, .int .i64 wt, .slice (some ⟨g, 0, none⟩) tx2.length c2]) (v1 := .int .i64 t2.pid) (v2 := .int .i64 (t2.ver + 1)) (v3 := .int .i64 0) rfl agg_Coord rfl (H.ent (i := 0) rfl) rfl rfl rfl rfl ⟨⟨ck, nx, wt, tx2.set i ({ t2 with ver := t2.ver + 1 }), some ⟨g, 0, none⟩, c2⟩, [(g, .cells cur21 T_Txn (0, 0))], Lp, by unfold Co.v Co.c; dsimp only; rw [List.length_set, hpid, hver], by unfold Co.a; dsimp only; rw [set_a hma i (show Tx.a ({ t2 with ver := t2.ver + 1 }) = (initTx t).a by rw [← hI]; exact init_a hta)], by dsimp only; exact Row.own row21, hp2.same ht2 rfl rfl rfl, by dsimp only; rw [List.length_set]; exact hoc2, caps_set hpc2 ht2 rfl rfl, H.forget (.cons _ (.cons _ (List.sublist_append_left _ _))) (by simp)⟩
   ·
    refine stN H 0 (#[.int .i64 ck, .int .i64 nx, .int .i64 wt, .slice (some ⟨g, 0, none⟩) tx2.length c2]) siz_Coord rfl rfl rfl rfl rfl (by kernel_rfl) (by kernel_rfl) fun w28 H =>Zn ?_
    refine xw2 4 8 (by kernel_rfl) rfl rfl ?_ ?_ 
    ·
     refine Zl (ldR_r one_int row21 ht4 1 rfl (H.ent (i := 2) rfl) rfl)<|Zn ?_
     refine xw2 8 10 (by kernel_rfl) rfl rfl ?_ ?_ 
     ·
      refine Zl (ldR_r one_int row21 ht4 2 rfl (H.ent (i := 2) rfl) rfl)<|Zn<|xw1 10 (by kernel_rfl) rfl<|Zl (Wi rfl)<|Zn<|xw1 11 (by kernel_rfl) rfl<|Zl (Wi rfl)<|Zn<|xw1 12 (by kernel_rfl) rfl<|Zl (Wi rfl)<|Zn<|xw_end (by kernel_rfl)<|Zt ?_
      have hI : initTx t2 = { t2 with ver := t2.ver + 1 } := by unfold initTx; rw [if_neg (by omega)]
      exact finCTTT (cs0 := #[.int .i64 ck, .int .i64 nx, .int .i64 wt, .slice (some ⟨g, 0, none⟩) tx2.length c2]) (v1 := .int .i64 t2.pid) (v2 := .int .i64 (t2.ver + 1)) (v3 := .int .i64 0) rfl agg_Coord rfl (H.ent (i := 0) rfl) rfl rfl rfl rfl ⟨⟨ck, nx, wt, tx2.set i ({ t2 with ver := t2.ver + 1 }), some ⟨g, 0, none⟩, c2⟩, [(g, .cells cur21 T_Txn (0, 0))], Lp, by unfold Co.v Co.c; dsimp only; rw [List.length_set, hpid, hver], by unfold Co.a; dsimp only; rw [set_a hma i (show Tx.a ({ t2 with ver := t2.ver + 1 }) = (initTx t).a by rw [← hI]; exact init_a hta)], by dsimp only; exact Row.own row21, hp2.same ht2 rfl rfl rfl, by dsimp only; rw [List.length_set]; exact hoc2, caps_set hpc2 ht2 rfl rfl, H.forget (.cons _ (.cons _ (List.sublist_append_left _ _))) (by simp)⟩
     ·
      refine Zl (Wi rfl)<|Zn<|xw1 8 (by kernel_rfl) rfl<|Zl (ldR_r one_int row21 ht4 2 rfl (H.ent (i := 2) rfl) rfl)<|Zn<|xw1 11 (by kernel_rfl) rfl<|Zl (Wi rfl)<|Zn<|xw1 12 (by kernel_rfl) rfl<|Zl (Wi rfl)<|Zn<|xw_end (by kernel_rfl)<|Zt ?_
      have hI : initTx t2 = { t2 with ver := t2.ver + 1 } := by unfold initTx; rw [if_neg (by omega)]
      exact finCTTT (cs0 := #[.int .i64 ck, .int .i64 nx, .int .i64 wt, .slice (some ⟨g, 0, none⟩) tx2.length c2]) (v1 := .int .i64 t2.pid) (v2 := .int .i64 (t2.ver + 1)) (v3 := .int .i64 0) rfl agg_Coord rfl (H.ent (i := 0) rfl) rfl rfl rfl rfl ⟨⟨ck, nx, wt, tx2.set i ({ t2 with ver := t2.ver + 1 }), some ⟨g, 0, none⟩, c2⟩, [(g, .cells cur21 T_Txn (0, 0))], Lp, by unfold Co.v Co.c; dsimp only; rw [List.length_set, hpid, hver], by unfold Co.a; dsimp only; rw [set_a hma i (show Tx.a ({ t2 with ver := t2.ver + 1 }) = (initTx t).a by rw [← hI]; exact init_a hta)], by dsimp only; exact Row.own row21, hp2.same ht2 rfl rfl rfl, by dsimp only; rw [List.length_set]; exact hoc2, caps_set hpc2 ht2 rfl rfl, H.forget (.cons _ (.cons _ (List.sublist_append_left _ _))) (by simp)⟩
    ·
     refine Zl (ldR_r one_int row21 ht4 2 rfl (H.ent (i := 2) rfl) rfl)<|Zn<|xw1 4 (by kernel_rfl) rfl<|Zl (ldR_r one_int row21 ht4 1 rfl (H.ent (i := 2) rfl) rfl)<|Zn<|xw1 10 (by kernel_rfl) rfl<|Zl (Wi rfl)<|Zn<|xw1 11 (by kernel_rfl) rfl<|Zl (Wi rfl)<|Zn<|xw1 12 (by kernel_rfl) rfl<|Zl (Wi rfl)<|Zn ?_
     refine xw_end (by kernel_rfl)<|Zt ?_
     have hI : initTx t2 = { t2 with ver := t2.ver + 1 } := by unfold initTx; rw [if_neg (by omega)]
     exact finCTTT (cs0 := #[.int .i64 ck, .int .i64 nx, .int .i64 wt, .slice (some ⟨g, 0, none⟩) tx2.length c2]) (v1 := .int .i64 t2.pid) (v2 := .int .i64 (t2.ver + 1)) (v3 := .int .i64 0) rfl agg_Coord rfl (H.ent (i := 0) rfl) rfl rfl rfl rfl ⟨⟨ck, nx, wt, tx2.set i ({ t2 with ver := t2.ver + 1 }), some ⟨g, 0, none⟩, c2⟩, [(g, .cells cur21 T_Txn (0, 0))], Lp, by unfold Co.v Co.c; dsimp only; rw [List.length_set, hpid, hver], by unfold Co.a; dsimp only; rw [set_a hma i (show Tx.a ({ t2 with ver := t2.ver + 1 }) = (initTx t).a by rw [← hI]; exact init_a hta)], by dsimp only; exact Row.own row21, hp2.same ht2 rfl rfl rfl, by dsimp only; rw [List.length_set]; exact hoc2, caps_set hpc2 ht2 rfl rfl, H.forget (.cons _ (.cons _ (List.sublist_append_left _ _))) (by simp)⟩
  ·
   refine Zl (ldR_r one_int row21 ht4 1 rfl (H.ent (i := 2) rfl) rfl)<|Zn ?_
   refine xw2 0 8 (by kernel_rfl) rfl rfl ?_ ?_ 
   ·
    refine Zl (Zw agg_Coord H 1 rfl rfl rfl)<|Zn ?_
    refine xw2 8 9 (by kernel_rfl) rfl rfl ?_ ?_ 
    ·
     refine Zl (ldR_r one_int row21 ht4 2 rfl (H.ent (i := 2) rfl) rfl)<|Zn<|xw1 9 (by kernel_rfl) rfl<|stN H 0 (#[.int .i64 ck, .int .i64 nx, .int .i64 wt, .slice (some ⟨g, 0, none⟩) tx2.length c2]) siz_Coord rfl rfl rfl rfl rfl (by kernel_rfl) (by kernel_rfl) fun w29 H =>Zn<|xw1 10 (by kernel_rfl) rfl<|Zl (Wi rfl)<|Zn<|xw1 11 (by kernel_rfl) rfl<|Zl (Wi rfl)<|Zn<|xw1 12 (by kernel_rfl) rfl<|Zl (Wi rfl)<|Zn ?_
     refine xw_end (by kernel_rfl)<|Zt ?_
     have hI : initTx t2 = { t2 with ver := t2.ver + 1 } := by unfold initTx; rw [if_neg (by omega)]
     exact finCTTT (cs0 := #[.int .i64 ck, .int .i64 nx, .int .i64 wt, .slice (some ⟨g, 0, none⟩) tx2.length c2]) (v1 := .int .i64 t2.pid) (v2 := .int .i64 (t2.ver + 1)) (v3 := .int .i64 0) rfl agg_Coord rfl (H.ent (i := 0) rfl) rfl rfl rfl rfl ⟨⟨ck, nx, wt, tx2.set i ({ t2 with ver := t2.ver + 1 }), some ⟨g, 0, none⟩, c2⟩, [(g, .cells cur21 T_Txn (0, 0))], Lp, by unfold Co.v Co.c; dsimp only; rw [List.length_set, hpid, hver], by unfold Co.a; dsimp only; rw [set_a hma i (show Tx.a ({ t2 with ver := t2.ver + 1 }) = (initTx t).a by rw [← hI]; exact init_a hta)], by dsimp only; exact Row.own row21, hp2.same ht2 rfl rfl rfl, by dsimp only; rw [List.length_set]; exact hoc2, caps_set hpc2 ht2 rfl rfl, H.forget (.cons _ (.cons _ (List.sublist_append_left _ _))) (by simp)⟩
    ·
     refine stN H 0 (#[.int .i64 ck, .int .i64 nx, .int .i64 wt, .slice (some ⟨g, 0, none⟩) tx2.length c2]) siz_Coord rfl rfl rfl rfl rfl (by kernel_rfl) (by kernel_rfl) fun w30 H =>Zn ?_
     refine xw2 8 10 (by kernel_rfl) rfl rfl ?_ ?_ 
     ·
      refine Zl (ldR_r one_int row21 ht4 2 rfl (H.ent (i := 2) rfl) rfl)<|Zn<|xw1 10 (by kernel_rfl) rfl<|Zl (Wi rfl)<|Zn<|xw1 11 (by kernel_rfl) rfl<|Zl (Wi rfl)<|Zn<|xw1 12 (by kernel_rfl) rfl<|Zl (Wi rfl)<|Zn<|xw_end (by kernel_rfl)<|Zt ?_
      have hI : initTx t2 = { t2 with ver := t2.ver + 1 } := by unfold initTx; rw [if_neg (by omega)]
      exact finCTTT (cs0 := #[.int .i64 ck, .int .i64 nx, .int .i64 wt, .slice (some ⟨g, 0, none⟩) tx2.length c2]) (v1 := .int .i64 t2.pid) (v2 := .int .i64 (t2.ver + 1)) (v3 := .int .i64 0) rfl agg_Coord rfl (H.ent (i := 0) rfl) rfl rfl rfl rfl ⟨⟨ck, nx, wt, tx2.set i ({ t2 with ver := t2.ver + 1 }), some ⟨g, 0, none⟩, c2⟩, [(g, .cells cur21 T_Txn (0, 0))], Lp, by unfold Co.v Co.c; dsimp only; rw [List.length_set, hpid, hver], by unfold Co.a; dsimp only; rw [set_a hma i (show Tx.a ({ t2 with ver := t2.ver + 1 }) = (initTx t).a by rw [← hI]; exact init_a hta)], by dsimp only; exact Row.own row21, hp2.same ht2 rfl rfl rfl, by dsimp only; rw [List.length_set]; exact hoc2, caps_set hpc2 ht2 rfl rfl, H.forget (.cons _ (.cons _ (List.sublist_append_left _ _))) (by simp)⟩
     ·
      refine Zl (Wi rfl)<|Zn<|xw1 8 (by kernel_rfl) rfl<|Zl (ldR_r one_int row21 ht4 2 rfl (H.ent (i := 2) rfl) rfl)<|Zn<|xw1 11 (by kernel_rfl) rfl<|Zl (Wi rfl)<|Zn<|xw1 12 (by kernel_rfl) rfl<|Zl (Wi rfl)<|Zn<|xw_end (by kernel_rfl)<|Zt ?_
      have hI : initTx t2 = { t2 with ver := t2.ver + 1 } := by unfold initTx; rw [if_neg (by omega)]
      exact finCTTT (cs0 := #[.int .i64 ck, .int .i64 nx, .int .i64 wt, .slice (some ⟨g, 0, none⟩) tx2.length c2]) (v1 := .int .i64 t2.pid) (v2 := .int .i64 (t2.ver + 1)) (v3 := .int .i64 0) rfl agg_Coord rfl (H.ent (i := 0) rfl) rfl rfl rfl rfl ⟨⟨ck, nx, wt, tx2.set i ({ t2 with ver := t2.ver + 1 }), some ⟨g, 0, none⟩, c2⟩, [(g, .cells cur21 T_Txn (0, 0))], Lp, by unfold Co.v Co.c; dsimp only; rw [List.length_set, hpid, hver], by unfold Co.a; dsimp only; rw [set_a hma i (show Tx.a ({ t2 with ver := t2.ver + 1 }) = (initTx t).a by rw [← hI]; exact init_a hta)], by dsimp only; exact Row.own row21, hp2.same ht2 rfl rfl rfl, by dsimp only; rw [List.length_set]; exact hoc2, caps_set hpc2 ht2 rfl rfl, H.forget (.cons _ (.cons _ (List.sublist_append_left _ _))) (by simp)⟩
   ·
    refine Zl (ldR_r one_int row21 ht4 2 rfl (H.ent (i := 2) rfl) rfl)<|Zn<|xw1 0 (by kernel_rfl) rfl<|Zl (Zw agg_Coord H 1 rfl rfl rfl)<|Zn<|xw1 9 (by kernel_rfl) rfl<|stN H 0 (#[.int .i64 ck, .int .i64 nx, .int .i64 wt, .slice (some ⟨g, 0, none⟩) tx2.length c2]) siz_Coord rfl rfl rfl rfl rfl (by kernel_rfl) (by kernel_rfl) fun w31 H =>Zn<|xw1 10 (by kernel_rfl) rfl<|Zl (Wi rfl)<|Zn<|xw1 11 (by kernel_rfl) rfl<|Zl (Wi rfl)<|Zn ?_
    refine xw1 12 (by kernel_rfl) rfl<|Zl (Wi rfl)<|Zn<|xw_end (by kernel_rfl)<|Zt ?_
    have hI : initTx t2 = { t2 with ver := t2.ver + 1 } := by unfold initTx; rw [if_neg (by omega)]
    exact finCTTT (cs0 := #[.int .i64 ck, .int .i64 nx, .int .i64 wt, .slice (some ⟨g, 0, none⟩) tx2.length c2]) (v1 := .int .i64 t2.pid) (v2 := .int .i64 (t2.ver + 1)) (v3 := .int .i64 0) rfl agg_Coord rfl (H.ent (i := 0) rfl) rfl rfl rfl rfl ⟨⟨ck, nx, wt, tx2.set i ({ t2 with ver := t2.ver + 1 }), some ⟨g, 0, none⟩, c2⟩, [(g, .cells cur21 T_Txn (0, 0))], Lp, by unfold Co.v Co.c; dsimp only; rw [List.length_set, hpid, hver], by unfold Co.a; dsimp only; rw [set_a hma i (show Tx.a ({ t2 with ver := t2.ver + 1 }) = (initTx t).a by rw [← hI]; exact init_a hta)], by dsimp only; exact Row.own row21, hp2.same ht2 rfl rfl rfl, by dsimp only; rw [List.length_set]; exact hoc2, caps_set hpc2 ht2 rfl rfl, H.forget (.cons _ (.cons _ (List.sublist_append_left _ _))) (by simp)⟩
  ·
   refine Zl (ldR_r one_int row21 ht4 2 rfl (H.ent (i := 2) rfl) rfl)<|Zn ?_
   refine xw2 0 4 (by kernel_rfl) rfl rfl ?_ ?_ 
   ·
    refine Zl (Zw agg_Coord H 1 rfl rfl rfl)<|Zn ?_
    refine xw2 4 9 (by kernel_rfl) rfl rfl ?_ ?_ 
    ·
     refine Zl (ldR_r one_int row21 ht4 1 rfl (H.ent (i := 2) rfl) rfl)<|Zn<|xw1 9 (by kernel_rfl) rfl<|stN H 0 (#[.int .i64 ck, .int .i64 nx, .int .i64 wt, .slice (some ⟨g, 0, none⟩) tx2.length c2]) siz_Coord rfl rfl rfl rfl rfl (by kernel_rfl) (by kernel_rfl) fun w32 H =>Zn<|xw1 10 (by kernel_rfl) rfl<|Zl (Wi rfl)<|Zn<|xw1 11 (by kernel_rfl) rfl<|Zl (Wi rfl)<|Zn<|xw1 12 (by kernel_rfl) rfl<|Zl (Wi rfl)<|Zn ?_
     refine xw_end (by kernel_rfl)<|Zt ?_
     have hI : initTx t2 = { t2 with ver := t2.ver + 1 } := by unfold initTx; rw [if_neg (by omega)]
     exact finCTTT (cs0 := #[.int .i64 ck, .int .i64 nx, .int .i64 wt, .slice (some ⟨g, 0, none⟩) tx2.length c2]) (v1 := .int .i64 t2.pid) (v2 := .int .i64 (t2.ver + 1)) (v3 := .int .i64 0) rfl agg_Coord rfl (H.ent (i := 0) rfl) rfl rfl rfl rfl ⟨⟨ck, nx, wt, tx2.set i ({ t2 with ver := t2.ver + 1 }), some ⟨g, 0, none⟩, c2⟩, [(g, .cells cur21 T_Txn (0, 0))], Lp, by unfold Co.v Co.c; dsimp only; rw [List.length_set, hpid, hver], by unfold Co.a; dsimp only; rw [set_a hma i (show Tx.a ({ t2 with ver := t2.ver + 1 }) = (initTx t).a by rw [← hI]; exact init_a hta)], by dsimp only; exact Row.own row21, hp2.same ht2 rfl rfl rfl, by dsimp only; rw [List.length_set]; exact hoc2, caps_set hpc2 ht2 rfl rfl, H.forget (.cons _ (.cons _ (List.sublist_append_left _ _))) (by simp)⟩
    ·
     refine stN H 0 (#[.int .i64 ck, .int .i64 nx, .int .i64 wt, .slice (some ⟨g, 0, none⟩) tx2.length c2]) siz_Coord rfl rfl rfl rfl rfl (by kernel_rfl) (by kernel_rfl) fun w33 H =>Zn<|xw1 4 (by kernel_rfl) rfl<|Zl (ldR_r one_int row21 ht4 1 rfl (H.ent (i := 2) rfl) rfl)<|Zn<|xw1 10 (by kernel_rfl) rfl<|Zl (Wi rfl)<|Zn<|xw1 11 (by kernel_rfl) rfl<|Zl (Wi rfl)<|Zn<|xw1 12 (by kernel_rfl) rfl<|Zl (Wi rfl)<|Zn ?_
     refine xw_end (by kernel_rfl)<|Zt ?_
     have hI : initTx t2 = { t2 with ver := t2.ver + 1 } := by unfold initTx; rw [if_neg (by omega)]
     exact finCTTT (cs0 := #[.int .i64 ck, .int .i64 nx, .int .i64 wt, .slice (some ⟨g, 0, none⟩) tx2.length c2]) (v1 := .int .i64 t2.pid) (v2 := .int .i64 (t2.ver + 1)) (v3 := .int .i64 0) rfl agg_Coord rfl (H.ent (i := 0) rfl) rfl rfl rfl rfl ⟨⟨ck, nx, wt, tx2.set i ({ t2 with ver := t2.ver + 1 }), some ⟨g, 0, none⟩, c2⟩, [(g, .cells cur21 T_Txn (0, 0))], Lp, by unfold Co.v Co.c; dsimp only; rw [List.length_set, hpid, hver], by unfold Co.a; dsimp only; rw [set_a hma i (show Tx.a ({ t2 with ver := t2.ver + 1 }) = (initTx t).a by rw [← hI]; exact init_a hta)], by dsimp only; exact Row.own row21, hp2.same ht2 rfl rfl rfl, by dsimp only; rw [List.length_set]; exact hoc2, caps_set hpc2 ht2 rfl rfl, H.forget (.cons _ (.cons _ (List.sublist_append_left _ _))) (by simp)⟩
   ·
    refine Zl (ldR_r one_int row21 ht4 1 rfl (H.ent (i := 2) rfl) rfl)<|Zn<|xw1 0 (by kernel_rfl) rfl<|Zl (Zw agg_Coord H 1 rfl rfl rfl)<|Zn<|xw1 9 (by kernel_rfl) rfl<|stN H 0 (#[.int .i64 ck, .int .i64 nx, .int .i64 wt, .slice (some ⟨g, 0, none⟩) tx2.length c2]) siz_Coord rfl rfl rfl rfl rfl (by kernel_rfl) (by kernel_rfl) fun w34 H =>Zn<|xw1 10 (by kernel_rfl) rfl<|Zl (Wi rfl)<|Zn<|xw1 11 (by kernel_rfl) rfl<|Zl (Wi rfl)<|Zn ?_
    refine xw1 12 (by kernel_rfl) rfl<|Zl (Wi rfl)<|Zn<|xw_end (by kernel_rfl)<|Zt ?_
    have hI : initTx t2 = { t2 with ver := t2.ver + 1 } := by unfold initTx; rw [if_neg (by omega)]
    exact finCTTT (cs0 := #[.int .i64 ck, .int .i64 nx, .int .i64 wt, .slice (some ⟨g, 0, none⟩) tx2.length c2]) (v1 := .int .i64 t2.pid) (v2 := .int .i64 (t2.ver + 1)) (v3 := .int .i64 0) rfl agg_Coord rfl (H.ent (i := 0) rfl) rfl rfl rfl rfl ⟨⟨ck, nx, wt, tx2.set i ({ t2 with ver := t2.ver + 1 }), some ⟨g, 0, none⟩, c2⟩, [(g, .cells cur21 T_Txn (0, 0))], Lp, by unfold Co.v Co.c; dsimp only; rw [List.length_set, hpid, hver], by unfold Co.a; dsimp only; rw [set_a hma i (show Tx.a ({ t2 with ver := t2.ver + 1 }) = (initTx t).a by rw [← hI]; exact init_a hta)], by dsimp only; exact Row.own row21, hp2.same ht2 rfl rfl rfl, by dsimp only; rw [List.length_set]; exact hoc2, caps_set hpc2 ht2 rfl rfl, H.forget (.cons _ (.cons _ (List.sublist_append_left _ _))) (by simp)⟩
end Go.Proofs.Ytemnchkebhclpaa
end

section
namespace Go.Proofs.Ytemnchkebhclpaa
open Go Go.Eng Go.RowKit
set_option linter.unusedSimpArgs false
theorem reassoc2 {w0 w : World} {F : List Fact} {a b : Nat × Obj} (Lr Lp : List (Nat × Obj)) (H : Hp w0 w (a :: b :: ((Lr ++ Lp) ++ [])) F) : Hp w0 w ([a, b] ++ Lr ++ Lp) F := by
 rw [List.append_nil] at H
 exact H
set_option maxHeartbeats 4000000 in
set_option maxRecDepth 10000 in
theorem initO_new (c : Co) (s : ByteArray) (w : World) (h : c.rd 0 w.heap.size w) (hok : coOk c = true) (hn : nameOk s = true) (hi : nameIdx c s < 0) (hf : c.txs.length ≠ 8) (hx : c.next ≠ 1073741824) : Ret Try.prog i_coord_Init [c.v, .string s] w fun v w2 => ∃ (c' : Co) (Lr Lp : List (Nat × Obj)), v = .tuple #[c'.v, .int .i64 c.next, .int .i64 0, .int .i64 0] ∧ OwnCo w w2 (coWith c.a s) c' Lr Lp := by
 refine ret_of fn_coord_Init rfl rfl ?_
 have hcap := h.cap
 have hfew := h.few
 have hfp := h.fewP
 have H := Hp.startCo h
 obtain ⟨ck, nx, wt, txs, cA, cc⟩ := c
 dsimp only at hcap hfew hfp H
 show CW _ _ _ _ (args [.agg #[.int .i64 ck, .int .i64 nx, .int .i64 wt, .slice cA txs.length cc], .string s]) w
 dsimp only at hf hx ⊢
 obtain ⟨q1, q2, q3, q4, q5, q6, q7⟩ := coOk_iff.1 hok
 dsimp only at q2 q3 q6
 refine Zs<|Zr<|bxA H rfl rfl fun w1 b2 H =>alo H z_Coord rfl fun w2 b4 H =>Zl (Wi rfl)<|Zl (Wi rfl)<|Zl (Wi rfl)<|Zn<|Zs<|Zr<|Zl (Zw agg_Coord H 1 rfl rfl rfl)<|Zl (Yt rfl)<|cal cb_coord_find (coFindO_ok ⟨ck, nx, wt, txs, cA, cc⟩ s _ ⟨H.rd0 0 rfl, fun t ht => parts0 H 1 rfl ht, hcap, hfew, hfp⟩ hok hn) rfl rfl ?_
 rintro _ w3 ⟨⟨ck2, nx2, wt2, tx2, A2, c2⟩, Lr, Lp, rfl, ha2, ho2, hp2, hoc2, hpc2, hj2⟩
 replace H := H.joinR hj2; clear hj2
 simp only [Co.a, Co.mk.injEq] at ha2
 obtain ⟨e1, e2, e3, hma, -, -⟩ := ha2
 obtain rfl : ck = ck2 := e1.symm
 obtain rfl : nx = nx2 := e2.symm
 obtain rfl : wt = wt2 := e3.symm
 dsimp only at ho2 hp2 hoc2 hpc2 H
 have hlen2 : tx2.length = txs.length := by have := congrArg List.length hma; simpa using this
 refine Zl (Yu rfl)<|Zl (Xa rfl rfl)<|Zl (Xi rfl rfl)<|Zl (Xi rfl rfl)<|stN H 1 (#[.int .i64 ck, .int .i64 nx, .int .i64 wt, .slice A2 tx2.length c2]) siz_Coord rfl rfl rfl rfl rfl (by kernel_rfl) (by kernel_rfl) fun w4 H =>Zl (Wi rfl)<|Zl (Wi rfl)<|Zn<|Zs<|Zs<|Zr<|Zl (Yi rfl)<|Zl (neqF_r rfl rfl rfl)<|Zn ?_
 refine ZF rfl<|Zk<|Zs<|Zs<|Zr<|Zl (Yi rfl)<|Zl (lssT_r rfl rfl hi)<|Zn<|ZT rfl<|Zs<|Zs<|Zr<|Zl (Zf fd_Coord_3 rfl)<|Zl (Zd one_LTxn H 1 rfl rfl rfl) ?_
 refine Zl (lenS_r len_LTxn rfl)<|Zl (eqlF_r rfl rfl (by omega))<|Zl (Yb rfl)<|ZG<|Zl (Zf fd_Coord_1 rfl)<|ZG<|Zl (Zd one_int H 1 rfl rfl rfl)<|ZG<|Zl (eqlF_r rfl rfl (by omega))<|Zl (Kf rfl rfl)<|Zn<|ZF rfl<|Zk<|Zs ?_
 replace H := reassoc2 Lr Lp H
 refine Zr<|Zl (Zf fd_Coord_3 rfl)<|Zl (Zd one_LTxn H 1 rfl rfl rfl)<|Zl (Yt rfl)<|Zl (Zf fd_Coord_1 rfl)<|Zl (Zd one_int H 1 rfl rfl rfl)<|Zl (bld_r (cs := #[.string s, .int .i64 nx, .int .i64 0, .int .i64 1, .slice none 0 0, .int .i64 0, .int .i64 0]) st_Txn z_Txn (by kernel_rfl))<|bsv (vs := [.agg #[.string s, .int .i64 nx, .int .i64 0, .int .i64 1, .slice none 0 0, .int .i64 0, .int .i64 0]]) H sl_LTxn z_Txn rfl rfl rfl rfl rfl rfl fun w5 b40 H =>apO (Y := txL) ap_LTxn (K := [(b40, _), (b4, _), (b2, _)]) (L := Lr) (M := Lp) H ho2 (news := [newTx s nx]) rfl rfl rfl (Src.row (m := 1) (sz := txL.sz) (H.ent (i := 0) rfl) rfl) (by simp only [List.length_singleton]; omega) rfl ?_
 intro A41 c41 w6 L41 h41 _ ho41 H
 refine Zl (Zf fd_Coord_3 rfl)<|stN H 2 (#[.int .i64 ck, .int .i64 nx, .int .i64 wt, .slice A41 (tx2 ++ [newTx s nx]).length c41]) siz_LTxn rfl rfl rfl rfl rfl (by kernel_rfl) (by kernel_rfl) fun w7 H =>Zn<|Zs<|Zr<|Zl (Zf fd_Coord_1 rfl)<|Zl (Zd one_int H 2 rfl rfl rfl)<|Zl (add_r rfl rfl (by omega) (by omega))<|Zl (Zf fd_Coord_1 rfl)<|stN H 2 (#[.int .i64 ck, .int .i64 (nx + 1), .int .i64 wt, .slice A41 (tx2 ++ [newTx s nx]).length c41]) siz_int rfl rfl rfl rfl rfl (by kernel_rfl) (by kernel_rfl) fun w8 H =>Zn<|Zs ?_
 
 refine cw_tree mixed [1] [0, 2, 3, 4, 5, 6, 7] [1] 7 (by kernel_rfl) (by kernel_rfl) (by kernel_rfl) (fun _ _ _ h => h) ?_
 refine aw rfl rfl rfl rfl rfl (fun w' hw' => Zf fd_Coord_1 rfl)<|aw_nil ?_
 intro w9 hw'; replace H := H.later hw'; clear hw'
 refine xw2 0 2 (by kernel_rfl) rfl rfl ?_ ?_ 
 ·
  refine Zl (Zw agg_Coord H 2 rfl rfl rfl)<|Zn ?_
  refine xw2 2 4 (by kernel_rfl) rfl rfl ?_ ?_ 
  ·
   refine Zl (Zd one_int H 2 rfl rfl rfl)<|Zn ?_
   refine xw2 3 4 (by kernel_rfl) rfl rfl ?_ ?_ 
   ·
    refine Zl (sub_r rfl rfl (by omega) (by omega))<|Zn<|xw1 4 (by kernel_rfl) rfl<|stN H 1 (#[.int .i64 ck, .int .i64 (nx + 1), .int .i64 wt, .slice A41 (tx2 ++ [newTx s nx]).length c41]) siz_Coord rfl rfl rfl rfl rfl (by kernel_rfl) (by kernel_rfl) fun w10 H =>Zn<|xw1 5 (by kernel_rfl) rfl<|Zl (Wi rfl)<|Zn<|xw1 6 (by kernel_rfl) rfl<|Zl (Wi rfl)<|Zn<|xw1 7 (by kernel_rfl) rfl<|Zl (Wi rfl)<|Zn ?_
    refine xw_end (by kernel_rfl)<|Zt ?_
    exact finCTTT (cs0 := #[.int .i64 ck, .int .i64 (nx + 1), .int .i64 wt, .slice A41 (tx2 ++ [newTx s nx]).length c41]) (v1 := .int .i64 (nx + 1 - 1)) (v2 := .int .i64 0) (v3 := .int .i64 0) rfl agg_Coord rfl (H.ent (i := 1) rfl) rfl rfl rfl rfl ⟨⟨ck, nx + 1, wt, tx2 ++ [newTx s nx], A41, c41⟩, L41, Lp, by rw [show nx + 1 - 1 = nx by omega]; rfl, by unfold Co.a coWith; dsimp only; rw [List.map_append, hma]; rfl, ho41, by have := OwnParts.snoc (t := newTx s nx) (L' := []) Own.nil hp2; rwa [List.append_nil] at this, h41, by intro t ht; rcases List.mem_append.1 ht with ht | ht; exact hpc2 t ht; rw [List.mem_singleton.1 ht]; exact Nat.le_refl _, H.forget (.cons _ (.cons _ (.cons _ (List.Sublist.refl _)))) (by simp)⟩
   ·
    refine stN H 1 (#[.int .i64 ck, .int .i64 (nx + 1), .int .i64 wt, .slice A41 (tx2 ++ [newTx s nx]).length c41]) siz_Coord rfl rfl rfl rfl rfl (by kernel_rfl) (by kernel_rfl) fun w11 H =>Zn<|xw1 3 (by kernel_rfl) rfl<|Zl (sub_r rfl rfl (by omega) (by omega))<|Zn<|xw1 5 (by kernel_rfl) rfl<|Zl (Wi rfl)<|Zn<|xw1 6 (by kernel_rfl) rfl<|Zl (Wi rfl)<|Zn<|xw1 7 (by kernel_rfl) rfl<|Zl (Wi rfl)<|Zn ?_
    refine xw_end (by kernel_rfl)<|Zt ?_
    exact finCTTT (cs0 := #[.int .i64 ck, .int .i64 (nx + 1), .int .i64 wt, .slice A41 (tx2 ++ [newTx s nx]).length c41]) (v1 := .int .i64 (nx + 1 - 1)) (v2 := .int .i64 0) (v3 := .int .i64 0) rfl agg_Coord rfl (H.ent (i := 1) rfl) rfl rfl rfl rfl ⟨⟨ck, nx + 1, wt, tx2 ++ [newTx s nx], A41, c41⟩, L41, Lp, by rw [show nx + 1 - 1 = nx by omega]; rfl, by unfold Co.a coWith; dsimp only; rw [List.map_append, hma]; rfl, ho41, by have := OwnParts.snoc (t := newTx s nx) (L' := []) Own.nil hp2; rwa [List.append_nil] at this, h41, by intro t ht; rcases List.mem_append.1 ht with ht | ht; exact hpc2 t ht; rw [List.mem_singleton.1 ht]; exact Nat.le_refl _, H.forget (.cons _ (.cons _ (.cons _ (List.Sublist.refl _)))) (by simp)⟩
  ·
   refine stN H 1 (#[.int .i64 ck, .int .i64 (nx + 1), .int .i64 wt, .slice A41 (tx2 ++ [newTx s nx]).length c41]) siz_Coord rfl rfl rfl rfl rfl (by kernel_rfl) (by kernel_rfl) fun w12 H =>Zn<|xw1 2 (by kernel_rfl) rfl<|Zl (Zd one_int H 2 rfl rfl rfl)<|Zn<|xw1 3 (by kernel_rfl) rfl<|Zl (sub_r rfl rfl (by omega) (by omega))<|Zn<|xw1 5 (by kernel_rfl) rfl<|Zl (Wi rfl)<|Zn<|xw1 6 (by kernel_rfl) rfl<|Zl (Wi rfl)<|Zn ?_
   refine xw1 7 (by kernel_rfl) rfl<|Zl (Wi rfl)<|Zn<|xw_end (by kernel_rfl)<|Zt ?_
   exact finCTTT (cs0 := #[.int .i64 ck, .int .i64 (nx + 1), .int .i64 wt, .slice A41 (tx2 ++ [newTx s nx]).length c41]) (v1 := .int .i64 (nx + 1 - 1)) (v2 := .int .i64 0) (v3 := .int .i64 0) rfl agg_Coord rfl (H.ent (i := 1) rfl) rfl rfl rfl rfl ⟨⟨ck, nx + 1, wt, tx2 ++ [newTx s nx], A41, c41⟩, L41, Lp, by rw [show nx + 1 - 1 = nx by omega]; rfl, by unfold Co.a coWith; dsimp only; rw [List.map_append, hma]; rfl, ho41, by have := OwnParts.snoc (t := newTx s nx) (L' := []) Own.nil hp2; rwa [List.append_nil] at this, h41, by intro t ht; rcases List.mem_append.1 ht with ht | ht; exact hpc2 t ht; rw [List.mem_singleton.1 ht]; exact Nat.le_refl _, H.forget (.cons _ (.cons _ (.cons _ (List.Sublist.refl _)))) (by simp)⟩
 ·
  refine Zl (Zd one_int H 2 rfl rfl rfl)<|Zn ?_
  refine xw2 0 3 (by kernel_rfl) rfl rfl ?_ ?_ 
  ·
   refine Zl (Zw agg_Coord H 2 rfl rfl rfl)<|Zn ?_
   refine xw2 3 4 (by kernel_rfl) rfl rfl ?_ ?_ 
   ·
    refine Zl (sub_r rfl rfl (by omega) (by omega))<|Zn<|xw1 4 (by kernel_rfl) rfl<|stN H 1 (#[.int .i64 ck, .int .i64 (nx + 1), .int .i64 wt, .slice A41 (tx2 ++ [newTx s nx]).length c41]) siz_Coord rfl rfl rfl rfl rfl (by kernel_rfl) (by kernel_rfl) fun w13 H =>Zn<|xw1 5 (by kernel_rfl) rfl<|Zl (Wi rfl)<|Zn<|xw1 6 (by kernel_rfl) rfl<|Zl (Wi rfl)<|Zn<|xw1 7 (by kernel_rfl) rfl<|Zl (Wi rfl)<|Zn ?_
    refine xw_end (by kernel_rfl)<|Zt ?_
    exact finCTTT (cs0 := #[.int .i64 ck, .int .i64 (nx + 1), .int .i64 wt, .slice A41 (tx2 ++ [newTx s nx]).length c41]) (v1 := .int .i64 (nx + 1 - 1)) (v2 := .int .i64 0) (v3 := .int .i64 0) rfl agg_Coord rfl (H.ent (i := 1) rfl) rfl rfl rfl rfl ⟨⟨ck, nx + 1, wt, tx2 ++ [newTx s nx], A41, c41⟩, L41, Lp, by rw [show nx + 1 - 1 = nx by omega]; rfl, by unfold Co.a coWith; dsimp only; rw [List.map_append, hma]; rfl, ho41, by have := OwnParts.snoc (t := newTx s nx) (L' := []) Own.nil hp2; rwa [List.append_nil] at this, h41, by intro t ht; rcases List.mem_append.1 ht with ht | ht; exact hpc2 t ht; rw [List.mem_singleton.1 ht]; exact Nat.le_refl _, H.forget (.cons _ (.cons _ (.cons _ (List.Sublist.refl _)))) (by simp)⟩
   ·
    refine stN H 1 (#[.int .i64 ck, .int .i64 (nx + 1), .int .i64 wt, .slice A41 (tx2 ++ [newTx s nx]).length c41]) siz_Coord rfl rfl rfl rfl rfl (by kernel_rfl) (by kernel_rfl) fun w14 H =>Zn<|xw1 3 (by kernel_rfl) rfl<|Zl (sub_r rfl rfl (by omega) (by omega))<|Zn<|xw1 5 (by kernel_rfl) rfl<|Zl (Wi rfl)<|Zn<|xw1 6 (by kernel_rfl) rfl<|Zl (Wi rfl)<|Zn<|xw1 7 (by kernel_rfl) rfl<|Zl (Wi rfl)<|Zn ?_
    refine xw_end (by kernel_rfl)<|Zt ?_
    exact finCTTT (cs0 := #[.int .i64 ck, .int .i64 (nx + 1), .int .i64 wt, .slice A41 (tx2 ++ [newTx s nx]).length c41]) (v1 := .int .i64 (nx + 1 - 1)) (v2 := .int .i64 0) (v3 := .int .i64 0) rfl agg_Coord rfl (H.ent (i := 1) rfl) rfl rfl rfl rfl ⟨⟨ck, nx + 1, wt, tx2 ++ [newTx s nx], A41, c41⟩, L41, Lp, by rw [show nx + 1 - 1 = nx by omega]; rfl, by unfold Co.a coWith; dsimp only; rw [List.map_append, hma]; rfl, ho41, by have := OwnParts.snoc (t := newTx s nx) (L' := []) Own.nil hp2; rwa [List.append_nil] at this, h41, by intro t ht; rcases List.mem_append.1 ht with ht | ht; exact hpc2 t ht; rw [List.mem_singleton.1 ht]; exact Nat.le_refl _, H.forget (.cons _ (.cons _ (.cons _ (List.Sublist.refl _)))) (by simp)⟩
  ·
   refine Zl (sub_r rfl rfl (by omega) (by omega))<|Zn<|xw1 0 (by kernel_rfl) rfl<|Zl (Zw agg_Coord H 2 rfl rfl rfl)<|Zn<|xw1 4 (by kernel_rfl) rfl<|stN H 1 (#[.int .i64 ck, .int .i64 (nx + 1), .int .i64 wt, .slice A41 (tx2 ++ [newTx s nx]).length c41]) siz_Coord rfl rfl rfl rfl rfl (by kernel_rfl) (by kernel_rfl) fun w15 H =>Zn<|xw1 5 (by kernel_rfl) rfl<|Zl (Wi rfl)<|Zn<|xw1 6 (by kernel_rfl) rfl<|Zl (Wi rfl)<|Zn ?_
   refine xw1 7 (by kernel_rfl) rfl<|Zl (Wi rfl)<|Zn<|xw_end (by kernel_rfl)<|Zt ?_
   exact finCTTT (cs0 := #[.int .i64 ck, .int .i64 (nx + 1), .int .i64 wt, .slice A41 (tx2 ++ [newTx s nx]).length c41]) (v1 := .int .i64 (nx + 1 - 1)) (v2 := .int .i64 0) (v3 := .int .i64 0) rfl agg_Coord rfl (H.ent (i := 1) rfl) rfl rfl rfl rfl ⟨⟨ck, nx + 1, wt, tx2 ++ [newTx s nx], A41, c41⟩, L41, Lp, by rw [show nx + 1 - 1 = nx by omega]; rfl, by unfold Co.a coWith; dsimp only; rw [List.map_append, hma]; rfl, ho41, by have := OwnParts.snoc (t := newTx s nx) (L' := []) Own.nil hp2; rwa [List.append_nil] at this, h41, by intro t ht; rcases List.mem_append.1 ht with ht | ht; exact hpc2 t ht; rw [List.mem_singleton.1 ht]; exact Nat.le_refl _, H.forget (.cons _ (.cons _ (.cons _ (List.Sublist.refl _)))) (by simp)⟩
end Go.Proofs.Ytemnchkebhclpaa
end

section
namespace Go.Proofs.Ytemnchkebhclpaa
open Go Go.Eng Go.RowKit
set_option linter.unusedSimpArgs false
set_option maxHeartbeats 4000000 in
set_option maxRecDepth 10000 in
theorem isNaN_int_ok (n : Int) (w : World) : Ret Try.prog i_cmp_isNaN_int [.int .i64 n] w fun v w2 => v = .bool false ∧ Below w.heap.size w w2 := by
 refine ret_of fn_cmp_isNaN_int rfl rfl ?_
 have H := Hp.start w
 refine Zs<|Zr<|Zl (Wb rfl)<|Zn<|Zs<|Zr<|Zl (Yi rfl)<|Zl (Yi rfl)<|Zl (neqF_r rfl rfl rfl)<|Zl (Wb rfl)<|Zn<|Zt ?_
 exact fin1 (v := .bool false) rfl rfl ⟨rfl, H.below⟩
set_option maxHeartbeats 4000000 in
set_option maxRecDepth 10000 in
theorem less_int_ok (a b : Int) (w : World) : Ret Try.prog i_cmp_Less_int [.int .i64 a, .int .i64 b] w fun v w2 => v = .bool (decide (a < b)) ∧ Below w.heap.size w w2 := by
 refine ret_of fn_cmp_Less_int rfl rfl ?_
 have H := Hp.start w
 refine Zs<|Zr<|Zl (Wb rfl)<|Zn<|Zs<|Zr<|Zl (Yi rfl)<|cal cb_cmp_isNaN_int (isNaN_int_ok a _) rfl rfl ?_
 rintro _ w1 ⟨rfl, hb⟩; replace H := H.later hb; clear hb
 refine Zl (Yb rfl)<|ZN<|ZN<|ZN<|Zl (Kf rfl rfl)<|Zl (Yb rfl)<|ZG<|Zl (Yi rfl)<|ZG<|Zl (Yi rfl)<|ZG ?_
 refine lwD (lss_r rfl rfl) rfl rfl rfl (fun h15 => ?_) (fun h15 => ?_)
 ·
  refine Zl (Kf rfl rfl)<|Zl (Wb rfl)<|Zn<|Zt ?_
  exact fin1 (v := .bool true) rfl rfl ⟨by rw [decide_eq_true h15], H.below⟩
 ·
  refine Zl (Kf rfl rfl)<|Zl (Wb rfl)<|Zn<|Zt ?_
  exact fin1 (v := .bool false) rfl rfl ⟨by rw [decide_eq_false h15], H.below⟩
end Go.Proofs.Ytemnchkebhclpaa
end
