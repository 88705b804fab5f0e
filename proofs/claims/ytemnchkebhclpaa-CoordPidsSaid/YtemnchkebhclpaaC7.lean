/- C7: a part of the proofs over this seat: what stands in its theorems holds for every input that they name. -/
import Derived.Test.YtemnchkebhclpaaGD
namespace Go.Proofs.Ytemnchkebhclpaa
open Go Go.Eng Go.RowKit
set_option linter.unusedSimpArgs false
theorem txsOk_a (ck nx : Int) : ∀ (l pre : List Tx), txsOk ck nx pre l = txsOk ck nx (pre.map Tx.a) (l.map Tx.a)
  | [], _ => rfl
  | t :: l, pre => by
    rw [List.map_cons]
    unfold txsOk
    have e1 : (pre.map Tx.a).any (sameTx t.a) = pre.any (sameTx t) := by rw [List.any_map]; rfl
    have e2 := txsOk_a ck nx l (pre ++ [t])
    rw [List.map_append] at e2
    rw [e1, e2]
    rfl
theorem coOk_a (c : Co) : coOk c = coOk c.a := by
  unfold coOk
  have := txsOk_a c.clock c.next c.txs []
  rw [this]
  unfold Co.a
  simp
theorem nameIdx_a (c : Co) (s : ByteArray) : nameIdx c s = nameIdx c.a s := by
  unfold nameIdx Co.a
  dsimp only
  rw [List.findIdx?_map]
  rfl
def letter (i : Nat) : ByteArray := ⟨#[UInt8.ofNat (97 + i)]⟩
def pidC (k : Nat) : Co := ⟨0, (k : Nat) + 1, 5, (List.range k).map fun (j : Nat) => newTx (letter j) ((j : Nat) + 1), none, 0⟩
theorem pidC_ok {k : Nat} (h : k ≤ 8) : coOk (pidC k) = true := by
  have : (List.range 9).all (fun k => coOk (pidC k)) = true := by kernel_rfl
  exact List.all_eq_true.1 this k (by simp; omega)
theorem letter_ok {i : Nat} (h : i < 12) : nameOk (letter i) = true ∧ nameIdx (pidC (min i 8)) (letter i) < 0 := by
  have : (List.range 12).all (fun i => nameOk (letter i) && decide (nameIdx (pidC (min i 8)) (letter i) < 0)) = true := by kernel_rfl
  have := List.all_eq_true.1 this i (by simp; omega)
  simpa using this
theorem pidC_succ {k : Nat} : coWith (pidC k) (letter k) = pidC (k + 1) := by
  unfold coWith pidC
  dsimp only
  rw [List.range_succ, List.map_append]
  simp
theorem coWith_a (c : Co) (s : ByteArray) : coWith c.a s = coWith c.a s := rfl
theorem pid_facts {c : Co} {k : Nat} (h : c.a = pidC k) : c.txs.length = k ∧ c.next = k + 1 ∧ ∀ t ∈ c.txs, t.parts = [] := by
  unfold Co.a pidC at h
  simp only [Co.mk.injEq] at h
  obtain ⟨-, h2, -, h4, -, -⟩ := h
  refine ⟨?_, h2, fun t ht => ?_⟩
  · have := congrArg List.length h4
    simpa using this
  · have h5 : t.a ∈ c.txs.map Tx.a := List.mem_map_of_mem ht
    rw [h4] at h5
    obtain ⟨j, _, hj⟩ := List.mem_map.1 h5
    have := congrArg Tx.parts hj
    exact this.symm
theorem Hp.learnAlsoF {w0 w w' : World} {L : List (Nat × Obj)} {F F0 : List Fact} (H0 : Hp w0 w L F0) (H : Hp w0 w' L F) (f : Fact) (hf : f.p w') (hlo : w.heap.size ≤ f.lo) (hhi : f.hi ≤ w'.heap.size) : Hp w0 w' L (f :: F) := by
  refine ⟨H.below, H.ents, H.nodup, fun g hg => ?_⟩
  rcases List.mem_cons.1 hg with rfl | hg
  · exact ⟨hf, hhi, fun e he => .inl (by have := H0.ltAll e he; omega)⟩
  · exact H.facts g hg
/-- a coordinator that was made, to be read -/
structure RdCo (w w2 : World) (c : Co) : Prop where
  below : Below w.heap.size w w2
  row : Rd txL w.heap.size w2.heap.size c.A c.txs w2
  parts : ∀ t ∈ c.txs, Rd intL w.heap.size w2.heap.size t.A t.parts w2
  cap : c.txs.length ≤ c.cap
  caps : ∀ t ∈ c.txs, t.parts.length ≤ t.cap
theorem NewCo.rd {w w2 : World} {ca c' : Co} {L' : List (Nat × Obj)} {lo hi : Nat} (h : NewCo w w2 ca c' L' lo hi) : RdCo w w2 c' := by
  obtain ⟨h1, ho, hc, hcs, hlo, hj⟩ := h
  have hf := hj.facts _ (List.mem_cons_self ..)
  have hj0 : Hp w w2 L' [] := hj.forget (List.Sublist.refl _) (by simp)
  refine ⟨hj.below, ho.rd (K := []) (M := []) (by simpa using hj0), fun t ht => Rd.mono (hf.1 t ht) hlo hf.2.1, hc, hcs⟩
theorem RdCo.learn {w0 w w2 : World} {L : List (Nat × Obj)} {F : List Fact} {c : Co} (h : RdCo w w2 c) (H : Hp w0 w L F) : Hp w0 w2 L (FParts w.heap.size w2.heap.size c.txs :: FRd txL w.heap.size w2.heap.size c.A c.txs :: F) :=
  Hp.learnAlsoF H (H.learnRd h.below h.row) (FParts w.heap.size w2.heap.size c.txs) h.parts (Nat.le_refl _) (Nat.le_refl _)
def zCo : Co := ⟨0, 0, 0, [], none, 0⟩
theorem zCo_rd {w w2 : World} (hb : Below w.heap.size w w2) : RdCo w w2 zCo := ⟨hb, Rd.nil, (by intro t ht; cases ht), Nat.le_refl _, (by intro t ht; cases ht)⟩
theorem pid_rd {c : Co} {k : Nat} {w : World} (h : c.a = pidC k) (hk : k ≤ 8) (h1 : Rd txL 0 w.heap.size c.A c.txs w) (h2 : ∀ t ∈ c.txs, Rd intL 0 w.heap.size t.A t.parts w) (h3 : c.txs.length ≤ c.cap) : c.rd 0 w.heap.size w := by
  obtain ⟨a, _, b⟩ := pid_facts h
  exact ⟨h1, h2, h3, by omega, fun t ht => by rw [b t ht]; exact ⟨Nat.zero_le _, Nat.zero_le _⟩⟩
theorem pid_step {c : Co} {i : Nat} {w : World} (h : c.a = pidC (min i 8)) (hi : i < 12) (h1 : Rd txL 0 w.heap.size c.A c.txs w) (h2 : ∀ t ∈ c.txs, Rd intL 0 w.heap.size t.A t.parts w) (h3 : c.txs.length ≤ c.cap) :
    Ret Try.prog i_coord_Init [c.v, .string (letter i)] w fun v w2 => ∃ (c2 : Co) (n e : Int), v = .tuple #[c2.v, .int .i64 n, .int .i64 0, .int .i64 e] ∧ (8 ≤ i → e = 16) ∧ (i < 8 → e = 0 ∧ n = i + 1 ∧ c2.a = pidC (i + 1)) ∧ RdCo w w2 c2 := by
  have hrd := pid_rd h (by omega) h1 h2 h3
  obtain ⟨a, b, -⟩ := pid_facts h
  have hok : coOk c = true := by rw [coOk_a, h]; exact pidC_ok (by omega)
  obtain ⟨l1, l2⟩ := letter_ok hi
  have hix : nameIdx c (letter i) < 0 := by rw [nameIdx_a, h]; exact l2
  by_cases h8 : i < 8
  · refine (coInit_new c (letter i) w hrd hok l1 hix (by omega) (by omega)).mono ?_
    rintro v w2 ⟨c', L', lo, hh, rfl, hN⟩
    refine ⟨c', c.next, 0, rfl, fun h => by omega, fun _ => ⟨rfl, by omega, ?_⟩, hN.rd⟩
    rw [hN.1, h, show min i 8 = i by omega]
    exact pidC_succ
  · refine (coInit_full c (letter i) w hrd hok l1 hix (by omega)).mono ?_
    rintro v w2 ⟨rfl, hb⟩
    exact ⟨zCo, 0, 16, rfl, fun _ => rfl, fun h => absurd h h8, zCo_rd hb⟩
theorem pid_form {c : Co} {k : Nat} {w : World} (h : c.a = pidC k) (hk : k ≤ 8) (h1 : Rd txL 0 w.heap.size c.A c.txs w) (h2 : ∀ t ∈ c.txs, Rd intL 0 w.heap.size t.A t.parts w) (h3 : c.txs.length ≤ c.cap) :
    Ret Try.prog i_coord_Init [c.v, .string ⟨#[68, 101, 101]⟩] w fun v w2 => v = .tuple #[.agg #[.int .i64 0, .int .i64 0, .int .i64 0, .slice none 0 0], .int .i64 0, .int .i64 0, .int .i64 4] ∧ Below w.heap.size w w2 :=
  coInit_form c _ w (pid_rd h hk h1 h2 h3) (by rw [coOk_a, h]; exact pidC_ok hk) (by kernel_rfl)
set_option maxHeartbeats 4000000 in
set_option maxRecDepth 10000 in
theorem coordPids_ok (n_ : Int) (w : World) (ha : i64 n_) : Ret Try.prog i_tailracekeep_CoordPids [.int .i64 n_] w fun v w2 => v = .bool true ∧ Below w.heap.size w w2 := by
  refine ret_of fn_tailracekeep_CoordPids rfl rfl ?_
  have H := Hp.start w
  obtain ⟨ha1, ha2⟩ := ha
  refine cw_seq ?_
  refine cw_region ?_ -- region 0 high.go:134
  refine l1 (asB_r rfl) rfl rfl rfl ?_
  refine lw_nil ?_
  refine cw_seq ?_
  refine cw_region ?_ -- region 1 high.go:135
  refine l1 (mvI_r rfl) rfl rfl rfl ?_
  refine cal cb_tailracekeep_picked (picked_ok n_ 12 _ (by omega) (by omega) (by omega) (by omega)) rfl rfl ?_
  rintro _ w1 ⟨rfl, hb⟩; replace H := H.later hb; clear hb
  have hpl := pk_lt n_ (show 0 < 12 by omega)
  generalize pk n_ 12 = p at hpl ⊢
  refine l1 (add_r rfl rfl (by omega) (by omega)) rfl rfl rfl ?_
  obtain ⟨q, hq⟩ : ∃ q : Nat, (1 : Int) + (p : Nat) = q := ⟨1 + p, by omega⟩
  rw [hq]
  have hq12 : q ≤ 12 := by omega
  refine l1 (asI_r rfl) rfl rfl rfl ?_
  refine lw_nil ?_
  refine cw_seq ?_
  refine cw_region ?_ -- region 2 high.go:136
  refine cal cb_coord_New (coordNew_ok 5 _ (by omega) (by omega)) rfl rfl ?_
  rintro _ w2 ⟨rfl, hb⟩; replace H := H.later hb; clear hb
  refine l1 (mvU_r rfl) rfl rfl rfl ?_
  refine l1 (exA_r rfl rfl) rfl rfl rfl ?_
  refine l1 (exI_r rfl rfl) rfl rfl rfl ?_
  refine alo H z_Coord rfl ?_; intro w3 b4 H
  refine stN H 0 (#[.int .i64 0, .int .i64 1, .int .i64 5, .slice none 0 0]) siz_Coord rfl rfl rfl rfl rfl (by kernel_rfl) (by kernel_rfl) ?_; intro w4 H
  refine l1 (asI_r rfl) rfl rfl rfl ?_
  refine lw_nil ?_
  refine cw_seq ?_
  refine cw_seq ?_
  replace H := H.learnRd (Y := txL) (A := none) (es := []) (Below.refl _ _) Rd.nil
  replace H := parts_nil H w4.heap.size H.ltAll (Nat.le_refl _)
  refine cw_region ?_ -- region 3 high.go:137
  refine l1 (mvI_r rfl) rfl rfl rfl ?_
  refine l1 (mvI_r rfl) rfl rfl rfl ?_
  refine lw_nil ?_
  refine cw_block ?_ -- block 0
  refine cw_loop (τ := Nat × Co × Nat × Nat × Nat × Nat) [2, 6, 7, 8, 9, 10, 11, 24, 25, 26, 27, 28, 29, 30, 31, 32, 33, 34, 35, 36, 37, 38, 39, 40, 41, 42, 43, 44, 45, 46, 47, 48, 49, 50, 51, 52, 53, 54, 55, 56] (fun (i, _) => [(24, .int .i64 (i : Nat))]) (fun (i, c, lo1, hi1, lo2, hi2) w' => i ≤ q ∧ c.a = pidC (min i 8) ∧ c.txs.length ≤ c.cap ∧ Hp w w' [(b4, .cells c.c.toArray T_Coord (0, 0))] [FParts lo2 hi2 c.txs, FRd txL lo1 hi1 c.A c.txs]) (fun (i, _) => q - i) (0, ⟨0, 1, 5, [], none, 0⟩, _, _, _, _) ⟨by omega, by kernel_rfl, Nat.le_refl _, H⟩ (sl1 rfl) ?_ -- LOOP 0
  rintro ⟨i, c, lo1, hi1, lo2, hi2⟩ ρ1 w5 ⟨hi, hca, hcap, H⟩
  show CW _ _ _ _ (updL (ovr _ _ ρ1) [(24, .int .i64 (i : Nat))]) w5
  refine cw_seq ?_
  refine cw_region ?_ -- region 4 high.go:137
  refine lwD (lss_r rfl rfl) rfl rfl rfl (fun h25 => ?_) (fun h25 => ?_)
  · -- slot 25 True
    refine lw_nil ?_
    refine cw_seq ?_
    refine cw_true rfl ?_
    refine cw_skip ?_
    refine cw_seq ?_
    refine cw_block ?_ -- block 1
    refine cw_seq ?_
    refine cw_region ?_ -- region 5 high.go:137
    refine l1 (mvI_r rfl) rfl rfl rfl ?_
    refine l1 (asI_r rfl) rfl rfl rfl ?_
    refine lw_nil ?_
    refine cw_seq ?_
    refine cw_region ?_ -- region 6 high.go:138
    refine l1 (mvI_r rfl) rfl rfl rfl ?_
    refine l1 (add_r rfl rfl (by omega) (by omega)) rfl rfl rfl ?_
    rw [show (97 : Int) + (i : Nat) = ((97 + i : Nat) : Int) by omega]
    refine l1 (cvI_r (b := ((97 + i : Nat) : Int)) int_int int_int32 rfl (wrap31 (by omega))) rfl rfl rfl ?_
    refine l1 (cvIT_r (m := 97 + i) int_int32 str_string rfl (by omega) (by omega)) rfl rfl rfl ?_
    refine l1 (asT_r rfl) rfl rfl rfl ?_
    refine lw_nil ?_
    refine cw_seq ?_
    refine cw_region ?_ -- region 7 high.go:139
    refine l1 (ldW_r agg_Coord rfl (H.ent (i := 0) rfl) rfl) rfl rfl rfl ?_
    refine l1 (mvT_r rfl) rfl rfl rfl ?_
    refine cal cb_coord_Init (pid_step (i := i) hca (by omega) (H.rd0 1 rfl) (fun t ht => parts0 H 0 rfl ht) hcap) rfl rfl ?_
    rintro _ w6 ⟨c2, n, e, rfl, he8, hlt8, hRC⟩; replace H := hRC.learn H
    refine l1 (mvU_r rfl) rfl rfl rfl ?_
    refine l1 (exA_r rfl rfl) rfl rfl rfl ?_
    refine l1 (exI_r rfl rfl) rfl rfl rfl ?_
    refine l1 (exI_r rfl rfl) rfl rfl rfl ?_
    refine l1 (exI_r rfl rfl) rfl rfl rfl ?_
    refine alo H z_Coord rfl ?_; intro w7 b8 H
    refine stN H 0 (c2.c.toArray) siz_Coord rfl rfl rfl rfl rfl (by kernel_rfl) (by kernel_rfl) ?_; intro w8 H
    refine l1 (asI_r rfl) rfl rfl rfl ?_
    refine l1 (asI_r rfl) rfl rfl rfl ?_
    refine l1 (asI_r rfl) rfl rfl rfl ?_
    refine lw_nil ?_
    refine cw_seq ?_
    refine cw_seq ?_
    refine cw_region ?_ -- region 8 high.go:140
    refine l1 (mvI_r rfl) rfl rfl rfl ?_
    refine lwD (geq_r rfl rfl) rfl rfl rfl (fun h40 => ?_) (fun h40 => ?_)
    · -- slot 40 True
      refine lw_nil ?_
      refine cw_true rfl ?_
      refine cw_seq ?_
      refine cw_seq ?_
      refine cw_region ?_ -- region 9 high.go:141
      refine l1 (mvI_r rfl) rfl rfl rfl ?_
      refine l1 (neqF_r rfl rfl (he8 (by omega))) rfl rfl rfl ?_
      refine lw_nil ?_
      refine cw_false rfl ?_
      refine cw_skip ?_
      refine cw_exit ?_ -- 1
      refine cw_region ?_ -- region 14 high.go:137
      refine l1 (add_r rfl rfl (by omega) (by omega)) rfl rfl rfl ?_
      refine l1 (mvI_r rfl) rfl rfl rfl ?_
      refine lw_nil ?_
      refine ⟨(i + 1, c, lo1, hi1, lo2, hi2), ⟨by omega, by rw [show min (i + 1) 8 = min i 8 by omega]; exact hca, hcap, H.forget (.cons _ (List.Sublist.refl _)) (by simp)⟩, sl1 rfl, by repeat (first | exact Agr.refl _ _ | exact agr_ovr | refine agr_upd rfl ?_ | refine agr_updL _ rfl ?_ | refine agr_ovr2 rfl ?_), by show q - (i + 1) < q - i; omega⟩
    · -- slot 40 False
      refine lw_nil ?_
      refine cw_false rfl ?_
      refine cw_skip ?_
      refine cw_seq ?_
      refine cw_seq ?_
      refine cw_region ?_ -- region 11 high.go:146
      refine l1 (mvI_r rfl) rfl rfl rfl ?_
      refine l1 (neqF_r rfl rfl (hlt8 (by omega)).1) rfl rfl rfl ?_
      refine l1 (mvB_r rfl) rfl rfl rfl ?_
      refine lwG rfl ?_
      refine l1 (mvI_r rfl) rfl rfl rfl ?_
      refine lwG rfl ?_
      refine l1 (mvI_r rfl) rfl rfl rfl ?_
      refine lwG rfl ?_
      refine l1 (add_r rfl rfl (by omega) (by omega)) rfl rfl rfl ?_
      refine lwG rfl ?_
      refine l1 (neqF_r rfl rfl (hlt8 (by omega)).2.1) rfl rfl rfl ?_
      refine l1 (pkFB_r rfl rfl) rfl rfl rfl ?_
      refine l1 (mvB_r rfl) rfl rfl rfl ?_
      refine lwG rfl ?_
      refine l1 (mvI_r rfl) rfl rfl rfl ?_
      refine lwG rfl ?_
      refine l1 (neqF_r rfl rfl rfl) rfl rfl rfl ?_
      refine l1 (pkFB_r rfl rfl) rfl rfl rfl ?_
      refine lw_nil ?_
      refine cw_false rfl ?_
      refine cw_skip ?_
      refine cw_region ?_ -- region 13 high.go:149
      refine l1 (ldW_r agg_Coord rfl (H.ent (i := 0) rfl) rfl) rfl rfl rfl ?_
      refine stN H 1 (c2.c.toArray) siz_Coord rfl rfl rfl rfl rfl (by kernel_rfl) (by kernel_rfl) ?_; intro w9 H
      refine lw_nil ?_
      refine cw_region ?_ -- region 14 high.go:137
      refine l1 (add_r rfl rfl (by omega) (by omega)) rfl rfl rfl ?_
      refine l1 (mvI_r rfl) rfl rfl rfl ?_
      refine lw_nil ?_
      refine ⟨(i + 1, c2, w5.heap.size, w6.heap.size, w5.heap.size, w6.heap.size), ⟨by omega, by rw [show min (i + 1) 8 = i + 1 by omega]; exact (hlt8 (by omega)).2.2, hRC.cap, H.forget (.cons _ (List.Sublist.refl _)) (by simp)⟩, sl1 rfl, by repeat (first | exact Agr.refl _ _ | exact agr_ovr | refine agr_upd rfl ?_ | refine agr_updL _ rfl ?_ | refine agr_ovr2 rfl ?_), by show q - (i + 1) < q - i; omega⟩
  · -- slot 25 False
    have hiq : i = q := by omega
    obtain ⟨hln, -, -⟩ := pid_facts hca
    refine lw_nil ?_
    refine cw_seq ?_
    refine cw_false rfl ?_
    refine cw_exit ?_ -- 0
    refine cw_seq ?_
    refine cw_region ?_ -- region 15 high.go:151
    refine l1 (ldW_r agg_Coord rfl (H.ent (i := 0) rfl) rfl) rfl rfl rfl ?_
    refine cal cb_coord_Init (pid_form hca (by omega) (H.rd0 1 rfl) (fun t ht => parts0 H 0 rfl ht) hcap) rfl rfl ?_
    rintro _ w10 ⟨rfl, hb⟩; replace H := H.later hb; clear hb
    refine l1 (mvU_r rfl) rfl rfl rfl ?_
    refine l1 (exA_r rfl rfl) rfl rfl rfl ?_
    refine l1 (exI_r rfl rfl) rfl rfl rfl ?_
    refine l1 (exI_r rfl rfl) rfl rfl rfl ?_
    refine l1 (exI_r rfl rfl) rfl rfl rfl ?_
    refine alo H z_Coord rfl ?_; intro w11 b12 H
    refine stN H 0 (#[.int .i64 0, .int .i64 0, .int .i64 0, .slice none 0 0]) siz_Coord rfl rfl rfl rfl rfl (by kernel_rfl) (by kernel_rfl) ?_; intro w12 H
    refine l1 (asI_r rfl) rfl rfl rfl ?_
    refine l1 (asI_r rfl) rfl rfl rfl ?_
    refine l1 (asI_r rfl) rfl rfl rfl ?_
    refine lw_nil ?_
    refine cw_seq ?_
    refine cw_region ?_ -- region 16 high.go:152
    refine l1 (mvI_r rfl) rfl rfl rfl ?_
    refine l1 (eqlT_r rfl rfl rfl) rfl rfl rfl ?_
    refine l1 (mvB_r rfl) rfl rfl rfl ?_
    refine lwG rfl ?_
    refine l1 (mvI_r rfl) rfl rfl rfl ?_
    refine lwG rfl ?_
    refine l1 (eqlT_r rfl rfl rfl) rfl rfl rfl ?_
    refine l1 (pkTB_r rfl rfl) rfl rfl rfl ?_
    refine l1 (mvB_r rfl) rfl rfl rfl ?_
    refine lwG rfl ?_
    refine l1 (fad_r fd_Coord_3 rfl) rfl rfl rfl ?_
    refine lwG rfl ?_
    refine l1 (ld_r one_LTxn rfl (cellE (H.ent (i := 1) rfl) rfl)) rfl rfl rfl ?_
    refine lwG rfl ?_
    refine l1 (lenS_r len_LTxn rfl) rfl rfl rfl ?_
    refine lwG rfl ?_
    refine l1 (mvI_r rfl) rfl rfl rfl ?_
    refine lwG rfl ?_
    refine l1 (minI_r rfl rfl) rfl rfl rfl ?_
    refine lwG rfl ?_
    refine l1 (eqlT_r rfl rfl (by omega)) rfl rfl rfl ?_
    refine l1 (pkTB_r rfl rfl) rfl rfl rfl ?_
    refine l1 (asB_r rfl) rfl rfl rfl ?_
    refine lw_nil ?_
    refine cw_ret ?_
    exact fin1 (v := .bool true) rfl rfl ⟨rfl, H.below⟩
end Go.Proofs.Ytemnchkebhclpaa
