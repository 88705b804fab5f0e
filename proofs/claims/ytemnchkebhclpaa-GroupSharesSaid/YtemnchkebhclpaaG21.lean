/- G21: a part of the proofs over this seat: what stands in its theorems holds for every input that they name. -/
import Derived.Test.YtemnchkebhclpaaG0B
import Derived.Test.YtemnchkebhclpaaEngZ
open Go.Eng renaming lw_nil → Zn, cw_seq → Zs, cw_region → Zr, cw_skip → Zk, cw_ret → Zt, cw_block → Zb, cw_exit → Zx, mvI_r → Yi, mvB_r → Yb, mvS_r → Ys, mvP_r → Yp, mvT_r → Yt, mvU_r → Yu, mvA_r → Ya, asI_r → Wi, asB_r → Wb, asS_r → Ws, asP_r → Wp, asT_r → Wt, fad_r → Zf, exI_r → Xi, exA_r → Xa, exB_r → Xb, exS_r → Xs, pkTB_r → Kt, pkFB_r → Kf, cw_true → ZT, cw_false → ZF
namespace Go.Proofs.Ytemnchkebhclpaa
open Go Go.Eng Go.RowKit
set_option linter.unusedSimpArgs false
theorem turn_pos {names : List ByteArray} {i : Nat} (hi : i < names.length) : ∃ j, j < names.length ∧ ∀ q, turnOf names q = i ↔ q % names.length = j := by
 have hp := ordN_perm names
 have hl : (ordN names).length = names.length := by rw [hp.length_eq, upto_len]
 have hnd : (ordN names).Pairwise (· ≠ ·) := (hp.pairwise_iff (fun h => Ne.symm h)).2 ((upto_rise _).imp fun h => by omega)
 have hm : ((i : Nat) : Int) ∈ ordN names := hp.mem_iff.2 (upto_mem.2 ⟨i, hi, rfl⟩)
 obtain ⟨j, hj⟩ := List.mem_iff_getElem?.1 hm
 obtain ⟨hjl, hje⟩ := getE hj
 refine ⟨j, by omega, fun q => ?_⟩
 have hq : q % names.length < (ordN names).length := by rw [hl]; exact Nat.mod_lt _ (by omega)
 have ht : turnOf names q = (ordN names)[q % names.length] := by
  unfold turnOf
  rw [List.getD_eq_getElem?_getD, List.getElem?_eq_getElem hq]; rfl
 rw [ht]
 constructor
 ·
  intro h
  rw [List.pairwise_iff_getElem] at hnd
  rcases Nat.lt_trichotomy (q % names.length) j with h1 | h1 | h1
  ·
   exact absurd (h.trans hje.symm) (hnd _ _ hq hjl h1)
  ·
   exact h1
  ·
   exact absurd (hje.trans h.symm) (hnd _ _ hjl hq h1)
 ·
  intro h
  rw [← hje]
  congr 1
theorem turn_few : ∀ p, p < 5 → ∀ n, n < 7 → ∀ j, j < n → p / n ≤ ((List.range p).filter fun q => decide (q % n = j)).length ∧ ((List.range p).filter fun q => decide (q % n = j)).length ≤ p / n + 1 := by decide
theorem partsTo_few {names : List ByteArray} {p i : Nat} (hp : p ≤ 4) (hn : names.length ≤ 6) (hi : i < names.length) : p / names.length ≤ (partsTo names p i).length ∧ (partsTo names p i).length ≤ p / names.length + 1 := by
 obtain ⟨j, hj, h⟩ := turn_pos hi
 have e : (partsTo names p i).length = ((List.range p).filter fun q => decide (q % names.length = j)).length := by
  unfold partsTo upto
  rw [List.filter_map, List.length_map]
  congr 1
  refine List.filter_congr fun q _ => ?_
  show decide (turnOf names ((q : Nat) : Int).toNat = i) = _
  rw [Int.toNat_natCast]
  exact decide_eq_decide.2 (h q)
 rw [e]
 exact turn_few p (by omega) _ (by omega) j hj
theorem partsTo_count (names : List ByteArray) (q i : Nat) : ∀ p, (partsTo names p i).count (q : Int) = if q < p ∧ turnOf names q = i then 1 else 0
 | 0 => by rw [if_neg (by omega)]; rfl
 | p + 1 => by
  rw [partsTo_snoc]
  have ih := partsTo_count names q i p
  have hc : List.count (q : Int) [(p : Int)] = if q = p then 1 else 0 := by
   rw [List.count_singleton]
   by_cases h : q = p
   ·
    subst h; simp
   ·
    rw [if_neg (by simp; omega), if_neg h]
  by_cases ht : turnOf names p = i
  ·
   rw [if_pos ht, List.count_append, ih, hc]
   by_cases hqp : q = p
   ·
    subst hqp
    split <;> split <;> first | omega | (split <;> omega)
   ·
    split <;> split <;> first | omega | (split <;> omega)
  ·
   rw [if_neg ht, ih]
   by_cases hqp : q = p
   ·
    subst hqp
    split <;> split <;> omega
   ·
    split <;> split <;> omega
theorem one_sum (t : Int) : ∀ n : Nat, ((List.range n).map fun (i : Nat) => if t = (i : Int) then 1 else 0).sum = if 0 ≤ t ∧ t < n then 1 else 0
 | 0 => by rw [if_neg (by omega)]; rfl
 | n + 1 => by
  rw [List.range_succ, List.map_append, List.sum_append, one_sum t n]
  simp only [List.map_cons, List.map_nil, List.sum_cons, List.sum_nil, Nat.add_zero]
  by_cases h : t = (n : Int)
  ·
   rw [if_pos h, if_neg (by omega), if_pos (by omega)]
  ·
   rw [if_neg h]
   by_cases h2 : 0 ≤ t ∧ t < n
   ·
    rw [if_pos h2, if_pos (by omega)]
   ·
    rw [if_neg h2, if_neg (by omega)]
theorem flat_count {names : List ByteArray} {p q : Nat} (hq : q < p) : (assignL names p).flatten.count (q : Int) = if names.length = 0 then 0 else 1 := by
 unfold assignL
 rw [List.count_flatten, List.map_map]
 have : (List.range names.length).map (List.count (q : Int) ∘ partsTo names p) = (List.range names.length).map fun (i : Nat) => if turnOf names q = (i : Int) then 1 else 0 := List.map_congr_left fun i _ => by
  show (partsTo names p i).count (q : Int) = _
  rw [partsTo_count]
  by_cases h : turnOf names q = i
  ·
   rw [if_pos ⟨hq, h⟩, if_pos h]
  ·
   rw [if_neg (fun h2 => h h2.2), if_neg h]
 rw [this, one_sum]
 by_cases hn : names.length = 0
 ·
  rw [if_pos hn, if_neg (by omega)]
 ·
  rw [if_neg hn]
  obtain ⟨i, hi, -, ht⟩ := ord_at (names := names) (q := q) hn
  rw [if_pos (by omega)]
/-- how often each part is in a list -/
def cntL (p : Nat) (l : List Int) : List Int := (upto p).map fun q => (l.count q : Int)
theorem cntL_len (p : Nat) (l : List Int) : (cntL p l).length = p := by unfold cntL; rw [List.length_map, upto_len]
theorem cntL_at {p d : Nat} (l : List Int) (h : d < p) : (cntL p l)[d]? = some ((l.count (d : Int) : Nat) : Int) := by
 unfold cntL upto
 rw [List.getElem?_map, List.getElem?_map, List.getElem?_range h]
 rfl
theorem cntL_nil (p : Nat) : List.replicate p (0 : Int) = cntL p [] := by
 refine List.ext_getElem? fun d => ?_
 by_cases h : d < p
 ·
  rw [cntL_at _ h, List.getElem?_replicate, if_pos h]; rfl
 ·
  rw [List.getElem?_eq_none (by simp; omega), List.getElem?_eq_none (by rw [cntL_len]; omega)]
theorem cntL_snoc {p d : Nat} (l : List Int) (h : d < p) : (cntL p l).set d (((l.count (d : Int) : Nat) : Int) + 1) = cntL p (l ++ [(d : Int)]) := by
 refine List.ext_getElem? fun k => ?_
 by_cases hk : k < p
 ·
  rw [cntL_at _ hk, List.count_append, List.count_singleton]
  by_cases hd : d = k
  ·
   subst hd
   rw [List.getElem?_set_self (by rw [cntL_len]; exact h), if_pos (by simp)]
   rfl
  ·
   rw [List.getElem?_set_ne hd, cntL_at _ hk, if_neg (by simp; omega)]
   rfl
 ·
  rw [List.getElem?_eq_none (by rw [List.length_set, cntL_len]; omega), List.getElem?_eq_none (by rw [cntL_len]; omega)]
def flatP (ms : List Mem) : List Int := (ms.map Mem.parts).flatten
theorem flatP_snoc (ms : List Mem) (x : Mem) : flatP (ms ++ [x]) = flatP ms ++ x.parts := by unfold flatP; simp
theorem flatP_len : ∀ {ms : List Mem}, (∀ m ∈ ms, m.parts.length ≤ 4) → (flatP ms).length ≤ 4 * ms.length
 | [], _ => by simp [flatP]
 | m :: l, h => by
  have := flatP_len (ms := l) fun x hx => h x (List.mem_cons_of_mem _ hx)
  have h2 := h m (List.mem_cons_self ..)
  unfold flatP at this ⊢
  rw [List.map_cons, List.flatten_cons, List.length_append, List.length_cons]
  omega
/-- how the parts of a group are shared -/
theorem GrI.shares {P : ByteArray → Prop} {wt : Int} {p k : Nat} {g : Gr} (h : GrI P wt p k g) (hp : p ≤ 4) : (∀ m ∈ g.ms, p / g.ms.length ≤ m.parts.length ∧ m.parts.length ≤ p / g.ms.length + 1 ∧ m.parts.length ≤ 4 ∧ ∀ q ∈ m.parts, ∃ d : Nat, q = d ∧ d < p) ∧ ∀ (d : Nat) (e : Int), (cntL p (flatP g.ms))[d]? = some e → (0 < g.ms.length → e = 1) ∧ (g.ms.length = 0 → e = 0) := by
 have h6 := (grOk_iff2.1 h.ok).1.2.2.2.2.1
 have ha := h.asg
 have hl : (g.ms.map Mem.name).length = g.ms.length := List.length_map ..
 refine ⟨fun m hm => ?_, fun d e hd => ?_⟩
 ·
  obtain ⟨i, hi⟩ := List.mem_iff_getElem?.1 hm
  have hil := (getE hi).1
  have hx : (g.ms.map Mem.parts)[i]? = some m.parts := by rw [List.getElem?_map, hi]; rfl
  rw [ha] at hx
  unfold assignL at hx
  rw [List.getElem?_map, hl, List.getElem?_range hil] at hx
  have hx : partsTo (g.ms.map Mem.name) p i = m.parts := by injection hx
  have := partsTo_few (names := g.ms.map Mem.name) (p := p) (i := i) hp (by omega) (by omega)
  rw [hl, hx] at this
  refine ⟨this.1, this.2, ?_, fun q hq => ?_⟩
  ·
   rw [← hx]; have := partsTo_len (g.ms.map Mem.name) p i; omega
  ·
   rw [← hx] at hq
   obtain ⟨d, hd, he⟩ := upto_mem.1 (List.mem_filter.1 hq).1
   exact ⟨d, he, hd⟩
 ·
  have hdl := (getE hd).1
  rw [cntL_len] at hdl
  rw [cntL_at _ hdl] at hd
  injection hd with hd
  unfold flatP at hd
  rw [ha, flat_count hdl, hl] at hd
  refine ⟨fun h0 => ?_, fun h0 => ?_⟩
  ·
   rw [if_neg (by omega)] at hd; exact hd.symm
  ·
   rw [if_pos h0] at hd; exact hd.symm
set_option maxHeartbeats 4000000 in
set_option maxRecDepth 10000 in
theorem groupShares_ok (l : List Raw) (A : Option Addr) (c0 : Nat) (n_ : Int) (w : World) (hr : Rd rawL 0 w.heap.size A l w) (hok : ∀ r ∈ l, r.ok) (hl : l.length ≤ 9223372036854775807) (hn : i64 n_) : Ret Try.prog i_tailracekeep_GroupShares [.slice A l.length c0, .int .i64 n_] w fun v w2 => v = .bool true ∧ Below w.heap.size w w2 := by
 refine ret_of fn_tailracekeep_GroupShares rfl rfl ?_
 have H := Hp.startRd hr
 refine Zs<|Zr<|Zl (Wb rfl)<|Zn<|Zs<|Zs<|Zr<|cal cb_tailracekeep_groupTells (groupTells_ok _) rfl rfl ?_
 rintro _ w1 ⟨rfl, hb⟩; replace H := H.later hb; clear hb
 refine Zl (not_r rfl)<|Zn<|ZF rfl<|Zk<|Zs<|Zr<|Zl (Yi rfl)<|cal cb_tailracekeep_picked (picked_ok n_ (5) _ hn.1 hn.2 (by omega) (by omega)) rfl rfl ?_
 rintro _ w2 ⟨rfl, hb⟩; replace H := H.later hb; clear hb
 have hpk := pk_lt n_ (show 0 < 5 by omega)
 obtain ⟨p, hpd⟩ : ∃ p, pk n_ 5 = p := ⟨_, rfl⟩
 rw [hpd] at hpk ⊢
 refine Zl (Wi rfl)<|Zn<|Zs<|Zr<|Zl (Ys rfl)<|Zl (Yi rfl)<|cal cb_tailracekeep_grouped (grouped_ok l A c0 p 60 _ (H.rd0 0 rfl) hok hl (by omega) (by omega)) rfl rfl ?_
 rintro _ w3 ⟨g, rfl, hgi, hng⟩; replace H := H.learn hng.2 (FGr w2.heap.size w3.heap.size g) hng.1 (Nat.le_refl _) (Nat.le_refl _); clear hng; replace H := Hp.grRow H 0 rfl
 refine Zl (Yu rfl)<|Zl (Xa rfl rfl)<|Zl (Xb rfl rfl)<|alo H z_Group rfl fun w4 b6 H =>stN H 0 (#[.int .i64 (g.clock), .int .i64 (g.wait), .int .i64 (g.gen), .slice g.mA g.ms.length g.mC, .slice g.oA g.os.length g.oC]) siz_Group rfl rfl rfl rfl rfl (by kernel_rfl) (by kernel_rfl) fun w5 H =>Zl (Wb rfl)<|Zn<|Zs<|Zr<|Zl (Yi rfl)<|mkR (Y := intL) (0) p H sl_Lint info_intG rfl rfl rfl (by omega) (by omega) rfl fun w6 b28 cur28 row28 H =>Zl (Ws rfl)<|Zn<|Zs ?_
 obtain ⟨hsh, hcn⟩ := hgi.shares (by omega)
 have h6 := (grOk_iff2.1 hgi.ok).1.2.2.2.2.1
 obtain ⟨bs, hbs⟩ : ∃ bs, p / g.ms.length = bs := ⟨_, rfl⟩
 have hbs4 : bs ≤ 4 := by rw [← hbs]; exact Nat.le_trans (Nat.div_le_self _ _) (by omega)
 rw [hbs] at hsh
 rw [cntL_nil] at row28
 have hfl : ∀ i, (flatP (g.ms.take i)).length ≤ 24 := fun i => by have := flatP_len (ms := g.ms.take i) (fun m hm => (hsh m (List.mem_of_mem_take hm)).2.2.1); rw [List.length_take] at this; omega
 refine Zr<|Zl (Wi rfl)<|Zn<|Zs<|Zr<|Zl (Wi rfl)<|Zn<|Zs<|Zs<|Zr<|Zl (Zf fd_Group_3 rfl)<|Zl (Zd one_LMember H 1 rfl rfl rfl)<|Zl (lenS_r len_LMember rfl)<|Zl (Yi rfl) ?_
 refine Zn<|Zb ?_
 refine cw_loop (τ := Nat × Int × Int × Array Value) [4, 9, 10, 12, 14, 32, 33, 34, 35, 36, 37, 38, 39, 40, 41, 42, 43, 44, 45, 46, 47, 48, 49, 50, 51, 52, 53, 54, 55, 56, 57, 58, 59, 60, 61, 62, 63] (fun (i, ls, mo, _) => [(32, .int .i64 (i : Nat)), (9, .int .i64 ls), (10, .int .i64 mo)]) (fun (i, ls, mo, u1) w' => i ≤ g.ms.length ∧ (bs ≤ ls ∧ ls ≤ 4) ∧ (0 ≤ mo ∧ mo ≤ bs + 1) ∧ Row intL (cntL p (flatP (g.ms.take i))) p u1 ∧ Hp w w' [(b28, .cells u1 T_int (0, 0)), (b6, .cells #[.int .i64 (g.clock), .int .i64 (g.wait), .int .i64 (g.gen), .slice g.mA g.ms.length g.mC, .slice g.oA g.os.length g.oC] T_Group (0, 0))] [FRd memL w2.heap.size w3.heap.size g.mA g.ms, FGr w2.heap.size w3.heap.size g, FRd rawL 0 w.heap.size A l]) (fun (i, _) => g.ms.length - i) (0, 4, 0, _) ⟨by omega, ⟨by omega, by omega⟩, ⟨by omega, by omega⟩, row28, H⟩ (sl3 rfl rfl rfl) ?_
 rintro ⟨i, ls, mo, u1⟩ ρ1 w7 ⟨hi, ⟨hls0, hls1⟩, ⟨hmo0, hmo1⟩, row1, H⟩
 show CW _ _ _ _ (updL (ovr _ _ ρ1) [(32, .int .i64 (i : Nat)), (9, .int .i64 ls), (10, .int .i64 mo)]) w7
 refine Zs<|Zr ?_
 refine lwD (lss_r rfl rfl) rfl rfl rfl (fun h33 => ?_) (fun h33 => ?_)
 ·
  refine Zn<|Zs<|ZT rfl<|Zk<|Zs<|Zb<|Zs ?_
  obtain ⟨x, hx⟩ : ∃ x, g.ms[i]? = some x := ⟨_, List.getElem?_eq_getElem (by omega)⟩
  refine Zr<|ixF H 0 rfl sl_LMember rfl rfl (by omega) (by omega) rfl fun bq8 o8 x8 e8 => ?_
  obtain rfl : x = x8 := by have := e8.at_; rw [hx] at this; exact Option.some.inj this
  refine Zl (ldA_r (xs := Mem.c x) agg_Member rfl rfl e8.cl)<|alo H z_Member rfl fun w9 b12 H =>stN H 0 (#[.string (x.name), .int .i64 (x.heard), .slice x.A x.parts.length x.cap]) siz_Member rfl rfl rfl rfl rfl (by kernel_rfl) (by kernel_rfl) fun w10 H =>Zn<|Zs<|Zs ?_
  have hxm := List.mem_of_getElem? hx
  obtain ⟨hx1, hx2, hx3, hx4⟩ := hsh x hxm
  replace H := Hp.grParts H 1 rfl hxm
  refine Zr<|Zl (Zf fd_Member_2 rfl)<|Zl (Zd one_Lint H 0 rfl rfl rfl)<|Zl (lenS_r len_Lint rfl)<|Zl (Yi rfl)<|Zn<|Zb ?_
  refine cw_loop (τ := Nat × Array Value) [4, 14, 39, 40, 41, 42, 43, 44, 45, 46, 47, 48, 49, 50, 51, 52] (fun (j, _) => [(39, .int .i64 (j : Nat))]) (fun (j, u2) w' => j ≤ x.parts.length ∧ Row intL (cntL p (flatP (g.ms.take i) ++ x.parts.take j)) p u2 ∧ Hp w w' [(b12, .cells #[.string (x.name), .int .i64 (x.heard), .slice x.A x.parts.length x.cap] T_Member (0, 0)), (b28, .cells u2 T_int (0, 0)), (b6, .cells #[.int .i64 (g.clock), .int .i64 (g.wait), .int .i64 (g.gen), .slice g.mA g.ms.length g.mC, .slice g.oA g.os.length g.oC] T_Group (0, 0))] [FRd intL w2.heap.size w3.heap.size x.A x.parts, FRd memL w2.heap.size w3.heap.size g.mA g.ms, FGr w2.heap.size w3.heap.size g, FRd rawL 0 w.heap.size A l]) (fun (j, _) => x.parts.length - j) (0, _) ⟨by omega, by rw [List.take_zero, List.append_nil]; exact row1, H⟩ (sl1 rfl) ?_
  rintro ⟨j, u2⟩ ρ1 w11 ⟨hj, row2, H⟩
  show CW _ _ _ _ (updL (ovr _ _ ρ1) [(39, .int .i64 (j : Nat))]) w11
  have hcl := cntL_len p (flatP (g.ms.take i) ++ x.parts.take j)
  have hct : (flatP (g.ms.take i) ++ x.parts.take j).length ≤ 100 := by rw [List.length_append, List.length_take]; have := hfl i; omega
  refine Zs<|Zr ?_
  refine lwD (lss_r rfl rfl) rfl rfl rfl (fun h40 => ?_) (fun h40 => ?_)
  ·
   refine Zn<|Zs<|ZT rfl<|Zk<|Zs<|Zb<|Zs ?_
   obtain ⟨e, he⟩ : ∃ e, x.parts[j]? = some e := ⟨_, List.getElem?_eq_getElem (by omega)⟩
   refine Zr<|ixF H 0 rfl sl_Lint rfl rfl (by omega) (by omega) rfl fun bq12 o12 x12 e12 => ?_
   obtain rfl : e = x12 := by have := e12.at_; rw [he] at this; exact Option.some.inj this
   refine Zl (ld_r one_int rfl (e12.cl 0 _ rfl))<|Zl (Wi rfl)<|Zn<|Zs<|Zs ?_
   obtain ⟨d, hed, hdp⟩ := hx4 e (List.mem_of_getElem? he)
   refine Zr<|Zl (Yi rfl)<|Zl (Yi rfl)<|Zl (geqF_r rfl rfl (by omega))<|Zn<|ZF rfl<|Zk ?_
   have hcl2 := List.count_le_length (a := (d : Int)) (l := flatP (g.ms.take i) ++ x.parts.take j)
   refine Zr<|Zl (Ys rfl)<|Zl (Yi rfl)<|Zl (ixR_r (k := d) sl_Lint rfl (congrArg (Value.int .i64) hed) (by first | omega | (simp only [List.length_set]; omega)))<|Zl (ldR_r one_int row2 (cntL_at _ hdp) 0 rfl (H.ent (i := 1) rfl) rfl)<|Zl (add_r rfl rfl (by omega) (by omega))<|Zl (ixR_r (k := d) sl_Lint rfl (congrArg (Value.int .i64) hed) (by first | omega | (simp only [List.length_set]; omega)))<|stR H 1 ((((flatP (g.ms.take i) ++ x.parts.take j).count (d : Int) : Nat) : Int) + 1) siz_int row2 (cntL_at _ hdp) 0 rfl rfl rfl rfl rfl rfl (by kernel_rfl) fun w14 cur13 row13 H => ?_
   have hs15 : ((cntL p (flatP (g.ms.take i) ++ x.parts.take j)).set d ((((flatP (g.ms.take i) ++ x.parts.take j).count (d : Int) : Nat) : Int) + 1))[d]? = some ((((flatP (g.ms.take i) ++ x.parts.take j).count (d : Int) : Nat) : Int) + 1) := List.getElem?_set_self (getE (cntL_at _ hdp)).1
   refine Zn<|Zr<|Zl (add_r rfl rfl (by omega) (by omega))<|Zl (Yi rfl)<|Zn ?_
   exact ⟨(j + 1, _), ⟨by omega, (by rw [take_snoc he, ← List.append_assoc, hed, ← cntL_snoc _ hdp]; exact row13), H⟩, sl1 rfl, by repeat (first | exact Agr.refl _ _ | exact agr_ovr | refine agr_upd rfl ?_ | refine agr_updL _ rfl ?_ | refine agr_ovr2 rfl ?_), by show x.parts.length - (j + 1) < x.parts.length - j; omega⟩
  ·
   refine Zn<|Zs<|ZF rfl<|Zx<|Zs ?_
   obtain rfl : j = x.parts.length := by omega
   rw [List.take_length] at row2
   refine Zr<|Zl (Yi rfl)<|Zl (Zf fd_Member_2 rfl)<|Zl (Zd one_Lint H 0 rfl rfl rfl)<|Zl (lenS_r len_Lint rfl)<|Zl (minI_r rfl rfl) ?_
   obtain ⟨ls2, hls2, hls3, hls4⟩ : ∃ y : Int, min ls ((x.parts.length : Nat) : Int) = y ∧ bs ≤ y ∧ y ≤ 4 := ⟨_, rfl, by omega, by omega⟩
   rw [hls2]
   refine Zl (Wi rfl)<|Zn<|Zr<|Zl (Yi rfl)<|Zl (Zf fd_Member_2 rfl)<|Zl (Zd one_Lint H 0 rfl rfl rfl)<|Zl (lenS_r len_Lint rfl)<|Zl (maxI_r rfl rfl) ?_
   obtain ⟨mo2, hmo2, hmo3, hmo4⟩ : ∃ y : Int, max mo ((x.parts.length : Nat) : Int) = y ∧ 0 ≤ y ∧ y ≤ bs + 1 := ⟨_, rfl, by omega, by omega⟩
   rw [hmo2]
   refine Zl (Wi rfl)<|Zn<|Zr<|Zl (add_r rfl rfl (by omega) (by omega))<|Zl (Yi rfl)<|Zn ?_
   exact ⟨(i + 1, ls2, mo2, _), ⟨by omega, ⟨hls3, hls4⟩, ⟨hmo3, hmo4⟩, (by rw [take_snoc hx, flatP_snoc]; exact row2), H.forget (.cons _ (List.Sublist.refl _)) (fun f hf => List.mem_cons_of_mem _ hf)⟩, sl3 rfl rfl rfl, by repeat (first | exact Agr.refl _ _ | exact agr_ovr | refine agr_upd rfl ?_ | refine agr_updL _ rfl ?_ | refine agr_ovr2 rfl ?_), by show g.ms.length - (i + 1) < g.ms.length - i; omega⟩
 ·
  refine Zn<|Zs<|ZF rfl<|Zx<|Zs<|Zs ?_
  obtain rfl : i = g.ms.length := by omega
  rw [List.take_length] at row1
  refine Zr<|Zl (Ys rfl)<|Zl (lenS_r len_Lint rfl)<|Zl (Yi rfl)<|Zn<|Zb ?_
  refine cw_loop (τ := Nat) [4, 16, 66, 67, 68, 69, 70, 71, 72, 73, 74, 75, 76, 77, 78, 79, 80, 81, 82] (fun k => [(66, .int .i64 (k : Nat))]) (fun k w' => k ≤ p ∧ Hp w w' [(b28, .cells u1 T_int (0, 0)), (b6, .cells #[.int .i64 (g.clock), .int .i64 (g.wait), .int .i64 (g.gen), .slice g.mA g.ms.length g.mC, .slice g.oA g.os.length g.oC] T_Group (0, 0))] [FRd memL w2.heap.size w3.heap.size g.mA g.ms, FGr w2.heap.size w3.heap.size g, FRd rawL 0 w.heap.size A l]) (fun k => p - k) 0 ⟨by omega, H⟩ (sl1 rfl) ?_
  rintro k ρ1 w16 ⟨hk, H⟩
  show CW _ _ _ _ (updL (ovr _ _ ρ1) [(66, .int .i64 (k : Nat))]) w16
  refine Zs<|Zr ?_
  refine lwD (lss_r rfl rfl) rfl rfl rfl (fun h67 => ?_) (fun h67 => ?_)
  ·
   refine Zn<|Zs<|ZT rfl<|Zk<|Zs<|Zb<|Zs ?_
   obtain ⟨z, hz⟩ : ∃ z, (cntL p (flatP g.ms))[k]? = some z := ⟨_, List.getElem?_eq_getElem (by rw [cntL_len]; omega)⟩
   refine Zr<|Zl (ixR_r sl_Lint rfl rfl (by first | omega | (simp only [List.length_set]; omega)))<|Zl (ldR_r one_int row1 hz 0 rfl (H.ent (i := 0) rfl) rfl)<|Zl (Wi rfl)<|Zn<|Zs ?_
   obtain ⟨hz1, hz2⟩ := hcn _ _ hz
   refine Zr<|Zl (Zf fd_Group_3 rfl)<|Zl (Zd one_LMember H 1 rfl rfl rfl)<|Zl (lenS_r len_LMember rfl) ?_
   refine lwD (gtr_r rfl rfl) rfl rfl rfl (fun h73 => ?_) (fun h73 => ?_)
   ·
    refine Zl (Yb rfl)<|ZG<|Zl (Yi rfl)<|ZG<|Zl (neqF_r rfl rfl (hz1 (by omega)))<|Zl (Kt rfl rfl)<|Zl (Yb rfl)<|ZG<|Zl (Yi rfl)<|ZG<|Zl (gtrF_r rfl rfl (by rcases Nat.eq_zero_or_pos g.ms.length with h0 | h0; have := hz2 h0; omega; have := hz1 h0; omega))<|Zl (Kf rfl rfl)<|Zn<|ZF rfl ?_
    refine Zk<|Zr<|Zl (add_r rfl rfl (by omega) (by omega))<|Zl (Yi rfl)<|Zn ?_
    exact ⟨k + 1, ⟨by omega, H⟩, sl1 rfl, by repeat (first | exact Agr.refl _ _ | exact agr_ovr | refine agr_upd rfl ?_ | refine agr_updL _ rfl ?_ | refine agr_ovr2 rfl ?_), by show p - (k + 1) < p - k; omega⟩
   ·
    refine Zl (Yb rfl)<|ZN<|ZN<|Zl (Kf rfl rfl)<|Zl (Yb rfl)<|ZG<|Zl (Yi rfl)<|ZG<|Zl (gtrF_r rfl rfl (by rcases Nat.eq_zero_or_pos g.ms.length with h0 | h0; have := hz2 h0; omega; have := hz1 h0; omega))<|Zl (Kf rfl rfl)<|Zn<|ZF rfl<|Zk<|Zr ?_
    refine Zl (add_r rfl rfl (by omega) (by omega))<|Zl (Yi rfl)<|Zn ?_
    exact ⟨k + 1, ⟨by omega, H⟩, sl1 rfl, by repeat (first | exact Agr.refl _ _ | exact agr_ovr | refine agr_upd rfl ?_ | refine agr_updL _ rfl ?_ | refine agr_ovr2 rfl ?_), by show p - (k + 1) < p - k; omega⟩
  ·
   refine Zn<|Zs<|ZF rfl<|Zx<|Zs<|Zr<|Zl (Yb rfl)<|Zl (Yb rfl)<|ZG<|Zl (Zf fd_Group_3 rfl)<|ZG<|Zl (Zd one_LMember H 1 rfl rfl rfl)<|ZG<|Zl (lenS_r len_LMember rfl) ?_
   refine ZG ?_
   refine lwD (eql_r rfl rfl) rfl rfl rfl (fun h88 => ?_) (fun h88 => ?_)
   ·
    refine ZG<|Zl (Yb rfl)<|ZN<|ZN<|ZN<|ZN<|ZG<|Zl (Kt rfl rfl)<|Zl (Kt rfl rfl)<|Zl (Wb rfl)<|Zn<|Zt ?_
    exact fin1 (v := .bool true) rfl rfl ⟨rfl, H.below⟩
   ·
    refine ZG<|Zl (Yb rfl)<|ZG<|Zl (Yi rfl)<|ZG<|Zl (Yi rfl)<|ZG<|Zl (sub_r rfl rfl (by omega) (by omega))<|ZG<|Zl (leqT_r rfl rfl (by omega))<|ZG<|Zl (Kf rfl rfl)<|Zl (Kt rfl rfl)<|Zl (Wb rfl) ?_
    refine Zn<|Zt ?_
    exact fin1 (v := .bool true) rfl rfl ⟨rfl, H.below⟩
end Go.Proofs.Ytemnchkebhclpaa
