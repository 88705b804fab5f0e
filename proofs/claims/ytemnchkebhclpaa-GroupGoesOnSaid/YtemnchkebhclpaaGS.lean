/- GS: a part of the proofs over this seat: what stands in its theorems holds for every input that they name. -/
import Derived.Test.YtemnchkebhclpaaGU
import Derived.Test.YtemnchkebhclpaaGB
import Derived.Test.YtemnchkebhclpaaGX
import Derived.Test.YtemnchkebhclpaaEngZ
open Go.Eng renaming lw_nil → Zn, cw_seq → Zs, cw_region → Zr, cw_skip → Zk, cw_ret → Zt, cw_block → Zb, cw_exit → Zx, mvI_r → Yi, mvB_r → Yb, mvS_r → Ys, mvP_r → Yp, mvT_r → Yt, mvU_r → Yu, mvA_r → Ya, asI_r → Wi, asB_r → Wb, asS_r → Ws, asP_r → Wp, asT_r → Wt, fad_r → Zf, exI_r → Xi, exA_r → Xa, exB_r → Xb, exS_r → Xs, pkTB_r → Kt, pkFB_r → Kf, cw_true → ZT, cw_false → ZF
section
namespace Go.Proofs.Ytemnchkebhclpaa
open Go Go.Eng Go.RowKit
set_option linter.unusedSimpArgs false
/-- a row of rows of bytes -/
abbrev RB := Option Addr × List UInt8 × Nat
def rowsL : Lay RB := ⟨fun p => [.slice p.1 p.2.1.length p.2.2], 1, fun _ => rfl, by decide, fun a u hu => by
 simp only [List.mem_cons, List.mem_nil_iff, or_false] at hu
 subst hu; rfl⟩
def cat (ps : List RB) : List UInt8 := ps.flatMap fun p => p.2.1
theorem cat_succ {ps : List RB} {k : Nat} {p : RB} (h : ps[k]? = some p) : cat (ps.take (k + 1)) = cat (ps.take k) ++ p.2.1 := by
 rw [take_snoc h]; simp [cat]
theorem cat_le (ps : List RB) (k : Nat) : (cat (ps.take k)).length ≤ (cat ps).length := by
 have : cat ps = cat (ps.take k) ++ cat (ps.drop k) := by unfold cat; rw [← List.flatMap_append, List.take_append_drop]
 rw [this]; simp
theorem own_empty {g cp : Nat} {cur : Array Value} (h : cur.size = cp * 1) (hm : cp ≤ maxLen) : Own byteL (.slice (some ⟨g, 0, none⟩) 0 cp) T_byte [] [(g, .cells cur T_byte (0, 0))] :=
 ⟨by simp [Lay.all], .inr ⟨g, cp, cur, rfl, rfl, Nat.zero_le _, hm, h, by simp [Lay.all]⟩⟩
set_option maxHeartbeats 4000000 in
set_option maxRecDepth 10000 in
theorem grow_ok (n : Nat) (w : World) (hn : n ≤ 1000000) : Ret Try.prog i_slices_Grow_Lbyte_byte [.slice none 0 0, .int .i64 (n : Nat)] w fun v w2 => ∃ A' c' L', v = .slice A' 0 c' ∧ Own byteL (.slice A' 0 c') T_byte [] L' ∧ Hp w w2 L' [] := by
 refine ret_of fn_slices_Grow_Lbyte_byte rfl rfl ?_
 have H := Hp.start w
 refine Zs<|Zr<|Zl (Ws rfl)<|Zn<|Zs<|Zs<|Zr<|Zl (Yi rfl)<|Zl (lssF_r rfl rfl (by omega))<|Zn<|ZF rfl<|Zk<|Zs<|Zs ?_
 refine Zr<|Zl (Yi rfl)<|Zl (Ys rfl)<|Zl (capS_r len_Lbyte rfl)<|Zl (Ys rfl)<|Zl (lenS_r len_Lbyte rfl)<|Zl (sub_r rfl rfl (by omega) (by omega))<|Zl (sub_r rfl rfl (by omega) (by omega))<|Zl (Wi rfl)<|Zn<|Zs<|Zr<|Zl (Yi rfl) ?_
 refine lwD (gtr_r rfl rfl) rfl rfl rfl (fun h16 => ?_) (fun h16 => ?_)
 ·
  refine Zn<|ZT rfl<|Zr<|Zl (Ys rfl)<|Zl (Ys rfl)<|Zl (capS_r len_Lbyte rfl)<|Zl (sliHi_r (i := 0) sl_Lbyte rfl rfl (by omega) (by omega))<|Zl (Yi rfl)<|apZ (m := n) ap_Lbyte int_int H rfl (by show Value.int .i64 _ = _; congr 1) (by omega) (by omega) rfl fun w1 g cp cur hcs hncp hcpm H =>Zl (Ys rfl)<|Zl (lenS_r len_Lbyte rfl)<|sliHi sl_Lbyte rfl rfl (by omega) (by omega) rfl fun A25 hA25 => ?_
  obtain rfl := hA25 (by omega)
  refine Zl (Ws rfl)<|Zn<|Zs<|Zr<|Zl (Ys rfl)<|Zl (Ws rfl)<|Zn<|Zt ?_
  exact fin1 rfl rfl ⟨_, _, _, rfl, own_empty hcs hcpm, H⟩
 ·
  refine Zn<|ZF rfl<|Zk<|Zs<|Zr<|Zl (Ys rfl)<|Zl (Ws rfl)<|Zn<|Zt ?_
  exact fin1 rfl rfl ⟨none, 0, [], rfl, Own.nil, H⟩
set_option maxHeartbeats 4000000 in
set_option maxRecDepth 10000 in
theorem concat_ok (ps : List RB) (A : Option Addr) (c : Nat) (w : World) (hr : Rd rowsL 0 w.heap.size A ps w) (hp : ∀ p ∈ ps, Rd byteL 0 w.heap.size p.1 p.2.1 w) (hb : (cat ps).length ≤ 1000000) (hl : ps.length ≤ 1000) :
  Ret Try.prog i_slices_Concat_Lbyte_byte [.slice A ps.length c] w fun v w2 => ∃ A' c' L', v = .slice A' (cat ps).length c' ∧ (cat ps).length ≤ c' ∧ c' ≤ maxLen ∧ Own byteL (.slice A' (cat ps).length c') T_byte (cat ps) L' ∧ Hp w w2 L' [] := by
 refine ret_of fn_slices_Concat_Lbyte_byte rfl rfl ?_
 have H := Hp.startRd hr
 refine Zs<|Zr<|Zl (Ws rfl)<|Zn<|Zs<|Zr<|Zl (Wi rfl)<|Zn<|Zs<|Zs<|Zr<|Zl (Ys rfl)<|Zl (lenS_r len_LLbyte rfl)<|Zl (Yi rfl) ?_
 refine Zn<|Zb ?_
 refine cw_loop (τ := Nat) [3, 5, 11, 12, 13, 14, 15, 16, 17, 18, 19, 20, 21, 22] (fun k => [(3, .int .i64 ((cat (ps.take k)).length : Nat)), (11, .int .i64 (k : Nat))]) (fun k w' => k ≤ ps.length ∧ Hp w w' [] [FRd rowsL 0 w.heap.size A ps]) (fun k => ps.length - k) 0 ⟨by omega, H⟩ (sl2 rfl rfl) ?_
 rintro k ρ1 w1 ⟨hk, H⟩
 show CW _ _ _ _ (updL (ovr _ _ ρ1) [(3, .int .i64 ((cat (ps.take k)).length : Nat)), (11, .int .i64 (k : Nat))]) w1
 have hle := cat_le ps k
 refine Zs<|Zr ?_
 refine lwD (lss_r rfl rfl) rfl rfl rfl (fun h12 => ?_) (fun h12 => ?_)
 ·
  refine Zn<|Zs<|ZT rfl<|Zk<|Zs<|Zb<|Zs<|Zr<|ixF H 0 rfl sl_LLbyte rfl rfl (by omega) (by omega) rfl fun b2 o2 x2 e2 => ?_
  have hle2 := cat_le ps (k + 1)
  rw [cat_succ e2.at_, List.length_append] at hle2
  refine Zl (ld_r one_Lbyte rfl (e2.cl 0 _ rfl))<|Zl (Ws rfl)<|Zn<|Zs<|Zr<|Zl (Yi rfl)<|Zl (Ys rfl)<|Zl (lenS_r len_Lbyte rfl)<|Zl (add_r rfl rfl (by omega) (by omega))<|Zl (Wi rfl)<|Zn<|Zs<|Zr<|Zl (Yi rfl) ?_
  refine Zl (lssF_r rfl rfl (by omega))<|Zn<|ZF rfl<|Zk<|Zr<|Zl (add_r rfl rfl (by omega) (by omega))<|Zl (Yi rfl)<|Zn ?_
  refine ⟨k + 1, ⟨by omega, H⟩, sl2 (by rw [cat_succ e2.at_, List.length_append]; rfl) rfl, by repeat (first | exact Agr.refl _ _ | exact agr_ovr | refine agr_upd rfl ?_ | refine agr_updL _ rfl ?_ | refine agr_ovr2 rfl ?_), by show ps.length - (k + 1) < ps.length - k; omega⟩
 ·
  refine Zn<|Zs<|ZF rfl<|Zx<|Zs<|Zr<|Zl (Yi rfl)<|cal cb_slices_Grow_Lbyte_byte (grow_ok (cat (ps.take k)).length _ (by omega)) rfl rfl ?_
  rintro _ w3 ⟨A24, c24, L24, rfl, ho24, hj24⟩; replace H := H.join hj24; clear hj24
  refine Zl (Ws rfl)<|Zn<|Zs<|Zs<|Zr<|Zl (Ys rfl)<|Zl (lenS_r len_LLbyte rfl)<|Zl (Yi rfl)<|Zn<|Zb ?_
  refine cw_loop (τ := Nat × Option Addr × Nat) [6, 8, 27, 28, 29, 30, 31, 32, 33, 34] (fun (j, Ag, cg) => [(6, .slice Ag (cat (ps.take j)).length cg), (27, .int .i64 (j : Nat))]) (fun (j, Ag, cg) w' => j ≤ ps.length ∧ ∃ L', Own byteL (.slice Ag (cat (ps.take j)).length cg) T_byte (cat (ps.take j)) L' ∧ Hp w w' ([] ++ L' ++ []) [FRd rowsL 0 w.heap.size A ps]) (fun (j, _, _) => ps.length - j) (0, A24, c24) ⟨by omega, L24, ho24, by simpa using H⟩ (sl2 rfl rfl) ?_
  rintro ⟨j, Ag, cg⟩ ρ2 w4 ⟨hj, L1, ho, H⟩
  show CW _ _ _ _ (updL (ovr _ _ ρ2) [(6, .slice Ag (cat (ps.take j)).length cg), (27, .int .i64 (j : Nat))]) w4
  have hle := cat_le ps j
  refine Zs<|Zr ?_
  refine lwD (lss_r rfl rfl) rfl rfl rfl (fun h28 => ?_) (fun h28 => ?_)
  ·
   refine Zn<|Zs<|ZT rfl<|Zk<|Zs<|Zb<|Zs<|Zr<|ixF H 0 rfl sl_LLbyte rfl rfl (by omega) (by omega) rfl fun b5 o5 x5 e5 => ?_
   have hle2 := cat_le ps (j + 1)
   rw [cat_succ e5.at_, List.length_append] at hle2
   have hpx := (hp _ (List.mem_of_getElem? e5.at_)).below H.below
   refine Zl (ld_r one_Lbyte rfl (e5.cl 0 _ rfl))<|Zl (Ws rfl)<|Zn<|Zr<|Zl (Ys rfl)<|Zl (Ys rfl)<|apO (Y := byteL) ap_Lbyte (K := []) (L := L1) (M := []) H ho (news := x5.2.1) rfl rfl rfl (Rd.src hpx) (by omega) rfl ?_
   intro A3 c3 w6 L3 h3a _ ho3 H
   refine Zl (Ws rfl)<|Zn<|Zr<|Zl (add_r rfl rfl (by omega) (by omega))<|Zl (Yi rfl)<|Zn ?_
   refine ⟨(j + 1, A3, c3), ⟨by omega, L3, by rw [cat_succ e5.at_]; exact ho3, H⟩, sl2 (by rw [cat_succ e5.at_]; rfl) rfl, by repeat (first | exact Agr.refl _ _ | exact agr_ovr | refine agr_upd rfl ?_ | refine agr_updL _ rfl ?_ | refine agr_ovr2 rfl ?_), by show ps.length - (j + 1) < ps.length - j; omega⟩
  ·
   refine Zn<|Zs<|ZF rfl<|Zx<|Zs<|Zr<|Zl (Ys rfl)<|Zl (Ws rfl)<|Zn<|Zt ?_
   have hjp : j = ps.length := by omega
   subst hjp
   rw [List.take_length] at ho
   obtain ⟨A2, c2, he, hlc, hmx⟩ := ho.form
   injection he with h1 h2 h3
   subst h3
   exact fin1 (v := .slice Ag (cat (ps.take ps.length)).length cg) rfl rfl ⟨Ag, cg, L1, by rw [List.take_length], hlc, hmx, ho, H.forget (by simp) (by simp)⟩
end Go.Proofs.Ytemnchkebhclpaa
end

section
namespace Go.Proofs.Ytemnchkebhclpaa
open Go Go.Eng Go.RowKit
set_option linter.unusedSimpArgs false
theorem step_head {n : UInt8} {r : List UInt8} {e : Ent} {k : Nat} (h : step (n :: r) = some (e, k)) : k = n.toNat + 3 := by
 simp only [step] at h
 split at h; · cases h
 split at h; · cases h
 split at h
 ·
  injection h with h; injection h with h1 h2; exact h2.symm
 ·
  cases h
theorem encB_ne {e : Ent} : 0 < (encB e).length := by rw [encB_len]; omega
theorem encB_head {e : Ent} (hg : Good e) : ∃ n r, encB e = n :: r ∧ n.toNat + 3 = (encB e).length := by
 obtain ⟨hl, _⟩ := bodyB_len hg
 refine ⟨UInt8.ofNat (bodyB e).length, _, rfl, ?_⟩
 rw [encB_len, u8nat _ (by omega)]
/-- what is cut off within an entry is none -/
theorem step_cut {e : Ent} (hg : Good e) {k : Nat} (hk : k < (encB e).length) (rest : List UInt8) : step ((encB e ++ rest).take k) = none := by
 obtain ⟨n, r, he, hn⟩ := encB_head hg
 rw [List.take_append_of_le_length (by omega), he]
 cases k with
 | zero => rfl
 | succ k =>
  rw [List.take_succ_cons]
  cases hs : step (n :: r.take k) with
  | none => rfl
  | some p =>
   obtain ⟨e', j⟩ := p
   have h1 := step_head hs
   have h2 := (step_le hs).2
   simp at h2
   omega
/-- how many entries are whole within k bytes -/
def whole : List Ent → Nat → Nat
 | [], _ => 0
 | e :: es, k => if (encB e).length ≤ k then 1 + whole es (k - (encB e).length) else 0
theorem flat_cons (e : Ent) (es : List Ent) : flat (e :: es) = encB e ++ flat es := by simp [flat]
theorem dec_take : ∀ (es : List Ent) (k : Nat), (∀ e ∈ es, Good e) → Dec ((flat es).take k) (es.take (whole es k)) (flat (es.take (whole es k))).length
 | [], k, _ => by
  have : (flat []).take k = [] := by simp [flat]
  rw [this]
  exact .stop rfl
 | e :: es, k, hg => by
  have hge := hg e (List.mem_cons_self ..)
  rw [flat_cons]
  unfold whole
  by_cases h : (encB e).length ≤ k
  ·
   rw [if_pos h, Nat.add_comm, List.take_succ_cons, flat_cons, List.length_append]
   have hd := dec_take es (k - (encB e).length) fun x hx => hg x (List.mem_cons_of_mem _ hx)
   have e1 : (encB e ++ flat es).take k = encB e ++ (flat es).take (k - (encB e).length) := by
    rw [List.take_append, List.take_of_length_le h]
   rw [e1]
   exact .go (step_enc hge _) (by rw [List.drop_left]; exact hd)
  ·
   rw [if_neg h]
   exact .stop (step_cut hge (by omega) _)
theorem whole_le : ∀ (es : List Ent) (k : Nat), whole es k ≤ es.length
 | [], _ => Nat.le_refl _
 | e :: es, k => by
  unfold whole
  split
  ·
   have := whole_le es (k - (encB e).length); simp; omega
  ·
   exact Nat.zero_le _
theorem whole_flat_le : ∀ (es : List Ent) (k : Nat), (flat (es.take (whole es k))).length ≤ k
 | [], k => by simp [flat]
 | e :: es, k => by
  unfold whole
  split
  ·
   rename_i h
   rw [Nat.add_comm, List.take_succ_cons, flat_cons, List.length_append]
   have := whole_flat_le es (k - (encB e).length)
   omega
  ·
   simp [flat]
theorem whole_ge : ∀ (es : List Ent) (k s : Nat), s ≤ es.length → (flat (es.take s)).length ≤ k → s ≤ whole es k
 | _, _, 0, _, _ => Nat.zero_le _
 | [], _, s + 1, h, _ => by simp at h
 | e :: es, k, s + 1, h, hk => by
  rw [List.take_succ_cons, flat_cons, List.length_append] at hk
  unfold whole
  rw [if_pos (by omega)]
  have := whole_ge es (k - (encB e).length) s (by simpa using h) (by omega)
  omega
theorem whole_at {es : List Ent} {s : Nat} (hs : s ≤ es.length) : whole es (flat (es.take s)).length = s := by
 have h1 := whole_ge es _ s hs (Nat.le_refl _)
 have h2 := whole_flat_le es (flat (es.take s)).length
 have h3 := whole_le es (flat (es.take s)).length
 by_cases h : whole es (flat (es.take s)).length = s
 ·
  exact h
 ·
  exfalso
  have hlt : s + 1 ≤ whole es (flat (es.take s)).length := by omega
  have e1 : es.take (whole es (flat (es.take s)).length) = es.take s ++ (es.drop s).take (whole es (flat (es.take s)).length - s) := by
   have : whole es (flat (es.take s)).length = s + (whole es (flat (es.take s)).length - s) := by omega
   rw [this, List.take_add]
   congr 2
   omega
  have hsl : s < es.length := by omega
  have hd := List.drop_eq_getElem_cons hsl
  obtain ⟨m, hm⟩ : ∃ m, whole es (flat (es.take s)).length - s = m + 1 := ⟨whole es (flat (es.take s)).length - s - 1, by omega⟩
  rw [e1, hm, hd, List.take_succ_cons] at h2
  have hpos := encB_ne (e := es[s])
  have h5 : (flat (es.take s ++ es[s] :: (es.drop (s + 1)).take m)).length = (flat (es.take s)).length + ((encB es[s]).length + (flat ((es.drop (s + 1)).take m)).length) := by
   unfold flat
   rw [List.flatMap_append, List.length_append, List.flatMap_cons, List.length_append]
  omega
theorem flat_split (es : List Ent) (s : Nat) : flat es = flat (es.take s) ++ flat (es.drop s) := by
 unfold flat; rw [← List.flatMap_append, List.take_append_drop]
theorem take_flat (es : List Ent) (s : Nat) : (flat es).take (flat (es.take s)).length = flat (es.take s) := by
 rw [flat_split es s]
 exact List.take_left' rfl
theorem flat_app (a b : List Ent) : flat (a ++ b) = flat a ++ flat b := by simp [flat]
/-- a log: its bytes are those of entries, so many of which are safe -/
structure LogR where
 A : Option Addr
 cap : Nat
 es : List Ent
 s : Nat
abbrev lsz (es : List Ent) (s : Nat) : Nat := (flat (es.take s)).length
def LogR.c (l : LogR) : List Value := [.slice l.A (flat l.es).length l.cap, .int .i64 (lsz l.es l.s : Nat)]
structure GL (es : List Ent) (s : Nat) : Prop where
 good : ∀ e ∈ es, Good e
 len : es.length ≤ 400
 sz : (flat es).length ≤ 40000
 sle : s ≤ es.length
structure LogR.ok (l : LogR) (w : World) : Prop where
 gl : GL l.es l.s
 cap : (flat l.es).length ≤ l.cap
 rd : Rd byteL 0 w.heap.size l.A (flat l.es) w
theorem dec_safe {es : List Ent} {s : Nat} (h : GL es s) : Dec (flat (es.take s)) (es.take s) (lsz es s) := dec_flat _ fun e he => h.good e (List.take_subset _ _ he)
def zLog : Value := .agg #[.slice none 0 0, .int .i64 0]
set_option maxHeartbeats 4000000 in
set_option maxRecDepth 10000 in
theorem segCheck_ok (l : LogR) (w : World) (h : l.ok w) : Ret Try.prog i_seg_Check [.agg l.c.toArray] w fun v w2 => v = .int .i64 0 ∧ Below w.heap.size w w2 := by
 refine ret_of fn_seg_Check rfl rfl ?_
 have hgl := h.gl
 have hcap := h.cap
 have hsz := hgl.sz
 have hln := hgl.len
 have hsle := hgl.sle
 have hss : lsz l.es l.s ≤ (flat l.es).length := flat_take_le l.es l.s
 have H := Hp.startRd h.rd
 obtain ⟨lA, lc, es, s⟩ := l
 dsimp only at hgl hcap hsz hln hsle hss H
 have hss2 : (flat (es.take s)).length ≤ (flat es).length := hss
 show CW _ _ _ _ (args [.agg #[.slice lA (flat es).length lc, .int .i64 (lsz es s : Nat)]]) w
 refine Zs<|Zr<|bxA H rfl rfl fun w1 b1 H =>Zl (Wi rfl)<|Zn<|Zs<|Zs<|Zr<|Zl (Zf fd_Log_0 rfl)<|Zl (Zd one_Lbyte H 0 rfl rfl rfl)<|Zl (lenS_r len_Lbyte rfl)<|Zl (gtrF_r rfl rfl (by omega))<|Zn<|ZF rfl ?_
 refine Zk<|Zs<|Zr<|Zl (Zf fd_Log_0 rfl)<|Zl (Zd one_Lbyte H 0 rfl rfl rfl)<|cal cb_wire_Decode (decode_ok (flat es) _ _ _ (H.rd0 0 rfl) hcap (by omega)) rfl rfl ?_
 have hlo14 := H.size
 rintro _ w2 ⟨ds, nd, A14, c14, rfl, hd, hr14, hc14, hb14⟩; replace H := H.learnRd hb14 hr14; clear hr14 hb14
 have hde := (dec_fun hd (dec_flat es hgl.good)).1.symm
 have hdn := (dec_fun hd (dec_flat es hgl.good)).2.symm
 subst hde; subst hdn; clear hd
 refine Zl (Yu rfl)<|Zl (Xs rfl rfl)<|Zl (Xi rfl rfl)<|Zl (Ws rfl)<|Zl (Wi rfl)<|Zn<|Zs<|Zs<|Zr<|Zl (Yi rfl)<|Zl (Zf fd_Log_0 rfl)<|Zl (Zd one_Lbyte H 0 rfl rfl rfl)<|Zl (lenS_r len_Lbyte rfl)<|Zl (neqF_r rfl rfl rfl) ?_
 refine Zl (Yb rfl)<|ZG<|Zl (Ys rfl)<|ZG<|Zl (lenS_r len_LEntry rfl)<|ZG<|Zl (gtrF_r rfl rfl (by omega))<|Zl (Kf rfl rfl)<|Zn<|ZF rfl<|Zk<|Zs<|Zs<|Zr ?_
 refine Zl (Zf fd_Log_1 rfl)<|Zl (Zd one_int H 0 rfl rfl rfl)<|Zl (lssF_r rfl rfl (by omega))<|Zl (Yb rfl)<|ZG<|Zl (Zf fd_Log_1 rfl)<|ZG<|Zl (Zd one_int H 0 rfl rfl rfl)<|ZG<|Zl (Yi rfl)<|ZG<|Zl (gtrF_r rfl rfl (by omega))<|Zl (Kf rfl rfl)<|Zn ?_
 refine ZF rfl<|Zk<|Zs<|Zs<|Zr<|Zl (Zf fd_Log_0 rfl)<|Zl (Zd one_Lbyte H 0 rfl rfl rfl)<|Zl (Zf fd_Log_1 rfl)<|Zl (Zd one_int H 0 rfl rfl rfl)<|sliHiF (k := lsz es s) H 1 rfl sl_Lbyte rfl rfl hcap (by omega) rfl fun A41 H => ?_
 rw [take_flat] at H
 refine cal cb_wire_Decode (decode_ok (flat (es.take s)) _ _ _ (H.rd0 0 rfl) (by omega) (by omega)) rfl rfl ?_
 have hlo42 := H.size
 rintro _ w3 ⟨ds, nd, A42, c42, rfl, hd, hr42, hc42, hb42⟩; replace H := H.learnRd hb42 hr42; clear hr42 hb42
 have hde := (dec_fun hd (dec_safe hgl)).1.symm
 have hdn := (dec_fun hd (dec_safe hgl)).2.symm
 subst hde; subst hdn; clear hd
 refine Zl (Yu rfl)<|Zl (Xs rfl rfl)<|Zl (Xi rfl rfl)<|Zl (Ws rfl)<|Zl (Wi rfl)<|Zn<|Zs<|Zr<|Zl (Yi rfl)<|Zl (Zf fd_Log_1 rfl)<|Zl (Zd one_int H 0 rfl rfl rfl)<|Zl (neqF_r rfl rfl rfl)<|Zn<|ZF rfl ?_
 refine Zk<|Zs<|Zr<|Zl (Wi rfl)<|Zn<|Zt ?_
 exact fin1 rfl rfl ⟨rfl, H.below⟩
set_option maxHeartbeats 4000000 in
set_option maxRecDepth 10000 in
theorem segEntries_ok (l : LogR) (w : World) (h : l.ok w) : Ret Try.prog i_seg_Entries [.agg l.c.toArray] w fun v w2 => ∃ A' c', v = .tuple #[.slice A' l.es.length c', .int .i64 (l.s : Nat), .int .i64 0] ∧ Rd entL w.heap.size w2.heap.size A' l.es w2 ∧ l.es.length ≤ c' ∧ Below w.heap.size w w2 := by
 refine ret_of fn_seg_Entries rfl rfl ?_
 have hgl := h.gl
 have hcap := h.cap
 have hsz := hgl.sz
 have hln := hgl.len
 have hsle := hgl.sle
 have hss : lsz l.es l.s ≤ (flat l.es).length := flat_take_le l.es l.s
 have H := Hp.startRd h.rd
 obtain ⟨lA, lc, es, s⟩ := l
 dsimp only at hgl hcap hsz hln hsle hss H
 have hss2 : (flat (es.take s)).length ≤ (flat es).length := hss
 show CW _ _ _ _ (args [.agg #[.slice lA (flat es).length lc, .int .i64 (lsz es s : Nat)]]) w
 refine Zs<|Zr<|bxA H rfl rfl fun w1 b1 H =>Zl (Ws rfl)<|Zl (Wi rfl)<|Zl (Wi rfl)<|Zn<|Zs<|Zs<|Zr<|Zl (Zw agg_Log H 0 rfl rfl rfl)<|cal cb_seg_Check (segCheck_ok ⟨lA, lc, es, s⟩ _ ⟨hgl, hcap, H.rd0 0 rfl⟩) rfl rfl ?_
 rintro _ w2 ⟨rfl, hb⟩; replace H := H.later hb; clear hb
 refine Zl (Wi rfl)<|Zn<|Zs<|Zr<|Zl (Yi rfl)<|Zl (neqF_r rfl rfl rfl)<|Zn<|ZF rfl<|Zk<|Zs<|Zr<|Zl (Zf fd_Log_0 rfl)<|Zl (Zd one_Lbyte H 0 rfl rfl rfl)<|cal cb_wire_Decode (decode_ok (flat es) _ _ _ (H.rd0 0 rfl) hcap (by omega)) rfl rfl ?_
 have hlo18 := H.size
 rintro _ w3 ⟨ds, nd, A18, c18, rfl, hd, hr18, hc18, hb18⟩; replace H := H.learnRd hb18 hr18; clear hr18 hb18
 have hde := (dec_fun hd (dec_flat es hgl.good)).1.symm
 have hdn := (dec_fun hd (dec_flat es hgl.good)).2.symm
 subst hde; subst hdn; clear hd
 refine Zl (Yu rfl)<|Zl (Xs rfl rfl)<|Zl (Xi rfl rfl)<|Zl (Ws rfl)<|Zl (Wi rfl)<|Zn<|Zs<|Zr<|Zl (Zf fd_Log_0 rfl)<|Zl (Zd one_Lbyte H 0 rfl rfl rfl)<|Zl (Zf fd_Log_1 rfl)<|Zl (Zd one_int H 0 rfl rfl rfl)<|sliHiF (k := lsz es s) H 1 rfl sl_Lbyte rfl rfl hcap (by omega) rfl fun A26 H => ?_
 rw [take_flat] at H
 refine cal cb_wire_Decode (decode_ok (flat (es.take s)) _ _ _ (H.rd0 0 rfl) (by omega) (by omega)) rfl rfl ?_
 have hlo27 := H.size
 rintro _ w4 ⟨ds, nd, A27, c27, rfl, hd, hr27, hc27, hb27⟩; replace H := H.learnRd hb27 hr27; clear hr27 hb27
 have hde := (dec_fun hd (dec_safe hgl)).1.symm
 have hdn := (dec_fun hd (dec_safe hgl)).2.symm
 subst hde; subst hdn; clear hd
 refine Zl (Yu rfl)<|Zl (Xs rfl rfl)<|Zl (Xi rfl rfl)<|Zl (Ws rfl)<|Zl (Wi rfl)<|Zn<|Zs<|Zr<|Zl (Ys rfl)<|Zl (Ys rfl)<|Zl (lenS_r len_LEntry rfl)<|Zl (Ws rfl)<|Zl (Wi rfl)<|Zl (Wi rfl) ?_
 refine Zn<|Zt ?_
 have hls : (es.take s).length = s := by simp; omega
 have hrd := Rd.mono (H.fact (i := 2) rfl) hlo18 (H.facts _ (List.mem_of_getElem? (i := 2) rfl)).2.1
 exact fin3 (v := .slice A18 es.length c18) (v2 := .int .i64 ((es.take s).length : Nat)) (v3 := .int .i64 0) rfl rfl rfl rfl ⟨A18, c18, by rw [hls], hrd, hc18, H.below⟩
theorem segEntries_at (A : Option Addr) (c : Nat) (es : List Ent) (s : Nat) (w : World) (h : (⟨A, c, es, s⟩ : LogR).ok w) : Ret Try.prog i_seg_Entries [.agg #[.slice A (flat es).length c, .int .i64 (lsz es s : Nat)]] w fun v w2 => ∃ A' c', v = .tuple #[.slice A' es.length c', .int .i64 (s : Nat), .int .i64 0] ∧ Rd entL w.heap.size w2.heap.size A' es w2 ∧ es.length ≤ c' ∧ Below w.heap.size w w2 := segEntries_ok ⟨A, c, es, s⟩ w h
theorem segCheck_at (A : Option Addr) (c : Nat) (es : List Ent) (s : Nat) (w : World) (h : (⟨A, c, es, s⟩ : LogR).ok w) : Ret Try.prog i_seg_Check [.agg #[.slice A (flat es).length c, .int .i64 (lsz es s : Nat)]] w fun v w2 => v = .int .i64 0 ∧ Below w.heap.size w w2 := segCheck_ok ⟨A, c, es, s⟩ w h
end Go.Proofs.Ytemnchkebhclpaa
end

section
namespace Go.Proofs.Ytemnchkebhclpaa
open Go Go.Eng Go.RowKit
set_option linter.unusedSimpArgs false
theorem clone_byte_rd (es : List UInt8) (A : Option Addr) (c : Nat) (w : World) (hr : Rd byteL 0 w.heap.size A es w) (hb : es.length * 1 ≤ 140737488355328) :
  Ret Try.prog i_slices_Clone_Lbyte_byte [.slice A es.length c] w fun v w2 => ∃ A' c', v = .slice A' es.length c' ∧ es.length ≤ c' ∧ Rd byteL w.heap.size w2.heap.size A' es w2 ∧ Below w.heap.size w w2 :=
 (clone_byte_ok es A c w hr hb).mono fun v w2 ⟨A', c', L', h1, h2, _, h4, h5⟩ => ⟨A', c', h1, h2, h4.rd (K := []) (M := []) (by simpa using h5), h5.below⟩
theorem clone_Entry_rd (es : List Ent) (A : Option Addr) (c : Nat) (w : World) (hr : Rd entL 0 w.heap.size A es w) (hb : es.length * 64 ≤ 140737488355328) :
  Ret Try.prog i_slices_Clone_LEntry_Entry [.slice A es.length c] w fun v w2 => ∃ A' c', v = .slice A' es.length c' ∧ es.length ≤ c' ∧ Rd entL w.heap.size w2.heap.size A' es w2 ∧ Below w.heap.size w w2 :=
 (clone_Entry_ok es A c w hr hb).mono fun v w2 ⟨A', c', L', h1, h2, _, h4, h5⟩ => ⟨A', c', h1, h2, h4.rd (K := []) (M := []) (by simpa using h5), h5.below⟩
theorem clone_int_rd (es : List Int) (A : Option Addr) (c : Nat) (w : World) (hr : Rd intL 0 w.heap.size A es w) (hb : es.length * 8 ≤ 140737488355328) :
  Ret Try.prog i_slices_Clone_Lint_int [.slice A es.length c] w fun v w2 => ∃ A' c', v = .slice A' es.length c' ∧ es.length ≤ c' ∧ Rd intL w.heap.size w2.heap.size A' es w2 ∧ Below w.heap.size w w2 :=
 (clone_int_ok es A c w hr hb).mono fun v w2 ⟨A', c', L', h1, h2, _, h4, h5⟩ => ⟨A', c', h1, h2, h4.rd (K := []) (M := []) (by simpa using h5), h5.below⟩
/-- a log that a call has made -/
def NewLog (w w2 : World) (A : Option Addr) (c : Nat) (es : List Ent) (s : Nat) : Prop := GL es s ∧ (flat es).length ≤ c ∧ Rd byteL w.heap.size w2.heap.size A (flat es) w2
theorem NewLog.ok {w w2 : World} {A : Option Addr} {c : Nat} {es : List Ent} {s : Nat} (h : NewLog w w2 A c es s) : (⟨A, c, es, s⟩ : LogR).ok w2 := ⟨h.1, h.2.1, h.2.2.mono (Nat.zero_le _) (Nat.le_refl _)⟩
theorem flat_snoc (es : List Ent) (x : Ent) : flat (es ++ [x]) = flat es ++ encB x := by rw [flat_app, flat_one]
theorem lsz_snoc {es : List Ent} {s : Nat} (x : Ent) (h : s ≤ es.length) : lsz (es ++ [x]) s = lsz es s := by unfold lsz; rw [List.take_append_of_le_length h]
def full (es : List Ent) (x : Ent) : Prop := es.length = 400 ∨ 40000 < (flat es).length + (encB x).length
theorem GL.snoc {es : List Ent} {s : Nat} {x : Ent} (h : GL es s) (hx : Good x) (hf : ¬ full es x) : GL (es ++ [x]) s := by
 unfold full at hf
 refine ⟨fun e he => ?_, by simp; have := h.len; omega, by rw [flat_snoc, List.length_append]; omega, by simp; have := h.sle; omega⟩
 rcases List.mem_append.1 he with he | he
 ·
  exact h.good e he
 ·
  rw [List.mem_singleton.1 he]; exact hx
theorem GL.all {es : List Ent} {s : Nat} (h : GL es s) : GL es es.length := ⟨h.good, h.len, h.sz, Nat.le_refl _⟩
theorem GL.take {es : List Ent} {s : Nat} (h : GL es s) (n : Nat) {t : Nat} (ht : t ≤ (es.take n).length) : GL (es.take n) t := ⟨fun e he => h.good e (List.take_subset _ _ he), by simp; have := h.len; omega, by have := flat_take_le es n; have := h.sz; omega, ht⟩
set_option maxHeartbeats 4000000 in
set_option maxRecDepth 10000 in
theorem segAppend_bad (l : LogR) (x : Ent) (w : World) (h : l.ok w) (hx : entCheck x ≠ 0) : Ret Try.prog i_seg_Append [.agg l.c.toArray, x.v] w fun v w2 => v = .tuple #[zLog, .int .i64 (entCheck x)] ∧ Below w.heap.size w w2 := by
 refine ret_of fn_seg_Append rfl rfl ?_
 have hgl := h.gl
 have hcap := h.cap
 have hsz := hgl.sz
 have hln := hgl.len
 have hsle := hgl.sle
 have hss : lsz l.es l.s ≤ (flat l.es).length := flat_take_le l.es l.s
 have H := Hp.startRd h.rd
 obtain ⟨lA, lc, es, s⟩ := l
 dsimp only at hgl hcap hsz hln hsle hss H
 have hss2 : (flat (es.take s)).length ≤ (flat es).length := hss
 show CW _ _ _ _ (args [.agg #[.slice lA (flat es).length lc, .int .i64 (lsz es s : Nat)], x.v]) w
 refine Zs<|Zr<|bxA H rfl rfl fun w1 b2 H =>bxA H rfl rfl fun w2 b3 H =>alo H z_Log rfl fun w3 b4 H =>Zl (Wi rfl)<|Zn<|Zs<|Zr<|Zl (Zw agg_Log H 2 rfl rfl rfl)<|cal cb_seg_Entries (segEntries_at lA lc es s _ ⟨hgl, hcap, H.rd0 0 rfl⟩) rfl rfl ?_
 rintro _ w4 ⟨A12, c12, rfl, hr12, hc12, hb12⟩; replace H := H.learnRd hb12 hr12; clear hr12 hb12
 refine Zl (Yu rfl)<|Zl (Xs rfl rfl)<|Zl (Xi rfl rfl)<|Zl (Xi rfl rfl)<|Zl (Ws rfl)<|Zl (Wi rfl)<|Zl (Wi rfl)<|Zn<|Zs<|Zs<|Zr<|Zl (Yi rfl)<|Zl (neqF_r rfl rfl rfl)<|Zn ?_
 refine ZF rfl<|Zk<|Zs<|Zr<|Zl (Zw agg_Entry H 1 rfl rfl rfl)<|cal cb_wire_Encode (encode_bad x _ hx) rfl rfl ?_
 rintro _ w5 ⟨rfl, hb⟩; replace H := H.later hb; clear hb
 refine Zl (Yu rfl)<|Zl (Xs rfl rfl)<|Zl (Xi rfl rfl)<|Zl (Ws rfl)<|Zl (Wi rfl)<|Zn<|Zs<|Zs<|Zr<|Zl (Yi rfl)<|Zl (neqT_r rfl rfl hx)<|Zn<|ZT rfl<|Zs ?_
 refine Zr<|Zl (bld_r (cs := #[.slice none 0 0, .int .i64 0]) st_Log z_Log (by kernel_rfl))<|Zl (Yi rfl)<|stN H 0 (#[.slice none 0 0, .int .i64 0]) siz_Log rfl rfl rfl rfl rfl (by kernel_rfl) (by kernel_rfl) fun w6 H =>Zl (Wi rfl)<|Zn<|Zt ?_
 exact finCTn (cs0 := #[.slice none 0 0, .int .i64 0]) rfl agg_Log rfl (H.ent (i := 0) rfl) rfl rfl ⟨rfl, H.below⟩
set_option maxHeartbeats 4000000 in
set_option maxRecDepth 10000 in
theorem segAppend_full (l : LogR) (x : Ent) (w : World) (h : l.ok w) (hx : Good x) (hf : full l.es x) : Ret Try.prog i_seg_Append [.agg l.c.toArray, x.v] w fun v w2 => v = .tuple #[zLog, .int .i64 16] ∧ Below w.heap.size w w2 := by
 refine ret_of fn_seg_Append rfl rfl ?_
 have hgl := h.gl
 have hcap := h.cap
 have hsz := hgl.sz
 have hln := hgl.len
 have hsle := hgl.sle
 have hss : lsz l.es l.s ≤ (flat l.es).length := flat_take_le l.es l.s
 have H := Hp.startRd h.rd
 obtain ⟨lA, lc, es, s⟩ := l
 dsimp only at hgl hcap hsz hln hsle hss H
 have hss2 : (flat (es.take s)).length ≤ (flat es).length := hss
 show CW _ _ _ _ (args [.agg #[.slice lA (flat es).length lc, .int .i64 (lsz es s : Nat)], x.v]) w
 unfold full at hf
 dsimp only at hf
 have hel := encB_le hx
 refine Zs<|Zr<|bxA H rfl rfl fun w1 b2 H =>bxA H rfl rfl fun w2 b3 H =>alo H z_Log rfl fun w3 b4 H =>Zl (Wi rfl)<|Zn<|Zs<|Zr<|Zl (Zw agg_Log H 2 rfl rfl rfl)<|cal cb_seg_Entries (segEntries_at lA lc es s _ ⟨hgl, hcap, H.rd0 0 rfl⟩) rfl rfl ?_
 rintro _ w4 ⟨A12, c12, rfl, hr12, hc12, hb12⟩; replace H := H.learnRd hb12 hr12; clear hr12 hb12
 refine Zl (Yu rfl)<|Zl (Xs rfl rfl)<|Zl (Xi rfl rfl)<|Zl (Xi rfl rfl)<|Zl (Ws rfl)<|Zl (Wi rfl)<|Zl (Wi rfl)<|Zn<|Zs<|Zs<|Zr<|Zl (Yi rfl)<|Zl (neqF_r rfl rfl rfl)<|Zn ?_
 refine ZF rfl<|Zk<|Zs<|Zr<|Zl (Zw agg_Entry H 1 rfl rfl rfl)<|cal cb_wire_Encode (encode_ok x _ hx) rfl rfl ?_
 rintro _ w6 ⟨A5, c5, rfl, hr5, hc5, hb5⟩; replace H := H.learnRd hb5 hr5; clear hr5 hb5
 refine Zl (Yu rfl)<|Zl (Xs rfl rfl)<|Zl (Xi rfl rfl)<|Zl (Ws rfl)<|Zl (Wi rfl)<|Zn<|Zs<|Zs<|Zr<|Zl (Yi rfl)<|Zl (neqF_r rfl rfl rfl)<|Zn<|ZF rfl<|Zk ?_
 refine Zs<|Zs<|Zr<|Zl (Ys rfl)<|Zl (lenS_r len_LEntry rfl) ?_
 refine lwD (eql_r rfl rfl) rfl rfl rfl (fun h31 => ?_) (fun h31 => ?_)
 ·
  refine Zl (Yb rfl)<|ZN<|ZN<|ZN<|ZN<|ZN<|ZN<|ZN<|Zl (Kt rfl rfl)<|Zn<|ZT rfl<|Zs<|Zr<|Zl (bld_r (cs := #[.slice none 0 0, .int .i64 0]) st_Log z_Log (by kernel_rfl)) ?_
  refine stN H 0 (#[.slice none 0 0, .int .i64 0]) siz_Log rfl rfl rfl rfl rfl (by kernel_rfl) (by kernel_rfl) fun w7 H =>Zl (Wi rfl)<|Zn<|Zt ?_
  exact finCTn (cs0 := #[.slice none 0 0, .int .i64 0]) rfl agg_Log rfl (H.ent (i := 0) rfl) rfl rfl ⟨rfl, H.below⟩
 ·
  refine Zl (Yb rfl)<|ZG<|Zl (Zf fd_Log_0 rfl)<|ZG<|Zl (Zd one_Lbyte H 2 rfl rfl rfl)<|ZG<|Zl (lenS_r len_Lbyte rfl)<|ZG<|Zl (Ys rfl)<|ZG<|Zl (lenS_r len_Lbyte rfl)<|ZG<|Zl (add_r rfl rfl (by omega) (by omega))<|ZG ?_
  refine Zl (gtrT_r rfl rfl (by omega))<|Zl (Kf rfl rfl)<|Zn<|ZT rfl<|Zs<|Zr<|Zl (bld_r (cs := #[.slice none 0 0, .int .i64 0]) st_Log z_Log (by kernel_rfl))<|stN H 0 (#[.slice none 0 0, .int .i64 0]) siz_Log rfl rfl rfl rfl rfl (by kernel_rfl) (by kernel_rfl) fun w8 H =>Zl (Wi rfl)<|Zn<|Zt ?_
  exact finCTn (cs0 := #[.slice none 0 0, .int .i64 0]) rfl agg_Log rfl (H.ent (i := 0) rfl) rfl rfl ⟨rfl, H.below⟩
set_option maxHeartbeats 4000000 in
set_option maxRecDepth 10000 in
theorem segAppend_ok (l : LogR) (x : Ent) (w : World) (h : l.ok w) (hx : Good x) (hf : ¬ full l.es x) : Ret Try.prog i_seg_Append [.agg l.c.toArray, x.v] w fun v w2 => ∃ A' c', v = .tuple #[.agg (LogR.c ⟨A', c', l.es ++ [x], l.s⟩).toArray, .int .i64 0] ∧ NewLog w w2 A' c' (l.es ++ [x]) l.s ∧ Below w.heap.size w w2 := by
 refine ret_of fn_seg_Append rfl rfl ?_
 have hgl := h.gl
 have hcap := h.cap
 have hsz := hgl.sz
 have hln := hgl.len
 have hsle := hgl.sle
 have hss : lsz l.es l.s ≤ (flat l.es).length := flat_take_le l.es l.s
 have H := Hp.startRd h.rd
 obtain ⟨lA, lc, es, s⟩ := l
 dsimp only at hgl hcap hsz hln hsle hss H
 have hss2 : (flat (es.take s)).length ≤ (flat es).length := hss
 show CW _ _ _ _ (args [.agg #[.slice lA (flat es).length lc, .int .i64 (lsz es s : Nat)], x.v]) w
 unfold full at hf
 dsimp only at hf
 have hel := encB_le hx
 refine Zs<|Zr<|bxA H rfl rfl fun w1 b2 H =>bxA H rfl rfl fun w2 b3 H =>alo H z_Log rfl fun w3 b4 H =>Zl (Wi rfl)<|Zn<|Zs<|Zr<|Zl (Zw agg_Log H 2 rfl rfl rfl)<|cal cb_seg_Entries (segEntries_at lA lc es s _ ⟨hgl, hcap, H.rd0 0 rfl⟩) rfl rfl ?_
 rintro _ w4 ⟨A12, c12, rfl, hr12, hc12, hb12⟩; replace H := H.learnRd hb12 hr12; clear hr12 hb12
 refine Zl (Yu rfl)<|Zl (Xs rfl rfl)<|Zl (Xi rfl rfl)<|Zl (Xi rfl rfl)<|Zl (Ws rfl)<|Zl (Wi rfl)<|Zl (Wi rfl)<|Zn<|Zs<|Zs<|Zr<|Zl (Yi rfl)<|Zl (neqF_r rfl rfl rfl)<|Zn ?_
 refine ZF rfl<|Zk<|Zs<|Zr<|Zl (Zw agg_Entry H 1 rfl rfl rfl)<|cal cb_wire_Encode (encode_ok x _ hx) rfl rfl ?_
 rintro _ w6 ⟨A5, c5, rfl, hr5, hc5, hb5⟩; replace H := H.learnRd hb5 hr5; clear hr5 hb5
 refine Zl (Yu rfl)<|Zl (Xs rfl rfl)<|Zl (Xi rfl rfl)<|Zl (Ws rfl)<|Zl (Wi rfl)<|Zn<|Zs<|Zs<|Zr<|Zl (Yi rfl)<|Zl (neqF_r rfl rfl rfl)<|Zn<|ZF rfl<|Zk ?_
 refine Zs<|Zs<|Zr<|Zl (Ys rfl)<|Zl (lenS_r len_LEntry rfl)<|Zl (eqlF_r rfl rfl (by omega))<|Zl (Yb rfl)<|ZG<|Zl (Zf fd_Log_0 rfl)<|ZG<|Zl (Zd one_Lbyte H 2 rfl rfl rfl)<|ZG<|Zl (lenS_r len_Lbyte rfl)<|ZG ?_
 refine Zl (Ys rfl)<|ZG<|Zl (lenS_r len_Lbyte rfl)<|ZG<|Zl (add_r rfl rfl (by omega) (by omega))<|ZG<|Zl (gtrF_r rfl rfl (by omega))<|Zl (Kf rfl rfl)<|Zn<|ZF rfl<|Zk<|Zs ?_
 
 refine cw_tree mixed [0, 2, 5] [1, 3, 4, 6, 7, 8, 9] [0, 2, 5] 7 (by kernel_rfl) (by kernel_rfl) (by kernel_rfl) (fun _ _ _ h => h) ?_
 refine aw rfl rfl rfl rfl rfl (fun w' hw' => Zf fd_Log_0 rfl)<|aw rfl rfl rfl rfl rfl (fun w' hw' => Ys rfl)<|aw rfl rfl rfl rfl rfl (fun w' hw' => Zf fd_Log_1 rfl)<|aw_nil ?_
 intro w7 hw'; replace H := H.later hw'; clear hw'
 refine xw2 1 6 (by kernel_rfl) rfl rfl ?_ ?_ 
 ·
  refine Zl (Zd one_Lbyte H 2 rfl rfl rfl)<|Zn ?_
  refine xw2 3 6 (by kernel_rfl) rfl rfl ?_ ?_ 
  ·
   refine bsv (vs := [.slice lA (flat es).length lc, .slice A5 (encB x).length c5]) H sl_LLbyte z_Lbyte rfl rfl rfl rfl rfl rfl fun w8 b45 H => ?_
   have hcat : cat [(lA, flat es, lc), (A5, encB x, c5)] = flat (es ++ [x]) := by rw [flat_snoc]; simp [cat]
   refine Zn ?_
   refine xw2 4 6 (by kernel_rfl) rfl rfl ?_ ?_ 
   ·
    have hC := concat_ok [(lA, flat es, lc), (A5, encB x, c5)] (some ⟨b45, 0, none⟩) 2 _ (Rd.blk (H.ent (i := 0) rfl) rfl) (by intro p hp; simp at hp; rcases hp with rfl | rfl; exact H.rd0 2 rfl; exact H.rd0 0 rfl) (by rw [hcat, flat_snoc, List.length_append]; omega) (by simp)
    rw [hcat] at hC
    have hloX := H.size
    refine cal cb_slices_Concat_Lbyte_byte hC rfl rfl ?_; rintro _ w9 ⟨AX, cX, LX, rfl, hcX, -, hoX, hjX⟩; replace H := H.learnOwn hjX hoX
    refine Zn<|xw1 6 (by kernel_rfl) rfl<|Zl (Zd one_int H 3 rfl rfl rfl)<|Zn<|xw1 7 (by kernel_rfl) rfl<|Zl (bld_r (cs := #[.slice AX (flat (es ++ [x])).length cX, .int .i64 (lsz es s : Nat)]) st_Log z_Log (by kernel_rfl))<|Zn<|xw1 8 (by kernel_rfl) rfl<|stN H 1 (#[.slice AX (flat (es ++ [x])).length cX, .int .i64 (lsz es s : Nat)]) siz_Log rfl rfl rfl rfl rfl (by kernel_rfl) (by kernel_rfl) fun w10 H =>Zn<|xw1 9 (by kernel_rfl) rfl<|Zl (Wi rfl)<|Zn<|xw_end (by kernel_rfl) ?_
    refine Zt ?_
    exact finCTn (cs0 := #[.slice AX (flat (es ++ [x])).length cX, .int .i64 (lsz es s : Nat)]) (v1 := .int .i64 0) rfl agg_Log rfl (H.ent (i := 1) rfl) rfl rfl ⟨AX, cX, by unfold LogR.c; rw [lsz_snoc _ hsle], ⟨hgl.snoc hx (by unfold full; omega), hcX, Rd.mono (H.fact (i := 0) rfl) hloX (H.facts _ (List.mem_of_getElem? (i := 0) rfl)).2.1⟩, H.below⟩
   ·
    refine Zl (Zd one_int H 3 rfl rfl rfl)<|Zn<|xw1 4 (by kernel_rfl) rfl ?_
    have hC := concat_ok [(lA, flat es, lc), (A5, encB x, c5)] (some ⟨b45, 0, none⟩) 2 _ (Rd.blk (H.ent (i := 0) rfl) rfl) (by intro p hp; simp at hp; rcases hp with rfl | rfl; exact H.rd0 2 rfl; exact H.rd0 0 rfl) (by rw [hcat, flat_snoc, List.length_append]; omega) (by simp)
    rw [hcat] at hC
    have hloX := H.size
    refine cal cb_slices_Concat_Lbyte_byte hC rfl rfl ?_; rintro _ w11 ⟨AX, cX, LX, rfl, hcX, -, hoX, hjX⟩; replace H := H.learnOwn hjX hoX
    refine Zn<|xw1 7 (by kernel_rfl) rfl<|Zl (bld_r (cs := #[.slice AX (flat (es ++ [x])).length cX, .int .i64 (lsz es s : Nat)]) st_Log z_Log (by kernel_rfl))<|Zn<|xw1 8 (by kernel_rfl) rfl<|stN H 1 (#[.slice AX (flat (es ++ [x])).length cX, .int .i64 (lsz es s : Nat)]) siz_Log rfl rfl rfl rfl rfl (by kernel_rfl) (by kernel_rfl) fun w12 H =>Zn<|xw1 9 (by kernel_rfl) rfl<|Zl (Wi rfl)<|Zn<|xw_end (by kernel_rfl)<|Zt ?_
    exact finCTn (cs0 := #[.slice AX (flat (es ++ [x])).length cX, .int .i64 (lsz es s : Nat)]) (v1 := .int .i64 0) rfl agg_Log rfl (H.ent (i := 1) rfl) rfl rfl ⟨AX, cX, by unfold LogR.c; rw [lsz_snoc _ hsle], ⟨hgl.snoc hx (by unfold full; omega), hcX, Rd.mono (H.fact (i := 0) rfl) hloX (H.facts _ (List.mem_of_getElem? (i := 0) rfl)).2.1⟩, H.below⟩
  ·
   refine Zl (Zd one_int H 2 rfl rfl rfl)<|Zn<|xw1 3 (by kernel_rfl) rfl<|bsv (vs := [.slice lA (flat es).length lc, .slice A5 (encB x).length c5]) H sl_LLbyte z_Lbyte rfl rfl rfl rfl rfl rfl fun w13 b45 H => ?_
   have hcat : cat [(lA, flat es, lc), (A5, encB x, c5)] = flat (es ++ [x]) := by rw [flat_snoc]; simp [cat]
   refine Zn<|xw1 4 (by kernel_rfl) rfl ?_
   have hC := concat_ok [(lA, flat es, lc), (A5, encB x, c5)] (some ⟨b45, 0, none⟩) 2 _ (Rd.blk (H.ent (i := 0) rfl) rfl) (by intro p hp; simp at hp; rcases hp with rfl | rfl; exact H.rd0 2 rfl; exact H.rd0 0 rfl) (by rw [hcat, flat_snoc, List.length_append]; omega) (by simp)
   rw [hcat] at hC
   have hloX := H.size
   refine cal cb_slices_Concat_Lbyte_byte hC rfl rfl ?_; rintro _ w14 ⟨AX, cX, LX, rfl, hcX, -, hoX, hjX⟩; replace H := H.learnOwn hjX hoX
   refine Zn<|xw1 7 (by kernel_rfl) rfl<|Zl (bld_r (cs := #[.slice AX (flat (es ++ [x])).length cX, .int .i64 (lsz es s : Nat)]) st_Log z_Log (by kernel_rfl))<|Zn<|xw1 8 (by kernel_rfl) rfl<|stN H 1 (#[.slice AX (flat (es ++ [x])).length cX, .int .i64 (lsz es s : Nat)]) siz_Log rfl rfl rfl rfl rfl (by kernel_rfl) (by kernel_rfl) fun w15 H =>Zn<|xw1 9 (by kernel_rfl) rfl<|Zl (Wi rfl)<|Zn<|xw_end (by kernel_rfl)<|Zt ?_
   exact finCTn (cs0 := #[.slice AX (flat (es ++ [x])).length cX, .int .i64 (lsz es s : Nat)]) (v1 := .int .i64 0) rfl agg_Log rfl (H.ent (i := 1) rfl) rfl rfl ⟨AX, cX, by unfold LogR.c; rw [lsz_snoc _ hsle], ⟨hgl.snoc hx (by unfold full; omega), hcX, Rd.mono (H.fact (i := 0) rfl) hloX (H.facts _ (List.mem_of_getElem? (i := 0) rfl)).2.1⟩, H.below⟩
 ·
  refine Zl (Zd one_int H 2 rfl rfl rfl)<|Zn<|xw1 1 (by kernel_rfl) rfl<|Zl (Zd one_Lbyte H 2 rfl rfl rfl)<|Zn<|xw1 3 (by kernel_rfl) rfl<|bsv (vs := [.slice lA (flat es).length lc, .slice A5 (encB x).length c5]) H sl_LLbyte z_Lbyte rfl rfl rfl rfl rfl rfl fun w16 b45 H => ?_
  have hcat : cat [(lA, flat es, lc), (A5, encB x, c5)] = flat (es ++ [x]) := by rw [flat_snoc]; simp [cat]
  refine Zn<|xw1 4 (by kernel_rfl) rfl ?_
  have hC := concat_ok [(lA, flat es, lc), (A5, encB x, c5)] (some ⟨b45, 0, none⟩) 2 _ (Rd.blk (H.ent (i := 0) rfl) rfl) (by intro p hp; simp at hp; rcases hp with rfl | rfl; exact H.rd0 2 rfl; exact H.rd0 0 rfl) (by rw [hcat, flat_snoc, List.length_append]; omega) (by simp)
  rw [hcat] at hC
  have hloX := H.size
  refine cal cb_slices_Concat_Lbyte_byte hC rfl rfl ?_; rintro _ w17 ⟨AX, cX, LX, rfl, hcX, -, hoX, hjX⟩; replace H := H.learnOwn hjX hoX
  refine Zn<|xw1 7 (by kernel_rfl) rfl<|Zl (bld_r (cs := #[.slice AX (flat (es ++ [x])).length cX, .int .i64 (lsz es s : Nat)]) st_Log z_Log (by kernel_rfl))<|Zn<|xw1 8 (by kernel_rfl) rfl<|stN H 1 (#[.slice AX (flat (es ++ [x])).length cX, .int .i64 (lsz es s : Nat)]) siz_Log rfl rfl rfl rfl rfl (by kernel_rfl) (by kernel_rfl) fun w18 H =>Zn<|xw1 9 (by kernel_rfl) rfl<|Zl (Wi rfl)<|Zn<|xw_end (by kernel_rfl)<|Zt ?_
  exact finCTn (cs0 := #[.slice AX (flat (es ++ [x])).length cX, .int .i64 (lsz es s : Nat)]) (v1 := .int .i64 0) rfl agg_Log rfl (H.ent (i := 1) rfl) rfl rfl ⟨AX, cX, by unfold LogR.c; rw [lsz_snoc _ hsle], ⟨hgl.snoc hx (by unfold full; omega), hcX, Rd.mono (H.fact (i := 0) rfl) hloX (H.facts _ (List.mem_of_getElem? (i := 0) rfl)).2.1⟩, H.below⟩
end Go.Proofs.Ytemnchkebhclpaa
end

section
namespace Go.Proofs.Ytemnchkebhclpaa
open Go Go.Eng Go.RowKit
set_option linter.unusedSimpArgs false
theorem lsz_all (es : List Ent) : lsz es es.length = (flat es).length := by unfold lsz; rw [List.take_length]
theorem lsz_mono {es : List Ent} {a b : Nat} (h : a ≤ b) : lsz es a ≤ lsz es b := by
 have := flat_take_le (es.take b) a
 unfold lsz
 rwa [List.take_take, Nat.min_eq_left h] at this
theorem lsz_min (es : List Ent) (s n : Nat) : min ((lsz es s : Nat) : Int) ((lsz es n : Nat) : Int) = (lsz (es.take n) (min s n) : Nat) := by
 have e : lsz (es.take n) (min s n) = lsz es (min s n) := by
  unfold lsz; rw [List.take_take, Nat.min_eq_left (Nat.min_le_right _ _)]
 rw [e]
 by_cases h : s ≤ n
 ·
  have := lsz_mono (es := es) h
  rw [Nat.min_eq_left h]; omega
 ·
  have := lsz_mono (es := es) (show n ≤ s by omega)
  rw [Nat.min_eq_right (by omega)]; omega
theorem Rd.cut0 {α : Type} {Y : Lay α} {lo hi cap sz : Nat} {A : Option Addr} {es : List α} {w : World} (h : Rd Y lo hi A es w) (k : Nat) : Rd Y lo hi (cut A cap 0 sz) (es.take k) w := by
 have e : cut A cap 0 sz = A := by
  unfold cut
  split
  ·
   rfl
  ·
   cases A <;> simp [Addr.add]
 rw [e]
 exact h.take k
/-- how many entries are left behind a crash that leaves so many bytes of what is not safe -/
def crashN (es : List Ent) (s keep : Nat) : Nat := whole es (lsz es s + min keep ((flat es).length - lsz es s))
theorem crashN_ge {es : List Ent} {s keep : Nat} (h : s ≤ es.length) : s ≤ crashN es s keep := whole_ge es _ s h (by unfold lsz; omega)
theorem crashN_le (es : List Ent) (s keep : Nat) : crashN es s keep ≤ es.length := whole_le _ _
theorem crashN_zero {es : List Ent} {s : Nat} (h : s ≤ es.length) : crashN es s 0 = s := by unfold crashN; simp; exact whole_at h
set_option maxHeartbeats 4000000 in
set_option maxRecDepth 10000 in
theorem segSync_ok (l : LogR) (w : World) (h : l.ok w) : Ret Try.prog i_seg_Sync [.agg l.c.toArray] w fun v w2 => ∃ A' c', v = .tuple #[.agg (LogR.c ⟨A', c', l.es, l.es.length⟩).toArray, .int .i64 0] ∧ NewLog w w2 A' c' l.es l.es.length ∧ Below w.heap.size w w2 := by
 refine ret_of fn_seg_Sync rfl rfl ?_
 have hgl := h.gl
 have hcap := h.cap
 have hsz := hgl.sz
 have hln := hgl.len
 have hsle := hgl.sle
 have hss : lsz l.es l.s ≤ (flat l.es).length := flat_take_le l.es l.s
 have H := Hp.startRd h.rd
 obtain ⟨lA, lc, es, s⟩ := l
 dsimp only at hgl hcap hsz hln hsle hss H
 have hss2 : (flat (es.take s)).length ≤ (flat es).length := hss
 show CW _ _ _ _ (args [.agg #[.slice lA (flat es).length lc, .int .i64 (lsz es s : Nat)]]) w
 refine Zs<|Zr<|bxA H rfl rfl fun w1 b1 H =>alo H z_Log rfl fun w2 b2 H =>Zl (Wi rfl)<|Zn<|Zs<|Zs<|Zr<|Zl (Zw agg_Log H 1 rfl rfl rfl)<|cal cb_seg_Check (segCheck_at lA lc es s _ ⟨hgl, hcap, H.rd0 0 rfl⟩) rfl rfl ?_
 rintro _ w3 ⟨rfl, hb⟩; replace H := H.later hb; clear hb
 refine Zl (Wi rfl)<|Zn<|Zs<|Zr<|Zl (Yi rfl)<|Zl (neqF_r rfl rfl rfl)<|Zn<|ZF rfl<|Zk<|Zs ?_
 
 have hlo := H.size
 refine cw_draw mixed [0, 1, 3, 4, 5, 2, 6] [7, 8] [2] [0, 3, 5, 6] (sp [(2, Sp.row w3.heap.size byteL (flat es))]) (by kernel_rfl) (by kernel_rfl) (by kernel_rfl) (by kernel_rfl) (fun _ _ _ h => h) (sp_st _) ?_
 refine aw rfl rfl rfl rfl rfl (fun w' hw' => Zf fd_Log_0 rfl)<|aw rfl rfl rfl rfl rfl (fun w' hw' => ld_r one_Lbyte rfl (cellE ((H.later hw').ent (i := 1) rfl) rfl))<|aw rfl rfl rfl rfl rfl (fun w' hw' => Zf fd_Log_0 rfl)<|aw rfl rfl rfl rfl rfl (fun w' hw' => ld_r one_Lbyte rfl (cellE ((H.later hw').ent (i := 1) rfl) rfl))<|aw rfl rfl rfl rfl rfl (fun w' hw' => lenS_r len_Lbyte rfl)<|awRow cb_slices_Clone_Lbyte_byte rfl rfl rfl rfl rfl (fun w' hw' => hw'.size) (fun w' hw' => clone_byte_rd (flat es) _ _ w' ((H.later hw').rd0 0 rfl) (by omega)) rfl fun A13 c13 hc13 =>aw rfl rfl rfl rfl rfl (fun w' hw' => bld_r (cs := #[.slice A13 (flat es).length c13, .int .i64 ((flat es).length : Nat)]) st_Log z_Log (by kernel_rfl))<|aw_nil ?_
 intro w4 hw' hF
 obtain ⟨hF, Aq, cq, eq, hcq, hrw13⟩ := hF; cases eq; clear hcq
 replace H := H.learnRd hw' hrw13
 clear hw' hF
 refine stN H 0 (#[.slice A13 (flat es).length c13, .int .i64 ((flat es).length : Nat)]) siz_Log rfl rfl rfl rfl rfl (by kernel_rfl) (by kernel_rfl) fun w5 H =>Zl (Wi rfl)<|Zn<|Zt ?_
 exact finCTn (cs0 := #[.slice A13 (flat es).length c13, .int .i64 ((flat es).length : Nat)]) (v1 := .int .i64 0) rfl agg_Log rfl (H.ent (i := 0) rfl) rfl rfl ⟨A13, c13, by unfold LogR.c; rw [lsz_all], ⟨hgl.all, hc13, Rd.mono (H.fact (i := 0) rfl) hlo (H.facts _ (List.mem_of_getElem? (i := 0) rfl)).2.1⟩, H.below⟩
set_option maxHeartbeats 4000000 in
set_option maxRecDepth 10000 in
theorem segCut_bad (l : LogR) (n : Int) (w : World) (h : l.ok w) (hn : n < 0 ∨ (l.es.length : Int) < n) : Ret Try.prog i_seg_Cut [.agg l.c.toArray, .int .i64 n] w fun v w2 => v = .tuple #[zLog, .int .i64 2] ∧ Below w.heap.size w w2 := by
 refine ret_of fn_seg_Cut rfl rfl ?_
 have hgl := h.gl
 have hcap := h.cap
 have hsz := hgl.sz
 have hln := hgl.len
 have hsle := hgl.sle
 have hss : lsz l.es l.s ≤ (flat l.es).length := flat_take_le l.es l.s
 have H := Hp.startRd h.rd
 obtain ⟨lA, lc, es, s⟩ := l
 dsimp only at hgl hcap hsz hln hsle hss H
 have hss2 : (flat (es.take s)).length ≤ (flat es).length := hss
 show CW _ _ _ _ (args [.agg #[.slice lA (flat es).length lc, .int .i64 (lsz es s : Nat)], .int .i64 n]) w
 dsimp only at hn
 refine Zs<|Zr<|bxA H rfl rfl fun w1 b2 H =>alo H z_Log rfl fun w2 b4 H =>Zl (Wi rfl)<|Zn<|Zs<|Zr<|Zl (Zw agg_Log H 1 rfl rfl rfl)<|cal cb_seg_Entries (segEntries_at lA lc es s _ ⟨hgl, hcap, H.rd0 0 rfl⟩) rfl rfl ?_
 rintro _ w3 ⟨A16, c16, rfl, hr16, hc16, hb16⟩; replace H := H.learnRd hb16 hr16; clear hr16 hb16
 refine Zl (Yu rfl)<|Zl (Xs rfl rfl)<|Zl (Xi rfl rfl)<|Zl (Xi rfl rfl)<|Zl (Ws rfl)<|Zl (Wi rfl)<|Zl (Wi rfl)<|Zn<|Zs<|Zs<|Zr<|Zl (Yi rfl)<|Zl (neqF_r rfl rfl rfl)<|Zn ?_
 refine ZF rfl<|Zk<|Zs<|Zs<|Zr<|Zl (Yi rfl) ?_
 refine lwD (lss_r rfl rfl) rfl rfl rfl (fun h25 => ?_) (fun h25 => ?_)
 ·
  refine Zl (Yb rfl)<|ZN<|ZN<|ZN<|ZN<|Zl (Kt rfl rfl)<|Zn<|ZT rfl<|Zs<|Zr<|Zl (bld_r (cs := #[.slice none 0 0, .int .i64 0]) st_Log z_Log (by kernel_rfl))<|stN H 0 (#[.slice none 0 0, .int .i64 0]) siz_Log rfl rfl rfl rfl rfl (by kernel_rfl) (by kernel_rfl) fun w4 H =>Zl (Wi rfl)<|Zn ?_
  refine Zt ?_
  exact finCTn (cs0 := #[.slice none 0 0, .int .i64 0]) (v1 := .int .i64 2) rfl agg_Log rfl (H.ent (i := 0) rfl) rfl rfl ⟨rfl, H.below⟩
 ·
  refine Zl (Yb rfl)<|ZG<|Zl (Yi rfl)<|ZG<|Zl (Ys rfl)<|ZG<|Zl (lenS_r len_LEntry rfl)<|ZG ?_
  refine lwD (gtr_r rfl rfl) rfl rfl rfl (fun h30 => ?_) (fun h30 => ?_)
  ·
   refine Zl (Kf rfl rfl)<|Zn<|ZT rfl<|Zs<|Zr<|Zl (bld_r (cs := #[.slice none 0 0, .int .i64 0]) st_Log z_Log (by kernel_rfl))<|stN H 0 (#[.slice none 0 0, .int .i64 0]) siz_Log rfl rfl rfl rfl rfl (by kernel_rfl) (by kernel_rfl) fun w5 H =>Zl (Wi rfl)<|Zn<|Zt ?_
   exact finCTn (cs0 := #[.slice none 0 0, .int .i64 0]) (v1 := .int .i64 2) rfl agg_Log rfl (H.ent (i := 0) rfl) rfl rfl ⟨rfl, H.below⟩
  ·
   exfalso; omega
set_option maxHeartbeats 4000000 in
set_option maxRecDepth 10000 in
theorem segCut_ok (l : LogR) (n : Nat) (w : World) (h : l.ok w) (hn : n ≤ l.es.length) : Ret Try.prog i_seg_Cut [.agg l.c.toArray, .int .i64 (n : Nat)] w fun v w2 => ∃ A' c', v = .tuple #[.agg (LogR.c ⟨A', c', l.es.take n, min l.s n⟩).toArray, .int .i64 0] ∧ NewLog w w2 A' c' (l.es.take n) (min l.s n) ∧ Below w.heap.size w w2 := by
 refine ret_of fn_seg_Cut rfl rfl ?_
 have hgl := h.gl
 have hcap := h.cap
 have hsz := hgl.sz
 have hln := hgl.len
 have hsle := hgl.sle
 have hss : lsz l.es l.s ≤ (flat l.es).length := flat_take_le l.es l.s
 have H := Hp.startRd h.rd
 obtain ⟨lA, lc, es, s⟩ := l
 dsimp only at hgl hcap hsz hln hsle hss H
 have hss2 : (flat (es.take s)).length ≤ (flat es).length := hss
 show CW _ _ _ _ (args [.agg #[.slice lA (flat es).length lc, .int .i64 (lsz es s : Nat)], .int .i64 (n : Nat)]) w
 dsimp only at hn
 refine Zs<|Zr<|bxA H rfl rfl fun w1 b2 H =>alo H z_Log rfl fun w2 b4 H =>Zl (Wi rfl)<|Zn<|Zs<|Zr<|Zl (Zw agg_Log H 1 rfl rfl rfl)<|cal cb_seg_Entries (segEntries_at lA lc es s _ ⟨hgl, hcap, H.rd0 0 rfl⟩) rfl rfl ?_
 rintro _ w3 ⟨A16, c16, rfl, hr16, hc16, hb16⟩; replace H := H.learnRd hb16 hr16; clear hr16 hb16
 refine Zl (Yu rfl)<|Zl (Xs rfl rfl)<|Zl (Xi rfl rfl)<|Zl (Xi rfl rfl)<|Zl (Ws rfl)<|Zl (Wi rfl)<|Zl (Wi rfl)<|Zn<|Zs<|Zs<|Zr<|Zl (Yi rfl)<|Zl (neqF_r rfl rfl rfl)<|Zn ?_
 refine ZF rfl<|Zk<|Zs<|Zs<|Zr<|Zl (Yi rfl)<|Zl (lssF_r rfl rfl (by omega))<|Zl (Yb rfl)<|ZG<|Zl (Yi rfl)<|ZG<|Zl (Ys rfl)<|ZG<|Zl (lenS_r len_LEntry rfl) ?_
 refine ZG<|Zl (gtrF_r rfl rfl (by omega))<|Zl (Kf rfl rfl)<|Zn<|ZF rfl<|Zk<|Zs<|Zs<|Zr<|Zl (Yi rfl)<|Zl (Ys rfl)<|Zl (lenS_r len_LEntry rfl) ?_
 refine lwD (eql_r rfl rfl) rfl rfl rfl (fun h36 => ?_) (fun h36 => ?_)
 ·
  refine Zn<|ZT rfl<|Zs ?_
   
  have hlo := H.size
  refine cw_draw mixed [0, 1, 3, 4, 2, 5] [6, 7] [2] [0, 3, 5] (sp [(2, Sp.row w3.heap.size byteL (flat es))]) (by kernel_rfl) (by kernel_rfl) (by kernel_rfl) (by kernel_rfl) (fun _ _ _ h => h) (sp_st _) ?_
  refine aw rfl rfl rfl rfl rfl (fun w' hw' => Zf fd_Log_0 rfl)<|aw rfl rfl rfl rfl rfl (fun w' hw' => ld_r one_Lbyte rfl (cellE ((H.later hw').ent (i := 1) rfl) rfl))<|aw rfl rfl rfl rfl rfl (fun w' hw' => Zf fd_Log_1 rfl)<|aw rfl rfl rfl rfl rfl (fun w' hw' => ld_r one_int rfl (cellE ((H.later hw').ent (i := 1) rfl) rfl))<|awRow cb_slices_Clone_Lbyte_byte rfl rfl rfl rfl rfl (fun w' hw' => hw'.size) (fun w' hw' => clone_byte_rd (flat es) _ _ w' ((H.later hw').rd0 1 rfl) (by omega)) rfl fun A39 c39 hc39 =>aw rfl rfl rfl rfl rfl (fun w' hw' => bld_r (cs := #[.slice A39 (flat es).length c39, .int .i64 (lsz es s : Nat)]) st_Log z_Log (by kernel_rfl))<|aw_nil ?_
  intro w4 hw' hF
  obtain ⟨hF, Aq, cq, eq, hcq, hrw39⟩ := hF; cases eq; clear hcq
  replace H := H.learnRd hw' hrw39
  clear hw' hF
  refine stN H 0 (#[.slice A39 (flat es).length c39, .int .i64 (lsz es s : Nat)]) siz_Log rfl rfl rfl rfl rfl (by kernel_rfl) (by kernel_rfl) fun w5 H =>Zl (Wi rfl)<|Zn<|Zt ?_
  have hnl : n = es.length := by omega
  subst hnl
  exact finCTn (cs0 := #[.slice A39 (flat es).length c39, .int .i64 (lsz es s : Nat)]) (v1 := .int .i64 0) rfl agg_Log rfl (H.ent (i := 0) rfl) rfl rfl ⟨A39, c39, by unfold LogR.c; rw [Nat.min_eq_left hsle, List.take_length], ⟨by rw [Nat.min_eq_left hsle, List.take_length]; exact hgl, by rw [List.take_length]; exact hc39, by rw [List.take_length]; exact Rd.mono (H.fact (i := 0) rfl) hlo (H.facts _ (List.mem_of_getElem? (i := 0) rfl)).2.1⟩, H.below⟩
 ·
  refine Zn<|ZF rfl<|Zk<|Zs<|Zr<|Zl (Wi rfl)<|Zn<|Zs<|Zs<|Zr<|Zl (Ys rfl)<|Zl (Yi rfl)<|sliHiF (k := n) H 0 rfl sl_LEntry rfl rfl hc16 (by omega) rfl fun A45 H =>Zl (lenS_r len_LEntry rfl) ?_
  refine Zl (Yi rfl)<|Zn<|Zb ?_
  refine cw_loop (τ := Nat) [9, 11, 12, 13, 47, 48, 49, 50, 51, 52, 53, 54, 55, 56, 57, 58, 59, 60] (fun k => [(9, .int .i64 (lsz es k : Nat)), (47, .int .i64 (k : Nat))]) (fun k w' => k ≤ n ∧ Hp w w' [(b4, .cells #[.slice none 0 0, .int .i64 0] T_Log (0, 0)), (b2, .cells #[.slice lA (flat es).length lc, .int .i64 (lsz es s : Nat)] T_Log (0, 0))] [FRd entL w2.heap.size w3.heap.size A45 (es.take n), FRd entL w2.heap.size w3.heap.size A16 es, FRd byteL 0 w.heap.size lA (flat es)]) (fun k => n - k) 0 ⟨by omega, H⟩ (sl2 rfl rfl) ?_
  rintro k ρ1 w6 ⟨hk, H⟩
  show CW _ _ _ _ (updL (ovr _ _ ρ1) [(9, .int .i64 (lsz es k : Nat)), (47, .int .i64 (k : Nat))]) w6
  have hsk0 : lsz es k ≤ (flat es).length := flat_take_le es k
  refine Zs<|Zr ?_
  refine lwD (lss_r rfl rfl) rfl rfl rfl (fun h48 => ?_) (fun h48 => ?_)
  ·
   refine Zn<|Zs<|ZT rfl<|Zk<|Zs<|Zb<|Zs<|Zr ?_
   have htl : (es.take n).length = n := by simp; omega
   refine ixF H 0 rfl sl_LEntry rfl rfl (by omega) (by omega) rfl fun b7 o7 x7 e7 => ?_
   have hxk : es[k]? = some x7 := by have := e7.at_; rwa [List.getElem?_take_of_lt (by omega)] at this
   have hg := hgl.good _ (List.mem_of_getElem? hxk)
   have hsk := flat_take_le es (k + 1)
   rw [flat_take_succ hxk, List.length_append] at hsk
   have hsk2 : lsz es k + (encB x7).length ≤ (flat es).length := hsk
   refine Zl (ldA_r (xs := Ent.c x7) agg_Entry rfl rfl e7.cl)<|alo H z_Entry rfl fun w8 b11 H =>stW H 0 siz_Entry rfl rfl rfl rfl rfl rfl fun w9 H =>Zn<|Zs<|Zr<|Zl (Zw agg_Entry H 0 rfl rfl rfl)<|cal cb_wire_Encode (encode_ok x7 _ hg) rfl rfl ?_
   rintro _ w11 ⟨A10, c10, rfl, hr10, hc10, hb10⟩; replace H := H.learnRd hb10 hr10; clear hr10 hb10
   refine Zl (Yu rfl)<|Zl (Xs rfl rfl)<|Zl (Xi rfl rfl)<|Zl (Ws rfl)<|Zl (Wi rfl)<|Zn<|Zr<|Zl (Yi rfl)<|Zl (Ys rfl)<|Zl (lenS_r len_Lbyte rfl)<|Zl (add_r rfl rfl (by omega) (by omega))<|Zl (Wi rfl)<|Zn<|Zr ?_
   refine Zl (add_r rfl rfl (by omega) (by omega))<|Zl (Yi rfl)<|Zn ?_
   refine ⟨k + 1, ⟨by omega, H.forget (List.sublist_cons_self _ _) (fun _ h => List.mem_cons_of_mem _ h)⟩, sl2 (by show _ = Value.int .i64 ((lsz es (k + 1) : Nat) : Int); unfold lsz; rw [flat_take_succ hxk, List.length_append]; rfl) rfl, by repeat (first | exact Agr.refl _ _ | exact agr_ovr | refine agr_upd rfl ?_ | refine agr_updL _ rfl ?_ | refine agr_ovr2 rfl ?_), by show n - (k + 1) < n - k; omega⟩
  ·
   have hkn : n = k := by omega
   subst hkn
   refine Zn<|Zs<|ZF rfl<|Zx<|Zs ?_
     
   have hlo := H.size
   refine cw_draw mixed [0, 1, 2, 3, 5, 6, 7, 8, 4, 9] [10, 11] [4] [0, 2, 3, 5, 7, 8, 9] (sp [(4, Sp.row w6.heap.size byteL (flat (es.take n)))]) (by kernel_rfl) (by kernel_rfl) (by kernel_rfl) (by kernel_rfl) (fun _ _ _ h => h) (sp_st _) ?_
   refine aw rfl rfl rfl rfl rfl (fun w' hw' => Zf fd_Log_0 rfl)<|aw rfl rfl rfl rfl rfl (fun w' hw' => ld_r one_Lbyte rfl (cellE ((H.later hw').ent (i := 1) rfl) rfl))<|aw rfl rfl rfl rfl rfl (fun w' hw' => Yi rfl)<|aw rfl rfl rfl rfl rfl (fun w' hw' => sliHi_r (i := ((lsz es n : Nat) : Int)) sl_Lbyte rfl rfl (by omega) (by have := flat_take_le es n; show ((lsz es n : Nat) : Int) ≤ _; unfold lsz; omega))<|aw rfl rfl rfl rfl rfl (fun w' hw' => Zf fd_Log_1 rfl)<|aw rfl rfl rfl rfl rfl (fun w' hw' => ld_r one_int rfl (cellE ((H.later hw').ent (i := 1) rfl) rfl))<|aw rfl rfl rfl rfl rfl (fun w' hw' => Yi rfl)<|aw rfl rfl rfl rfl rfl (fun w' hw' => minI_r rfl rfl)<|awRow cb_slices_Clone_Lbyte_byte rfl rfl rfl rfl rfl (fun w' hw' => hw'.size) (fun w' hw' => clone_byte_rd (flat (es.take n)) _ _ w' (by have := Rd.cut0 (cap := lc) (sz := 1) ((H.later hw').rd0 2 rfl) (lsz es n); rwa [take_flat] at this) (by have := flat_take_le es n; omega)) rfl fun A65 c65 hc65 =>aw rfl rfl rfl rfl rfl (fun w' hw' => bld_r (cs := #[.slice A65 (flat (es.take n)).length c65, .int .i64 (min ((lsz es s : Nat) : Int) ((lsz es n : Nat) : Int))]) st_Log z_Log (by kernel_rfl))<|aw_nil ?_
   intro w12 hw' hF
   obtain ⟨hF, Aq, cq, eq, hcq, hrw65⟩ := hF; cases eq; clear hcq
   replace H := H.learnRd hw' hrw65
   clear hw' hF
   refine stN H 0 (#[.slice A65 (flat (es.take n)).length c65, .int .i64 (min ((lsz es s : Nat) : Int) ((lsz es n : Nat) : Int))]) siz_Log rfl rfl rfl rfl rfl (by kernel_rfl) (by kernel_rfl) fun w13 H =>Zl (Wi rfl)<|Zn<|Zt ?_
   exact finCTn (cs0 := #[.slice A65 (flat (es.take n)).length c65, .int .i64 (min ((lsz es s : Nat) : Int) ((lsz es n : Nat) : Int))]) (v1 := .int .i64 0) rfl agg_Log rfl (H.ent (i := 0) rfl) rfl rfl ⟨A65, c65, by unfold LogR.c; rw [lsz_min], ⟨hgl.take n (by simp; omega), hc65, Rd.mono (H.fact (i := 0) rfl) hlo (H.facts _ (List.mem_of_getElem? (i := 0) rfl)).2.1⟩, H.below⟩
set_option maxHeartbeats 4000000 in
set_option maxRecDepth 10000 in
theorem segCrash_ok (l : LogR) (keep : Nat) (w : World) (h : l.ok w) (hkb : keep ≤ 1000000000000) : Ret Try.prog i_seg_Crash [.agg l.c.toArray, .int .i64 (keep : Nat)] w fun v w2 => ∃ A' c', v = .tuple #[.agg (LogR.c ⟨A', c', l.es.take (crashN l.es l.s keep), crashN l.es l.s keep⟩).toArray, .int .i64 0] ∧ NewLog w w2 A' c' (l.es.take (crashN l.es l.s keep)) (crashN l.es l.s keep) ∧ Below w.heap.size w w2 := by
 refine ret_of fn_seg_Crash rfl rfl ?_
 have hgl := h.gl
 have hcap := h.cap
 have hsz := hgl.sz
 have hln := hgl.len
 have hsle := hgl.sle
 have hss : lsz l.es l.s ≤ (flat l.es).length := flat_take_le l.es l.s
 have H := Hp.startRd h.rd
 obtain ⟨lA, lc, es, s⟩ := l
 dsimp only at hgl hcap hsz hln hsle hss H
 have hss2 : (flat (es.take s)).length ≤ (flat es).length := hss
 show CW _ _ _ _ (args [.agg #[.slice lA (flat es).length lc, .int .i64 (lsz es s : Nat)], .int .i64 (keep : Nat)]) w
 dsimp only
 have hmle := crashN_le es s keep
 have hfl := whole_flat_le es (lsz es s + min keep ((flat es).length - lsz es s))
 have hdt := dec_take es (lsz es s + min keep ((flat es).length - lsz es s)) hgl.good
 change Dec _ (es.take (crashN es s keep)) (flat (es.take (crashN es s keep))).length at hdt
 change (flat (es.take (crashN es s keep))).length ≤ _ at hfl
 generalize crashN es s keep = m at *
 have hfm := flat_take_le es m
 have hlk : ((flat es).take (lsz es s + min keep ((flat es).length - lsz es s))).length = (lsz es s + min keep ((flat es).length - lsz es s)) := by rw [List.length_take]; omega
 refine Zs<|Zr<|bxA H rfl rfl fun w1 b2 H =>alo H z_Log rfl fun w2 b4 H =>Zl (Wi rfl)<|Zn<|Zs<|Zs<|Zr<|Zl (Zw agg_Log H 1 rfl rfl rfl)<|cal cb_seg_Check (segCheck_at lA lc es s _ ⟨hgl, hcap, H.rd0 0 rfl⟩) rfl rfl ?_
 rintro _ w3 ⟨rfl, hb⟩; replace H := H.later hb; clear hb
 refine Zl (Wi rfl)<|Zn<|Zs<|Zr<|Zl (Yi rfl)<|Zl (neqF_r rfl rfl rfl)<|Zn<|ZF rfl<|Zk<|Zs<|Zs<|Zr<|Zl (Yi rfl)<|Zl (lssF_r rfl rfl (by omega)) ?_
 refine Zn<|ZF rfl<|Zk<|Zs<|Zr<|Zl (Zf fd_Log_0 rfl)<|Zl (Zd one_Lbyte H 1 rfl rfl rfl)<|Zl (lenS_r len_Lbyte rfl)<|Zl (Zf fd_Log_1 rfl)<|Zl (Zd one_int H 1 rfl rfl rfl)<|Zl (sub_r rfl rfl (by omega) (by omega))<|Zl (Wi rfl)<|Zn<|Zs ?_
 refine Zr<|Zl (Zf fd_Log_0 rfl)<|Zl (Zd one_Lbyte H 1 rfl rfl rfl)<|Zl (Zf fd_Log_1 rfl)<|Zl (Zd one_int H 1 rfl rfl rfl)<|Zl (Yi rfl)<|Zl (Yi rfl)<|Zl (minI_r rfl rfl)<|Zl (add_r rfl rfl (by omega) (by omega))<|sliHiF (k := (lsz es s + min keep ((flat es).length - lsz es s))) H 0 rfl sl_Lbyte rfl (show Value.int .i64 (((lsz es s : Nat) : Int) + min ((keep : Nat) : Int) ((((flat es).length : Nat) : Int) - ((lsz es s : Nat) : Int))) = .int .i64 ((lsz es s + min keep ((flat es).length - lsz es s)) : Nat) by congr 1; omega) hcap (by omega) rfl fun A34 H => ?_
 have hD := decode_ok ((flat es).take (lsz es s + min keep ((flat es).length - lsz es s))) A34 lc _ (H.rd0 0 rfl) (by omega) (by omega)
 rw [hlk] at hD
 refine cal cb_wire_Decode hD rfl rfl ?_; rintro _ w4 ⟨fs, n, A35, c35, rfl, hd35, hr35, hc35, hb35⟩; replace H := H.learnRd hb35 hr35; clear hr35 hb35
 obtain ⟨rfl, rfl⟩ := dec_fun hdt hd35
 refine Zl (Yu rfl)<|Zl (Xs rfl rfl)<|Zl (Xi rfl rfl)<|Zl (Ws rfl)<|Zl (Wi rfl)<|Zn<|Zs<|Zr<|Zl (Zf fd_Log_0 rfl)<|Zl (Zd one_Lbyte H 1 rfl rfl rfl)<|Zl (Yi rfl)<|sliHiF (k := (flat (es.take m)).length) H 2 rfl sl_Lbyte rfl rfl hcap (by omega) rfl fun A41 H => ?_
 rw [take_flat] at H
 have hlo := H.size
 refine cal cb_slices_Clone_Lbyte_byte (clone_byte_rd (flat (es.take m)) A41 lc _ (H.rd0 0 rfl) (by omega)) rfl rfl ?_; rintro _ w5 ⟨A42, c42, rfl, hc42, hr42, hb42⟩; replace H := H.learnRd hb42 hr42; clear hr42 hb42
 refine Zl (Yi rfl)<|Zl (bld_r (cs := #[.slice A42 (flat (es.take m)).length c42, .int .i64 ((flat (es.take m)).length : Nat)]) st_Log z_Log (by kernel_rfl))<|stN H 0 (#[.slice A42 (flat (es.take m)).length c42, .int .i64 ((flat (es.take m)).length : Nat)]) siz_Log rfl rfl rfl rfl rfl (by kernel_rfl) (by kernel_rfl) fun w6 H =>Zl (Wi rfl)<|Zn<|Zt ?_
 exact finCTn (cs0 := #[.slice A42 (flat (es.take m)).length c42, .int .i64 ((flat (es.take m)).length : Nat)]) (v1 := .int .i64 0) rfl agg_Log rfl (H.ent (i := 0) rfl) rfl rfl ⟨A42, c42, by unfold LogR.c; rw [show lsz (es.take m) m = (flat (es.take m)).length from by unfold lsz; rw [List.take_of_length_le (by rw [List.length_take]; omega)]], ⟨hgl.take m (by simp; omega), hc42, Rd.mono (H.fact (i := 0) rfl) hlo (H.facts _ (List.mem_of_getElem? (i := 0) rfl)).2.1⟩, H.below⟩
end Go.Proofs.Ytemnchkebhclpaa
end
