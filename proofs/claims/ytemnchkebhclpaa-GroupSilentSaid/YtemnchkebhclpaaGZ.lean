/- GZ: a part of the proofs over this seat: what stands in its theorems holds for every input that they name. -/
import Derived.Test.YtemnchkebhclpaaGY
import Derived.Test.YtemnchkebhclpaaGF
import Derived.Test.YtemnchkebhclpaaEngZ
open Go.Eng renaming lw_nil → Zn, cw_seq → Zs, cw_region → Zr, cw_skip → Zk, cw_ret → Zt, cw_block → Zb, cw_exit → Zx, mvI_r → Yi, mvB_r → Yb, mvS_r → Ys, mvP_r → Yp, mvT_r → Yt, mvU_r → Yu, mvA_r → Ya, asI_r → Wi, asB_r → Wb, asS_r → Ws, asP_r → Wp, asT_r → Wt, fad_r → Zf, exI_r → Xi, exA_r → Xa, exB_r → Xb, exS_r → Xs, pkTB_r → Kt, pkFB_r → Kf, cw_true → ZT, cw_false → ZF
section
namespace Go.Proofs.Ytemnchkebhclpaa
open Go Go.Eng Go.RowKit
theorem fn_slices_overlaps_api_Offset : Try.prog.funcs[(159 : Nat)]? = some Try.f159 := Try.func159
set_option maxHeartbeats 4000000 in
/-- slices.Insert of one element, into a row of the caller's own -/
theorem ins_LOffset_Offset {w0 w : World} {K M Lt : List (Nat × Obj)} {F : List Fact} {es : List Off} {x : Off} {i c vb : Nat} {A : Option Addr} (H : Hp w0 w (((vb, .cells (offL.f x).toArray 174 (0, 0)) :: K) ++ Lt ++ M) F) (ho : Own offL (.slice A es.length c) 174 es Lt) (hi : i ≤ es.length) (hb : (es.length + 1) * 16 ≤ 140737488355328) :
  Ret Try.prog i_slices_Insert_LOffset_Offset [.slice A es.length c, .int .i64 (i : Nat), .slice (some ⟨vb, 0, none⟩) ((1 : Nat)) 1] w fun v w2 => ∃ A' c' L', v = .slice A' (es.take i ++ [x] ++ es.drop i).length c' ∧ Own offL (.slice A' (es.take i ++ [x] ++ es.drop i).length c') 174 (es.take i ++ [x] ++ es.drop i) L' ∧ Hp w0 w2 (((vb, .cells (offL.f x).toArray 174 (0, 0)) :: K) ++ L' ++ M) F := by
 refine ret_of fn_slices_Insert_LOffset_Offset rfl rfl ?_
 show CW _ _ _ _ (args [.slice A es.length c, .int .i64 (i : Nat), .slice (some ⟨vb, 0, none⟩) ((1 : Nat)) 1]) w
 have hc0 : es.length ≤ c := by
  obtain ⟨_, c', he, hc, _⟩ := ho.form
  injection he with _ _ he
  omega
 have hxs : (offL.f x).length = offL.sz := offL.len x
 have hx1 : ∀ u ∈ offL.f x, u.oneCell' = true := fun u hu => offL.one x u hu
 have hsv : ∀ {w2 : World} {K2 : List (Nat × Obj)}, Hp w0 w2 ((vb, .cells (offL.f x).toArray 174 (0, 0)) :: K2) F → Src w2 (some ⟨vb, 0, none⟩) 1 offL.sz (offL.all [x]) := fun h => ⟨by rw [Lay.length]; rfl, fun _ => ⟨_, rfl, fun j u hj => by rw [all_one] at hj; rw [Addr.add_lit, Nat.zero_add]; exact cellE (h.ent (i := 0) rfl) (by simpa using hj)⟩⟩
 refine Zs<|Zr<|asS rfl rfl<|Zn<|Zs<|Zr<|mvS rfl rfl<|mvI rfl rfl<|sliLo sl_LOffset rfl rfl (by omega) (by omega) (by omega) rfl fun A12 hA12 =>Zn<|Zs<|Zr<|mvS rfl rfl<|lenS len_LOffset rfl rfl ?_
 refine asI rfl rfl<|Zn<|Zs<|Zs<|Zr<|mvI rfl rfl<|Zl (eqlF_r rfl rfl (by decide))<|Zn<|ZF rfl<|Zk<|Zs<|Zr<|mvS rfl rfl<|lenS len_LOffset rfl rfl ?_
 refine asI rfl rfl<|Zn<|Zs<|Zs<|Zr<|mvI rfl rfl<|mvI rfl rfl ?_
 refine eqlS rfl rfl rfl (fun h22 => ?_) (fun h22 => ?_)
 ·
  refine lw_nil ?_
  refine ZT rfl<|Zs<|Zr<|mvS rfl rfl<|mvS rfl rfl<|apO (Y := offL) (es := es) (news := [x]) ap_LOffset H ho rfl rfl rfl (hsv H) (by show (es.length + 1) * 16 ≤ _; omega) rfl fun A25 c25 w25 L25 h25 h25b ho25 H25 =>asS rfl rfl<|Zn<|Zt<|fin1 rfl rfl ?_
  have hi : i = es.length := by omega
  subst hi
  have he : es.take es.length ++ [x] ++ es.drop es.length = es ++ [x] := by rw [List.take_length, List.drop_length, List.append_nil]
  rw [he]
  exact ⟨A25, c25, L25, rfl, ho25, H25⟩
 refine Zn<|ZF rfl<|Zk ?_
 have hlt : i < es.length := by omega
 obtain ⟨g, cur, rfl, rfl, row⟩ := ho.row (by omega)
 have hgE : w.heap[g]? = some (.cells cur 174 (0, 0)) := H.ent (i := ((vb, .cells (offL.f x).toArray 174 (0, 0)) :: K : List (Nat × Obj)).length) (by simp)
 have hle := row.le
 have hmx := row.max
 have hlen := ins_len (x := x) (Nat.le_of_lt hlt)
 have hfit := row.fit hle
 have hif := row.fit (i := i) (by omega)
 have hdr : (offL.all (es.drop i)).length = (es.length - i) * offL.sz := by rw [Lay.length, List.length_drop]
 have hsm : (i + 1) * offL.sz + (es.length - i) * offL.sz = (es.length + 1) * offL.sz := by rw [← Nat.add_mul]; congr 1; omega
 have hi3 : (i + 1) * offL.sz = i * offL.sz + offL.sz := by rw [Nat.add_mul, Nat.one_mul]
 refine Zs<|Zs<|Zr<|mvI rfl rfl<|mvI rfl rfl<|add rfl rfl (by omega) (by omega) rfl<|mvS rfl rfl<|Zl (capS_r len_LOffset rfl) ?_
 refine gtrS rfl rfl rfl (fun h31 => ?_) (fun h31 => ?_)
 ·
  refine lw_nil ?_
  refine ZT rfl<|Zs<|Zr<|mvS rfl rfl<|mvI rfl rfl<|sliHi sl_LOffset rfl rfl (by omega) (by omega) rfl fun A34 hA34 => ?_
  obtain rfl := hA34 (by omega)
  refine mvI rfl rfl<|mvI rfl rfl<|add rfl rfl (by omega) (by omega) rfl<|mvI rfl rfl<|sub rfl rfl (by omega) (by omega) rfl ?_
  refine apG (m := es.length + 1 - i) ap_LOffset int_int H rfl (kd := .i64) (show _ = Value.int _ _ from congrArg (Value.int _) (show ((es.length : Int) + ((1 : Nat) : Int)) - (i : Nat) = ((es.length + 1 - i : Nat) : Int) by omega)) (olds := offL.all (es.take i)) (by rw [Lay.length, List.length_take, Nat.min_eq_left (by omega)]; rfl) (fun j u hj => by rw [Addr.add_lit, Nat.zero_add]; rw [← row.pre (by omega), List.getElem?_take] at hj; split at hj; exact cellE hgE (by simpa using hj); cases hj) (by omega) (by omega) (by show (((i : Nat) : Int).toNat + (es.length + 1 - i)) * 16 ≤ _; omega) rfl ?_
  intro w1 g2 c2 cur2 hs2 hge2 hmx2 hp2 H
  have hs2' : cur2.size = c2 * offL.sz := hs2
  have hc2 : (es.length + 1) * offL.sz ≤ cur2.size := by rw [hs2']; exact Nat.mul_le_mul_right _ (by omega)
  have hg2 : (lay cur2 (i * offL.sz) (offL.f x)).size = cur2.size := lay_size (by rw [hxs]; omega)
  refine asS rfl rfl<|Zn<|Zs<|Zr<|mvS rfl rfl<|mvI rfl rfl<|sliLo sl_LOffset rfl rfl (by omega) (by omega) (by omega) rfl fun A43 hA43 =>mvS rfl rfl ?_
  have hsrc := hsv (H.perm (List.Perm.swap _ _ _))
  refine cpW (K := []) (m := 1) (o := i * offL.sz) sl_LOffset H rfl rfl (min_l rfl (by omega)) (fun _ => From.at0 hA43 (by omega)) hsrc (by rw [all_one]; exact hx1) (by rw [all_one, hxs]; omega) rfl ?_
  rw [all_one]
  intro w2 H
  refine Zn<|Zs ?_
  refine cw_draw mixed [0, 1, 2, 3, 4, 5, 6, 7] [8] [] [0, 1, 2, 3, 4, 5, 6, 7] (sp []) (by kernel_rfl) (by kernel_rfl) (by kernel_rfl) (by kernel_rfl) (fun _ _ _ h => h) (sp_st _) ?_
  refine aw rfl rfl rfl rfl rfl (fun _ _ => mv_r rfl)<|aw rfl rfl rfl rfl rfl (fun _ _ => mv_r rfl)<|aw rfl rfl rfl rfl rfl (fun _ _ => mv_r rfl)<|aw rfl rfl rfl rfl rfl (fun _ _ => add_r rfl rfl (by omega) (by omega))<|aw rfl rfl rfl rfl rfl (fun _ _ => sliLo_r sl_LOffset rfl rfl (by omega) (by omega))<|aw rfl rfl rfl rfl rfl (fun _ _ => mv_r rfl)<|aw rfl rfl rfl rfl rfl (fun _ _ => mv_r rfl)<|aw rfl rfl rfl rfl rfl (fun _ _ => sliLo_r sl_LOffset rfl rfl (by omega) (by omega))<|aw_nil ?_
  intro w' hw' _; replace H := H.later hw'; clear hw'
  have hgE2 : w'.heap[g]? = some (.cells cur 174 (0, 0)) := (H.ents (g, .cells cur 174 (0, 0)) (by simp)).1
  refine cpW (K := []) (m := es.length - i) (o := (i + 1) * offL.sz) sl_LOffset H rfl rfl (min_l (by omega) (by omega)) (fun _ => cut_at (by omega)) (row.srcFrom hgE2 (by omega) (cut_from (Nat.le_refl _)) (by omega)) (Lay.all_one _) (by rw [hdr, hg2]; omega) rfl ?_
  intro w3 H
  refine Zn<|Zs<|Zr<|mvS rfl rfl<|asS rfl rfl<|Zn<|Zt<|fin1 rfl rfl ?_
  exact ⟨some ⟨g2, 0, none⟩, c2, _, by rw [hlen]; show Value.slice _ (((i : Nat) : Int).toNat + (es.length + 1 - i)) _ = _; congr 1; omega, Row.own (Row.insNew hs2' hmx2 hp2 (Nat.le_of_lt hlt) (by omega)), H.swapRow⟩
 refine Zn<|ZF rfl<|Zk ?_
 have hroom : es.length + 1 ≤ c := by omega
 have hfr := row.fit hroom
 refine Zs<|Zr<|mvS rfl rfl<|mvI rfl rfl<|mvI rfl rfl<|add rfl rfl (by omega) (by omega) rfl<|sliHi sl_LOffset rfl rfl (by omega) (by omega) rfl fun A60 hA60 => ?_
 obtain rfl := hA60 (by omega)
 refine asS rfl rfl<|Zn<|Zs<|Zs<|Zr<|mvS rfl rfl<|mvS rfl rfl<|mvI rfl rfl<|mvI rfl rfl<|add rfl rfl (by omega) (by omega) rfl<|sliLo sl_LOffset rfl rfl (by omega) (by omega) (by omega) rfl fun A66 hA66 => ?_
 have hA := From.at0 hA66 (by omega)
 have hvE : w.heap[vb]? = some (.cells (offL.f x).toArray 174 (0, 0)) := H.ent (i := 0) rfl
 have hne : vb ≠ g := fun he => by
  have := H.nodup
  simp only [List.map_append, List.map_cons, List.cons_append, List.nodup_cons, List.mem_append] at this
  exact this.1 (.inl (.inr (by rw [he]; exact List.mem_cons_self)))
 have hov : ∀ lb cb, (callFunc i_slices_overlaps_api_Offset #[.slice (some ⟨vb, 0, none⟩) 1 1, .slice A66 lb cb]).run Try.prog w = .ok (.value (.bool false)) w := fun lb cb => by
  rw [hA, run_callFunc_extern fn_slices_overlaps_api_Offset (by kernel_rfl) (by kernel_rfl) (by kernel_rfl) (e := Extern.SlicesOverlaps.overlaps #[83, 83] #[4]) (by kernel_rfl),
   Lib.run_overlaps_apart w 83 4 174 (slice_of sl_LOffset).1 offL.sz (by obtain ⟨_, j, h1, h2⟩ := slice_of sl_LOffset; exact fun w => by rw [run_size h1, h2]; rfl) ⟨vb, 0, none⟩ _ 1 1 lb cb hne 174 174 (offL.f x).length cur.size (by simp [World.shape?, hvE]) (by simp [World.shape?, hgE]) (by have := offL.pos; have := row.fit (i := 1) (by omega); omega) (by simp [World.frozen?, hvE]) (by simp [World.frozen?, hvE])]
  rfl
 refine calR (hov _ _) rfl rfl<|not rfl rfl<|Zn<|ZT rfl<|Zs ?_
 refine cw_draw mixed [0, 1, 2, 3, 4, 5, 6, 7] [8] [] [0, 1, 2, 3, 4, 5, 6, 7] (sp []) (by kernel_rfl) (by kernel_rfl) (by kernel_rfl) (by kernel_rfl) (fun _ _ _ h => h) (sp_st _) ?_
 refine aw rfl rfl rfl rfl rfl (fun _ _ => mv_r rfl)<|aw rfl rfl rfl rfl rfl (fun _ _ => mv_r rfl)<|aw rfl rfl rfl rfl rfl (fun _ _ => mv_r rfl)<|aw rfl rfl rfl rfl rfl (fun _ _ => add_r rfl rfl (by omega) (by omega))<|aw rfl rfl rfl rfl rfl (fun _ _ => sliLo_r sl_LOffset rfl rfl (by omega) (by omega))<|aw rfl rfl rfl rfl rfl (fun _ _ => mv_r rfl)<|aw rfl rfl rfl rfl rfl (fun _ _ => mv_r rfl)<|aw rfl rfl rfl rfl rfl (fun _ _ => sliLo_r sl_LOffset rfl rfl (by omega) (by omega))<|aw_nil ?_
 intro w' hw' _; replace H := H.later hw'; clear hw'
 have hgE2 : w'.heap[g]? = some (.cells cur 174 (0, 0)) := (H.ents (g, .cells cur 174 (0, 0)) (by simp)).1
 have hz1 : (lay cur ((i + 1) * offL.sz) (offL.all (es.drop i))).size = cur.size := lay_size (by rw [hdr]; omega)
 refine cpW (m := es.length - i) (o := (i + 1) * offL.sz) sl_LOffset H rfl rfl (min_r (by omega) (by omega)) (fun _ => cut_at (by omega)) (row.srcFrom hgE2 (by omega) (cut_from (Nat.le_refl _)) (by omega)) (Lay.all_one _) (by rw [hdr]; omega) rfl ?_
 intro w2 H
 refine Zn<|Zs<|Zr<|mvS rfl rfl<|mvI rfl rfl<|sliLo sl_LOffset rfl rfl (by omega) (by omega) (by omega) rfl fun A80 hA80 =>mvS rfl rfl ?_
 have hsrc := hsv H
 refine cpW (m := 1) (o := i * offL.sz) sl_LOffset H rfl rfl (min_l rfl (by omega)) (fun _ => From.at0 hA80 (by omega)) hsrc (by rw [all_one]; exact hx1) (by rw [all_one, hxs, hz1]; omega) rfl ?_
 rw [all_one]
 intro w3 H
 refine Zn<|Zs<|Zr<|mvS rfl rfl<|asS rfl rfl<|Zn<|Zt<|fin1 rfl rfl ?_
 exact ⟨some ⟨g, 0, none⟩, c, _, by rw [hlen]; show Value.slice _ ((es.length : Int) + ((1 : Nat) : Int)).toNat _ = _; congr 1, Row.own (row.insIn (Nat.le_of_lt hlt) hroom), H⟩

set_option maxHeartbeats 4000000 in
/-- slices.Delete, from a row of the caller's own -/
theorem del_LMember_Member {w0 w : World} {K M Lt : List (Nat × Obj)} {F : List Fact} {es : List Mem} {i j c : Nat} {A : Option Addr} (H : Hp w0 w (K ++ Lt ++ M) F) (ho : Own memL (.slice A es.length c) 91 es Lt) (hij : i ≤ j) (hj : j ≤ es.length) (hb : es.length * 48 ≤ 140737488355328) :
  Ret Try.prog i_slices_Delete_LMember_Member [.slice A es.length c, .int .i64 (i : Nat), .int .i64 (j : Nat)] w fun v w2 => ∃ A' c' L', v = .slice A' (es.take i ++ es.drop j).length c' ∧ Own memL (.slice A' (es.take i ++ es.drop j).length c') 91 (es.take i ++ es.drop j) L' ∧ Hp w0 w2 (K ++ L' ++ M) F := by
 refine ret_of fn_slices_Delete_LMember_Member rfl rfl ?_
 show CW _ _ _ _ (args [.slice A es.length c, .int .i64 (i : Nat), .int .i64 (j : Nat)]) w
 have hc0 : es.length ≤ c := by
  obtain ⟨_, c', he, hc, _⟩ := ho.form
  injection he with _ _ he
  omega
 refine Zs<|Zr<|asS rfl rfl<|Zn<|Zs<|Zr<|mvS rfl rfl<|mvI rfl rfl<|mvI rfl rfl<|mvS rfl rfl<|lenS len_LMember rfl rfl<|sli3 sl_LMember rfl rfl rfl rfl ⟨by omega, by omega⟩ (by omega) (by omega) rfl fun A13 l13 c13 =>Zn<|Zs ?_
 refine Zs<|Zr<|mvI rfl rfl<|mvI rfl rfl ?_
 refine eqlS rfl rfl rfl (fun h16 => ?_) (fun h16 => ?_)
 ·
  refine lw_nil ?_
  refine ZT rfl<|Zs<|Zr<|mvS rfl rfl<|asS rfl rfl<|Zn<|Zt<|fin1 rfl rfl ?_
  have hij : i = j := by omega
  subst hij
  rw [List.take_append_drop]
  exact ⟨A, c, Lt, rfl, ho, H⟩
 refine Zn<|ZF rfl<|Zk ?_
 have hlt : i < j := by omega
 obtain ⟨g, cur, rfl, rfl, row⟩ := ho.row (by omega)
 have hle := row.le
 have hmx := row.max
 have hlen := del_len hij hj
 have hfit := row.fit hle
 have hif := row.fit (i := i) (by omega)
 have hdr : (memL.all (es.drop j)).length = (es.length - j) * memL.sz := by rw [Lay.length, List.length_drop]
 refine Zs<|Zr<|mvS rfl rfl<|lenS len_LMember rfl rfl<|asI rfl rfl<|Zn<|Zs ?_
 refine cw_draw mixed [0, 1, 2, 3, 4, 5] [6, 7] [] [0, 1, 2, 3, 4, 5] (sp []) (by kernel_rfl) (by kernel_rfl) (by kernel_rfl) (by kernel_rfl) (fun _ _ _ h => h) (sp_st _) ?_
 refine aw rfl rfl rfl rfl rfl (fun _ _ => mv_r rfl)<|aw rfl rfl rfl rfl rfl (fun _ _ => mv_r rfl)<|aw rfl rfl rfl rfl rfl (fun _ _ => sliHi_r sl_LMember rfl rfl (by omega) (by omega))<|aw rfl rfl rfl rfl rfl (fun _ _ => mv_r rfl)<|aw rfl rfl rfl rfl rfl (fun _ _ => mv_r rfl)<|aw rfl rfl rfl rfl rfl (fun _ _ => sliLo_r sl_LMember rfl rfl (by omega) (by omega))<|aw_nil ?_
 intro w' hw' _; replace H := H.later hw'; clear hw'
 have hgE2 : w'.heap[g]? = some (.cells cur 91 (0, 0)) := (H.ents (g, .cells cur 91 (0, 0)) (by simp)).1
 have hs1 : i * memL.sz + (memL.all (es.drop j)).length = (i + (es.length - j)) * memL.sz := by rw [hdr, ← Nat.add_mul]
 have hs2 := row.fit (i := i + (es.length - j)) (by omega)
 have hz1 : (lay cur (i * memL.sz) (memL.all (es.drop j))).size = cur.size := lay_size (by omega)
 refine apR (k := i) (c := c) (m := es.length - j) sl_LMember H (show _ = Value.slice _ _ _ by show Value.slice (cut _ c 0 _) _ _ = _; rw [cut_at (by omega), Nat.zero_mul]; rfl) rfl (row.srcFrom hgE2 hj (cut_from hc0) (by omega)) (Lay.all_one _) (by omega) (by show i * memL.sz + _ ≤ _; omega) rfl ?_
 intro w1 H
 replace H : Hp w0 w1 (K ++ [(g, .cells (lay cur (i * memL.sz) (memL.all (es.drop j))) 91 (0, 0))] ++ M) F := H
 refine asS rfl rfl<|Zn<|Zs<|Zr<|mvS rfl rfl<|mvS rfl rfl<|lenS len_LMember rfl rfl<|mvI rfl rfl<|sliLH sl_LMember rfl rfl rfl (by omega) (by omega) (by omega) rfl fun A31 hA31 => ?_
 have hzc : (((es.length : Nat) : Int).toNat - ((i + (es.length - j) : Nat) : Int).toNat) * memL.sz + (i + (es.length - j)) * memL.sz = es.length * memL.sz := by rw [← Nat.add_mul]; congr 1; omega
 refine clW (o := (i + (es.length - j)) * memL.sz) (z := .agg #[.string ⟨#[]⟩, .int .i64 0, .slice none 0 0]) sl_LMember (by kernel_rfl) rfl rfl H rfl (fun _ => From.at0 hA31 (by omega)) (by rw [hz1]; show _ + (((es.length : Nat) : Int).toNat - ((i + (es.length - j) : Nat) : Int).toNat) * memL.sz ≤ _; omega) ?_
 intro w2 H
 refine Zn<|Zs<|Zr<|mvS rfl rfl<|asS rfl rfl<|Zn<|Zt<|fin1 rfl rfl ?_
 have hzl : ∀ m, (Builtin.zeroCells (Value.cells (.agg #[.string ⟨#[]⟩, .int .i64 0, .slice none 0 0])) m).toList.length = m * memL.sz := fun m => by rw [Array.length_toList, size_zeroCells]; rfl
 have hr := row.del hij hj (Nat.le_refl ((i + (es.length - j)) * memL.sz)) (zs := (Builtin.zeroCells (Value.cells (.agg #[.string ⟨#[]⟩, .int .i64 0, .slice none 0 0])) (((es.length : Nat) : Int).toNat - ((i + (es.length - j) : Nat) : Int).toNat)).toList) (by
  rw [hzl]
  show _ + (((es.length : Nat) : Int).toNat - ((i + (es.length - j) : Nat) : Int).toNat) * memL.sz ≤ _
  omega)
 exact ⟨some ⟨g, 0, none⟩, c, _, by rw [hlen]; rfl, Row.own hr, H⟩

end Go.Proofs.Ytemnchkebhclpaa
end

section
namespace Go.Proofs.Ytemnchkebhclpaa
open Go Go.Eng Go.RowKit
set_option linter.unusedSimpArgs false
theorem first_of {α : Type} {l : List α} {pred : α → Bool} {ix : Option Nat} (h : l.findIdx? pred = ix) (hne : idxI ix ≠ -1) : ∃ (k : Nat) (x : α), ix = some k ∧ k < l.length ∧ l[k]? = some x ∧ pred x = true ∧ (l.take k).filter (fun m => !pred m) = l.take k := by
 cases ix with
 | none => exact absurd rfl hne
 | some k =>
  obtain ⟨hl, h1, h2⟩ := List.findIdx?_eq_some_iff_getElem.1 h
  refine ⟨k, _, rfl, hl, List.getElem?_eq_getElem hl, h1, ?_⟩
  rw [List.filter_eq_self]
  intro m hm
  obtain ⟨j, hj⟩ := List.mem_iff_getElem?.1 hm
  rw [List.getElem?_take] at hj
  split at hj
  ·
   rename_i hjk
   obtain ⟨hjl, rfl⟩ := getE hj
   have := h2 j hjk
   simpa using this
  ·
   cases hj
theorem none_of {α : Type} {l : List α} {pred : α → Bool} {ix : Option Nat} (h : l.findIdx? pred = ix) (hne : idxI ix = -1) : (l.filter fun m => !pred m) = l := by
 cases ix with
 | none =>
  rw [List.findIdx?_eq_none_iff] at h
  rw [List.filter_eq_self]
  intro m hm
  simp [h m hm]
 | some k => simp [idxI] at hne
set_option maxHeartbeats 4000000 in
set_option maxRecDepth 10000 in
theorem delF_ok {w0 w : World} {M : List (Nat × Obj)} {F : List Fact} {g n : Nat} {u : Array Value} (ms : List Mem) (c : Nat) (H : Hp w0 w ((g, .cells u T_Member (0, 0)) :: M) F) (row : Row memL ms c u) (hn : n = ms.length) (hm12 : ms.length ≤ 1000) {f : FuncId} {cap : List Value} (hf : callB Try.prog f = true) (pred : Mem → Bool)
  (hp : ∀ e ∈ ms, ∀ (w' : World) (u' : Array Value), Hp w0 w' ((g, .cells u' T_Member (0, 0)) :: M) F → Ret Try.prog f (.agg e.c.toArray :: cap) w' fun v w2 => v = .bool (pred e) ∧ Below w'.heap.size w' w2) :
  Ret Try.prog i_slices_DeleteFunc_LMember_Member [.slice (some ⟨g, 0, none⟩) n c, .func (.func f) #[] cap.toArray] w fun v w2 => ∃ u2, v = .slice (some ⟨g, 0, none⟩) (ms.filter fun m => !pred m).length c ∧ Row memL (ms.filter fun m => !pred m) c u2 ∧ Hp w0 w2 ((g, .cells u2 T_Member (0, 0)) :: M) F := by
 refine ret_of fn_slices_DeleteFunc_LMember_Member rfl rfl ?_
 have hle := row.le
 refine Zs<|Zr<|Zl (Ws rfl)<|Zn<|Zs<|Zr<|Zl (Ys rfl)<|Zl (mvF_r rfl)<|cal cb_slices_IndexFunc_LMember_Member (by subst hn; exact indexFunc_Member_ok ms _ c _ (row.rd0 (H.ent (i := 0) rfl)) (by omega) f cap hf pred (fun e w2 he hb => hp e he w2 u (H.later hb))) rfl rfl ?_
 rintro _ w1 ⟨rfl, hb⟩; replace H := H.later hb; clear hb
 obtain ⟨ix, hix⟩ : ∃ i, ms.findIdx? pred = i := ⟨_, rfl⟩
 rw [hix]
 refine Zl (Wi rfl)<|Zn<|Zs<|Zs<|Zr<|Zl (Yi rfl) ?_
 refine lwD (eql_r rfl rfl) rfl rfl rfl (fun h12 => ?_) (fun h12 => ?_)
 ·
  have hall := none_of hix (by omega)
  refine Zn<|ZT rfl<|Zs<|Zr<|Zl (Ys rfl)<|Zl (Ws rfl)<|Zn<|Zt ?_
  exact fin1 (v := .slice (some ⟨g, 0, none⟩) n c) rfl rfl ⟨u, by rw [hall, hn], by rw [hall]; exact row, H⟩
 ·
  refine Zn<|ZF rfl<|Zk<|Zs<|Zs ?_
  obtain ⟨k0, x0, rfl, hk0l, hk0, hk0p, hkn⟩ := first_of hix (by omega)
  refine Zr<|Zl (Yi rfl)<|Zl (add_r (a := ((k0 : Nat) : Int)) rfl rfl (by omega) (by omega))<|Zl (Wi rfl)<|Zn<|Zb ?_
  refine cw_loop (τ := Nat × Nat × List Mem × Array Value) [5, 6, 7, 16, 17, 18, 19, 20, 21, 22, 23, 24, 25, 26, 27, 28, 29, 30, 31, 32, 33, 34, 35] (fun (j, i, _, _) => [(6, .int .i64 (j : Nat)), (5, .int .i64 (i : Nat))]) (fun (j, i, m, u1) w' => j ≤ n ∧ i < j ∧ m.length = n ∧ m.drop j = ms.drop j ∧ m.take i = (ms.take j).filter (fun m => !pred m) ∧ Row memL m c u1 ∧ Hp w0 w' ((g, .cells u1 T_Member (0, 0)) :: M) F) (fun (j, _, _, _) => n - j) (k0 + 1, k0, ms, u) ⟨by omega, by omega, hn.symm, rfl, by rw [take_snoc hk0, List.filter_append, hkn]; simp [hk0p], row, H⟩ (sl2 rfl rfl) ?_
  rintro ⟨j, i, m, u1⟩ ρ1 w2 ⟨hjn, hij, hml, hdr, htk, row2, H⟩
  show CW _ _ _ _ (updL (ovr _ _ ρ1) [(6, .int .i64 (j : Nat)), (5, .int .i64 (i : Nat))]) w2
  refine Zs<|Zs<|Zr<|Zl (Yi rfl)<|Zl (Ys rfl)<|Zl (lenS_r len_LMember rfl) ?_
  refine lwD (lss_r rfl rfl) rfl rfl rfl (fun h19 => ?_) (fun h19 => ?_)
  ·
   obtain ⟨y, hy⟩ : ∃ y, m[j]? = some y := ⟨_, List.getElem?_eq_getElem (by omega)⟩
   have hyt := drop_at hdr hy
   have hmy := List.mem_of_getElem? hyt
   refine Zn<|ZT rfl<|Zk<|Zs<|Zb<|Zs<|Zr<|Zl (Ys rfl)<|Zl (Yi rfl)<|Zl (ixR_r sl_LMember rfl rfl (by first | omega | (simp only [List.length_set]; omega)))<|Zl (ldRA_r agg_Member row2 hy rfl rfl (H.ent (i := 0) rfl))<|alo H z_Member rfl fun w3 b7 H =>stN H 0 (#[.string (y.name), .int .i64 (y.heard), .slice y.A y.parts.length y.cap]) siz_Member rfl rfl rfl rfl rfl (by kernel_rfl) (by kernel_rfl) fun w4 H =>Zn ?_
   refine Zs<|Zr<|Zl (mvF_r rfl)<|Zl (Zw agg_Member H 0 rfl rfl rfl) ?_
   refine calF hf rfl (hp y hmy _ _ (H.forget (.cons _ (List.Sublist.refl _)) (fun _ h => h))) rfl rfl ?_; rintro _ w5 ⟨rfl, hb2⟩; replace H := H.later hb2; clear hb2
   refine Zl (not_r rfl)<|Zn ?_
   refine cw_if rfl (fun hc29 => ?_) (fun hc29 => ?_)
   ·
    refine Zs<|Zr<|Zl (Ys rfl)<|Zl (Yi rfl)<|Zl (Zw agg_Member H 0 rfl rfl rfl)<|Zl (ixR_r sl_LMember rfl rfl (by first | omega | (simp only [List.length_set]; omega))) ?_
    obtain ⟨x33, hx33⟩ : ∃ x, m[i]? = some x := ⟨_, List.getElem?_eq_getElem (by first | omega | (simp only [List.length_set]; omega))⟩
    refine stR H 1 (y) siz_Member row2 hx33 0 rfl rfl rfl rfl rfl rfl (by kernel_rfl) fun w7 cur6 row6 H => ?_
    have hs8 : (m.set i (y))[i]? = some (y) := List.getElem?_set_self (getE hx33).1
    refine Zn<|Zr<|Zl (Yi rfl)<|Zl (add_r rfl rfl (by omega) (by omega))<|Zl (Wi rfl)<|Zn<|Zr<|Zl (Yi rfl)<|Zl (add_r rfl rfl (by omega) (by omega))<|Zl (Wi rfl)<|Zn ?_
    exact ⟨(j + 1, i + 1, m.set i y, _), ⟨by omega, by omega, by simp [hml], by rw [List.drop_set_of_lt (by omega)]; exact drop_more2 hdr (by omega), by rw [take_set2 (by omega), htk, take_snoc hyt, List.filter_append, List.filter_cons_of_pos (by simpa using hc29)]; rfl, row6, H.forget (.cons _ (List.Sublist.refl _)) (fun _ h => h)⟩, sl2 rfl rfl, by repeat (first | exact Agr.refl _ _ | exact agr_ovr | refine agr_upd rfl ?_ | refine agr_updL _ rfl ?_ | refine agr_ovr2 rfl ?_), by show n - (j + 1) < n - j; omega⟩
   ·
    refine Zk<|Zr<|Zl (Yi rfl)<|Zl (add_r rfl rfl (by omega) (by omega))<|Zl (Wi rfl)<|Zn ?_
    exact ⟨(j + 1, i, m, u1), ⟨by omega, by omega, hml, drop_more2 hdr (by omega), by rw [htk, take_snoc hyt, List.filter_append, List.filter_cons_of_neg (by simpa using hc29)]; simp, row2, H.forget (.cons _ (List.Sublist.refl _)) (fun _ h => h)⟩, sl2 rfl rfl, by repeat (first | exact Agr.refl _ _ | exact agr_ovr | refine agr_upd rfl ?_ | refine agr_updL _ rfl ?_ | refine agr_ovr2 rfl ?_), by show n - (j + 1) < n - j; omega⟩
  ·
   refine Zn<|ZF rfl<|Zx<|Zs<|Zr<|Zl (Ys rfl)<|Zl (Yi rfl)<|sliLo (A := some ⟨g, 0, none⟩) (len := n) (cap := c) (i := ((i : Nat) : Int)) sl_LMember rfl rfl (by omega) (by omega) (by omega) rfl fun A38 hA38 => ?_
   obtain rfl := From.at0 hA38 (show i < n by omega)
   show LW _ _ _ _ _ (upd _ _ (.slice (some ⟨g, i * 3, none⟩) (n - i) (c - i))) _
   have hsz := row2.size
   have hzl : (Builtin.zeroCells (Value.cells (.agg #[.string ⟨#[]⟩, .int .i64 0, .slice none 0 0])) (n - i)).toList.length = (n - i) * 3 := by rw [Array.length_toList, size_zeroCells]; rfl
   refine clW (K := []) (M := M) (o := i * 3) (z := .agg #[.string ⟨#[]⟩, .int .i64 0, .slice none 0 0]) sl_LMember (by kernel_rfl) rfl rfl H rfl (fun _ => rfl) (by rw [hsz]; show i * 3 + (n - i) * 3 ≤ c * 3; omega) fun w9 H => ?_
   have row3 := Row.clr row2 (k := i) (o := i * 3) (zs := (Builtin.zeroCells (Value.cells (.agg #[.string ⟨#[]⟩, .int .i64 0, .slice none 0 0])) (n - i)).toList) (by omega) (Nat.le_refl _) (by rw [hzl, hsz]; show i * 3 + (n - i) * 3 ≤ c * 3; omega)
   refine Zn<|Zs<|Zr<|Zl (Ys rfl)<|Zl (Yi rfl)<|sliHi (A := some ⟨g, 0, none⟩) (len := n) (cap := c) (i := ((i : Nat) : Int)) sl_LMember rfl rfl (by omega) (by omega) rfl fun A41 hA41 => ?_
   obtain rfl := hA41 (by omega)
   show LW _ _ _ _ _ (upd _ _ (.slice (some ⟨g, 0, none⟩) i c)) _
   refine Zl (Ws rfl)<|Zn<|Zt ?_
   have hfin : m.take i = ms.filter (fun m => !pred m) := by rw [htk, show j = ms.length by omega, List.take_length]
   have hfl : i = (ms.filter fun m => !pred m).length := by rw [← hfin, List.length_take]; omega
   exact fin1 (v := .slice (some ⟨g, 0, none⟩) i c) rfl rfl ⟨_, by rw [← hfl], hfin ▸ row3, H⟩
end Go.Proofs.Ytemnchkebhclpaa
end

section
namespace Go.Proofs.Ytemnchkebhclpaa
open Go Go.Eng Go.RowKit
set_option linter.unusedSimpArgs false
theorem perm_front {β : Type} (X A C : List β) : (X ++ A ++ C).Perm (A ++ (X ++ C)) := by
 rw [List.append_assoc]
 exact List.perm_append_comm_assoc X A C
theorem mem_a_name (l : List Mem) : (l.map Mem.a).map Mem.name = l.map Mem.name := by rw [List.map_map]; rfl
theorem asgM_a (ms : List Mem) (p : Nat) : (asgM ms p).map Mem.a = asgM (ms.map Mem.a) p := by
 unfold asgM
 rw [mem_a_name, List.map_zipWith, List.zipWith_map_left]
 rfl
theorem asgM_len (ms : List Mem) (p : Nat) : (asgM ms p).length = ms.length := by
 unfold asgM
 rw [List.length_zipWith, assignL_len, List.length_map]; omega
theorem asgM_parts {ms : List Mem} {p : Nat} {m : Mem} (h : m ∈ asgM ms p) : ∃ i, m.parts = partsTo (ms.map Mem.name) p i := by
 obtain ⟨i, hi⟩ := List.mem_iff_getElem?.1 h
 have hl := (getE hi).1
 rw [asgM_len] at hl
 obtain ⟨x, hx⟩ : ∃ x, ms[i]? = some x := ⟨_, List.getElem?_eq_getElem hl⟩
 have hp : (assignL (ms.map Mem.name) p)[i]? = some (partsTo (ms.map Mem.name) p i) := by
  unfold assignL
  rw [List.getElem?_map, List.length_map, List.getElem?_range hl]; rfl
 rw [asg_at hx hp] at hi
 injection hi with hi
 exact ⟨i, by rw [← hi]⟩
/-- all parts are assigned anew -/
def asgG (g : Gr) (p : Nat) : Gr := { g with gen := g.gen + 1, ms := asgM g.ms p }
def newM (s : ByteArray) (ck : Int) : Mem := ⟨s, ck, [], none, 0, 0, 0⟩
/-- a group whose parts were assigned anew, to be read -/
theorem asg_new {w w2 : World} {ck wt gn : Int} {ms' l : List Mem} {mA oA : Option Addr} {mC oC p : Nat} {os : List Off} {Lm Lo : List (Nat × Obj)} (ha : ms'.map Mem.a = asgM (l.map Mem.a) p) (hl : l.length ≤ 6) (hp : p ≤ 4) (hol : os.length ≤ 4) (ho : Own memL (.slice mA ms'.length mC) T_Member ms' Lm) (hoo : Own offL (.slice oA os.length oC) T_Offset os Lo) (hoc : os.length ≤ oC) (hc : ∀ m ∈ ms', m.parts.length ≤ m.cap ∧ w.heap.size ≤ m.lo) (H : Hp w w2 (Lm ++ Lo) (ms'.map memF)) : NewGr w w2 ⟨ck, wt, gn, ms', mA, mC, os, oA, oC⟩ := by
 have hml : ms'.length = l.length := by have := congrArg List.length ha; rw [asgM_len] at this; simpa using this
 have hmc : ms'.length ≤ mC := by
  obtain ⟨_, c, e, h, _⟩ := ho.form
  injection e with _ _ e
  rw [e]; exact h
 refine OwnGr.new (ga := Gr.a ⟨ck, wt, gn, ms', mA, mC, os, oA, oC⟩) ⟨rfl, ho, hoo, hmc, hoc, hc, H⟩ (by dsimp only; omega) (by dsimp only; omega) fun m hm => ?_
 have h1 : m.a ∈ asgM (l.map Mem.a) p := ha ▸ List.mem_map_of_mem hm
 obtain ⟨i, hi⟩ := asgM_parts h1
 have h2 : m.parts = partsTo ((l.map Mem.a).map Mem.name) p i := hi
 rw [h2]
 have := partsTo_len ((l.map Mem.a).map Mem.name) p i
 omega
set_option maxHeartbeats 4000000 in
set_option maxRecDepth 10000 in
theorem join_twice (g : Gr) (s : ByteArray) (p : Nat) (w : World) (h : g.rd 0 w.heap.size w) (hok : grOk g = true) (hn : nameOk s = true) (hp : p ≤ 4) (hg1 : g.gen < 1073741824) (i : Nat) (hi : gIdx g s = i) : Ret Try.prog i_group_Join [g.v, .string s, .int .i64 (p : Nat)] w fun v w2 => v = .tuple #[.agg #[.int .i64 0, .int .i64 0, .int .i64 0, .slice none 0 0, .slice none 0 0], .int .i64 6] ∧ Below w.heap.size w w2 := by
 refine ret_of fn_group_Join rfl rfl ?_
 have hmC := h.mC
 have hoC := h.oC
 have hfew := h.few
 have hfp := h.fewP
 have H := Hp.startGr h
 obtain ⟨ck, wt, gn, ms, mA, mC, os, oA, oC⟩ := g
 dsimp only at hmC hoC hfew hfp H
 show CW _ _ _ _ (args [.agg #[.int .i64 (ck), .int .i64 (wt), .int .i64 (gn), .slice mA ms.length mC, .slice oA os.length oC], .string (s), .int .i64 (((p : Nat) : Int))]) w
 obtain ⟨⟨⟨k1, k2⟩, k3, k4, ⟨k5, k6⟩, k7, k8⟩, ⟨hmo, hap⟩, hof, hor⟩ := grOk_iff2.1 hok
 dsimp only at k1 k2 k3 k4 k5 k6 k7 k8 hg1
 refine Zs<|Zr<|bxA H rfl rfl fun w1 b3 H =>alo H z_Group rfl fun w2 b6 H =>Zl (Wi rfl)<|Zn<|Zs<|Zr<|Zl (Zw agg_Group H 1 rfl rfl rfl)<|Zl (Yt rfl)<|cal cb_group_find (gfind_ok ⟨ck, wt, gn, ms, mA, mC, os, oA, oC⟩ s _ ⟨H.rd0 0 rfl, fun m hm => mp0 H 1 rfl hm, H.rd0 2 rfl, hmC, hoC, hfew, hfp⟩ hok hn) rfl rfl ?_
 rintro _ w3 ⟨⟨ck2, wt2, gn2, ms2, mA2, mC2, os2, oA2, oC2⟩, Lm, Lo, rfl, ha2, ho2, hoo2, hmc2, hoc2, hpc2, hj2⟩
 have hlo2 := H.size
 replace H := Hp.joinG H hj2 (fun m hm => (hpc2 m hm).2); clear hj2
 simp only [Gr.a, Gr.mk.injEq] at ha2
 obtain ⟨e1, e2, e3, hma, -, -, e4, -, -⟩ := ha2
 obtain rfl : ck = ck2 := e1.symm
 obtain rfl : wt = wt2 := e2.symm
 obtain rfl : gn = gn2 := e3.symm
 obtain rfl : os = os2 := e4.symm
 dsimp only at ho2 hoo2 hmc2 hoc2 hpc2 H
 replace hpc2 : ∀ m ∈ ms2, m.parts.length ≤ m.cap ∧ w.heap.size ≤ m.lo := fun m hm => ⟨(hpc2 m hm).1, Nat.le_trans hlo2 (hpc2 m hm).2⟩
 have hml2 : ms2.length = ms.length := by have := congrArg List.length hma; simpa using this
 rw [hi]
 refine Zl (Yu rfl)<|Zl (Xa rfl rfl)<|Zl (Xi rfl rfl)<|Zl (Xi rfl rfl)<|stN H 1 (#[.int .i64 (ck), .int .i64 (wt), .int .i64 (gn), .slice mA2 ms2.length mC2, .slice oA2 os.length oC2]) siz_Group rfl rfl rfl rfl rfl (by kernel_rfl) (by kernel_rfl) fun w4 H =>Zl (Wi rfl)<|Zl (Wi rfl)<|Zn<|Zs<|Zb<|Zs<|Zr<|Zl (Yi rfl)<|Zl (neqF_r rfl rfl rfl) ?_
 refine Zl (Wb rfl)<|Zn<|ZF rfl<|Zs<|Zr<|Zl (Zw agg_Group H 1 rfl rfl rfl)<|Zl (Yi rfl)<|cal cb_group_counted (counted_ok ⟨ck, wt, gn, ms2, mA2, mC2, os, oA2, oC2⟩ p _) rfl rfl ?_
 rw [show countOk ⟨ck, wt, gn, ms2, mA2, mC2, os, oA2, oC2⟩ p = true by unfold countOk; simp; omega]
 rintro _ w5 ⟨rfl, hb⟩; replace H := H.later hb; clear hb
 refine Zl (not_r rfl)<|Zl (Wb rfl)<|Zn<|ZF rfl<|Zs<|Zr<|Zl (Yi rfl)<|Zl (geqT_r rfl rfl (by omega))<|Zl (Wb rfl)<|Zn<|ZT rfl<|Zs<|Zr<|Zl (bld_r (cs := #[.int .i64 (0), .int .i64 (0), .int .i64 (0), .slice none 0 0, .slice none 0 0]) st_Group z_Group (by kernel_rfl)) ?_
 refine stN H 0 (#[.int .i64 (0), .int .i64 (0), .int .i64 (0), .slice none 0 0, .slice none 0 0]) siz_Group rfl rfl rfl rfl rfl (by kernel_rfl) (by kernel_rfl) fun w6 H =>Zl (Wi rfl)<|Zn<|Zt ?_
 exact finCTn (cs0 := #[.int .i64 0, .int .i64 0, .int .i64 0, .slice none 0 0, .slice none 0 0]) (v1 := .int .i64 6) rfl agg_Group rfl (H.ent (i := 0) rfl) rfl rfl ⟨rfl, H.below⟩
set_option maxHeartbeats 4000000 in
set_option maxRecDepth 10000 in
theorem join_full (g : Gr) (s : ByteArray) (p : Nat) (w : World) (h : g.rd 0 w.heap.size w) (hok : grOk g = true) (hn : nameOk s = true) (hp : p ≤ 4) (hg1 : g.gen < 1073741824) (hi : gIdx g s = -1) (hf : g.ms.length = 6) : Ret Try.prog i_group_Join [g.v, .string s, .int .i64 (p : Nat)] w fun v w2 => v = .tuple #[.agg #[.int .i64 0, .int .i64 0, .int .i64 0, .slice none 0 0, .slice none 0 0], .int .i64 16] ∧ Below w.heap.size w w2 := by
 refine ret_of fn_group_Join rfl rfl ?_
 have hmC := h.mC
 have hoC := h.oC
 have hfew := h.few
 have hfp := h.fewP
 have H := Hp.startGr h
 obtain ⟨ck, wt, gn, ms, mA, mC, os, oA, oC⟩ := g
 dsimp only at hmC hoC hfew hfp H
 show CW _ _ _ _ (args [.agg #[.int .i64 (ck), .int .i64 (wt), .int .i64 (gn), .slice mA ms.length mC, .slice oA os.length oC], .string (s), .int .i64 (((p : Nat) : Int))]) w
 obtain ⟨⟨⟨k1, k2⟩, k3, k4, ⟨k5, k6⟩, k7, k8⟩, ⟨hmo, hap⟩, hof, hor⟩ := grOk_iff2.1 hok
 dsimp only at k1 k2 k3 k4 k5 k6 k7 k8 hg1
 dsimp only at hf
 refine Zs<|Zr<|bxA H rfl rfl fun w1 b3 H =>alo H z_Group rfl fun w2 b6 H =>Zl (Wi rfl)<|Zn<|Zs<|Zr<|Zl (Zw agg_Group H 1 rfl rfl rfl)<|Zl (Yt rfl)<|cal cb_group_find (gfind_ok ⟨ck, wt, gn, ms, mA, mC, os, oA, oC⟩ s _ ⟨H.rd0 0 rfl, fun m hm => mp0 H 1 rfl hm, H.rd0 2 rfl, hmC, hoC, hfew, hfp⟩ hok hn) rfl rfl ?_
 rintro _ w3 ⟨⟨ck2, wt2, gn2, ms2, mA2, mC2, os2, oA2, oC2⟩, Lm, Lo, rfl, ha2, ho2, hoo2, hmc2, hoc2, hpc2, hj2⟩
 have hlo2 := H.size
 replace H := Hp.joinG H hj2 (fun m hm => (hpc2 m hm).2); clear hj2
 simp only [Gr.a, Gr.mk.injEq] at ha2
 obtain ⟨e1, e2, e3, hma, -, -, e4, -, -⟩ := ha2
 obtain rfl : ck = ck2 := e1.symm
 obtain rfl : wt = wt2 := e2.symm
 obtain rfl : gn = gn2 := e3.symm
 obtain rfl : os = os2 := e4.symm
 dsimp only at ho2 hoo2 hmc2 hoc2 hpc2 H
 replace hpc2 : ∀ m ∈ ms2, m.parts.length ≤ m.cap ∧ w.heap.size ≤ m.lo := fun m hm => ⟨(hpc2 m hm).1, Nat.le_trans hlo2 (hpc2 m hm).2⟩
 have hml2 : ms2.length = ms.length := by have := congrArg List.length hma; simpa using this
 rw [hi]
 refine Zl (Yu rfl)<|Zl (Xa rfl rfl)<|Zl (Xi rfl rfl)<|Zl (Xi rfl rfl)<|stN H 1 (#[.int .i64 (ck), .int .i64 (wt), .int .i64 (gn), .slice mA2 ms2.length mC2, .slice oA2 os.length oC2]) siz_Group rfl rfl rfl rfl rfl (by kernel_rfl) (by kernel_rfl) fun w4 H =>Zl (Wi rfl)<|Zl (Wi rfl)<|Zn<|Zs<|Zb<|Zs<|Zr<|Zl (Yi rfl)<|Zl (neqF_r rfl rfl rfl) ?_
 refine Zl (Wb rfl)<|Zn<|ZF rfl<|Zs<|Zr<|Zl (Zw agg_Group H 1 rfl rfl rfl)<|Zl (Yi rfl)<|cal cb_group_counted (counted_ok ⟨ck, wt, gn, ms2, mA2, mC2, os, oA2, oC2⟩ p _) rfl rfl ?_
 rw [show countOk ⟨ck, wt, gn, ms2, mA2, mC2, os, oA2, oC2⟩ p = true by unfold countOk; simp; omega]
 rintro _ w5 ⟨rfl, hb⟩; replace H := H.later hb; clear hb
 refine Zl (not_r rfl)<|Zl (Wb rfl)<|Zn<|ZF rfl<|Zs<|Zr<|Zl (Yi rfl)<|Zl (geqF_r rfl rfl (by decide))<|Zl (Wb rfl)<|Zn<|ZF rfl<|Zs<|Zr<|Zl (Zf fd_Group_3 rfl) ?_
 refine Zl (Zd one_LMember H 1 rfl rfl rfl)<|Zl (lenS_r len_LMember rfl)<|Zl (eqlT_r rfl rfl (by omega))<|Zl (Wb rfl)<|Zn<|ZT rfl<|Zs<|Zr<|Zl (bld_r (cs := #[.int .i64 (0), .int .i64 (0), .int .i64 (0), .slice none 0 0, .slice none 0 0]) st_Group z_Group (by kernel_rfl))<|stN H 0 (#[.int .i64 (0), .int .i64 (0), .int .i64 (0), .slice none 0 0, .slice none 0 0]) siz_Group rfl rfl rfl rfl rfl (by kernel_rfl) (by kernel_rfl) fun w6 H =>Zl (Wi rfl)<|Zn<|Zt ?_
 exact finCTn (cs0 := #[.int .i64 0, .int .i64 0, .int .i64 0, .slice none 0 0, .slice none 0 0]) (v1 := .int .i64 16) rfl agg_Group rfl (H.ent (i := 0) rfl) rfl rfl ⟨rfl, H.below⟩
set_option maxHeartbeats 4000000 in
set_option maxRecDepth 10000 in
theorem join_ok (g : Gr) (s : ByteArray) (p : Nat) (w : World) (h : g.rd 0 w.heap.size w) (hok : grOk g = true) (hn : nameOk s = true) (hp : p ≤ 4) (hg1 : g.gen < 1073741824) (hi : gIdx g s = -1) (hf : g.ms.length ≠ 6) : Ret Try.prog i_group_Join [g.v, .string s, .int .i64 (p : Nat)] w fun v w2 => ∃ g' : Gr, v = .tuple #[g'.v, .int .i64 0] ∧ g'.a = asgG { g.a with ms := g.a.ms ++ [newM s g.clock] } p ∧ NewGr w w2 g' := by
 refine ret_of fn_group_Join rfl rfl ?_
 have hmC := h.mC
 have hoC := h.oC
 have hfew := h.few
 have hfp := h.fewP
 have H := Hp.startGr h
 obtain ⟨ck, wt, gn, ms, mA, mC, os, oA, oC⟩ := g
 dsimp only at hmC hoC hfew hfp H
 show CW _ _ _ _ (args [.agg #[.int .i64 (ck), .int .i64 (wt), .int .i64 (gn), .slice mA ms.length mC, .slice oA os.length oC], .string (s), .int .i64 (((p : Nat) : Int))]) w
 obtain ⟨⟨⟨k1, k2⟩, k3, k4, ⟨k5, k6⟩, k7, k8⟩, ⟨hmo, hap⟩, hof, hor⟩ := grOk_iff2.1 hok
 dsimp only at k1 k2 k3 k4 k5 k6 k7 k8 hg1
 dsimp only at hf
 refine Zs<|Zr<|bxA H rfl rfl fun w1 b3 H =>alo H z_Group rfl fun w2 b6 H =>Zl (Wi rfl)<|Zn<|Zs<|Zr<|Zl (Zw agg_Group H 1 rfl rfl rfl)<|Zl (Yt rfl)<|cal cb_group_find (gfind_ok ⟨ck, wt, gn, ms, mA, mC, os, oA, oC⟩ s _ ⟨H.rd0 0 rfl, fun m hm => mp0 H 1 rfl hm, H.rd0 2 rfl, hmC, hoC, hfew, hfp⟩ hok hn) rfl rfl ?_
 rintro _ w3 ⟨⟨ck2, wt2, gn2, ms2, mA2, mC2, os2, oA2, oC2⟩, Lm, Lo, rfl, ha2, ho2, hoo2, hmc2, hoc2, hpc2, hj2⟩
 have hlo2 := H.size
 replace H := Hp.joinG H hj2 (fun m hm => (hpc2 m hm).2); clear hj2
 simp only [Gr.a, Gr.mk.injEq] at ha2
 obtain ⟨e1, e2, e3, hma, -, -, e4, -, -⟩ := ha2
 obtain rfl : ck = ck2 := e1.symm
 obtain rfl : wt = wt2 := e2.symm
 obtain rfl : gn = gn2 := e3.symm
 obtain rfl : os = os2 := e4.symm
 dsimp only at ho2 hoo2 hmc2 hoc2 hpc2 H
 replace hpc2 : ∀ m ∈ ms2, m.parts.length ≤ m.cap ∧ w.heap.size ≤ m.lo := fun m hm => ⟨(hpc2 m hm).1, Nat.le_trans hlo2 (hpc2 m hm).2⟩
 have hml2 : ms2.length = ms.length := by have := congrArg List.length hma; simpa using this
 rw [hi]
 refine Zl (Yu rfl)<|Zl (Xa rfl rfl)<|Zl (Xi rfl rfl)<|Zl (Xi rfl rfl)<|stN H 1 (#[.int .i64 (ck), .int .i64 (wt), .int .i64 (gn), .slice mA2 ms2.length mC2, .slice oA2 os.length oC2]) siz_Group rfl rfl rfl rfl rfl (by kernel_rfl) (by kernel_rfl) fun w4 H =>Zl (Wi rfl)<|Zl (Wi rfl)<|Zn<|Zs<|Zb<|Zs<|Zr<|Zl (Yi rfl)<|Zl (neqF_r rfl rfl rfl) ?_
 refine Zl (Wb rfl)<|Zn<|ZF rfl<|Zs<|Zr<|Zl (Zw agg_Group H 1 rfl rfl rfl)<|Zl (Yi rfl)<|cal cb_group_counted (counted_ok ⟨ck, wt, gn, ms2, mA2, mC2, os, oA2, oC2⟩ p _) rfl rfl ?_
 rw [show countOk ⟨ck, wt, gn, ms2, mA2, mC2, os, oA2, oC2⟩ p = true by unfold countOk; simp; omega]
 rintro _ w5 ⟨rfl, hb⟩; replace H := H.later hb; clear hb
 refine Zl (not_r rfl)<|Zl (Wb rfl)<|Zn<|ZF rfl<|Zs<|Zr<|Zl (Yi rfl)<|Zl (geqF_r rfl rfl (by decide))<|Zl (Wb rfl)<|Zn<|ZF rfl<|Zs<|Zr<|Zl (Zf fd_Group_3 rfl) ?_
 refine Zl (Zd one_LMember H 1 rfl rfl rfl)<|Zl (lenS_r len_LMember rfl)<|Zl (eqlF_r rfl rfl (by omega))<|Zl (Wb rfl)<|Zn<|ZF rfl<|Zk<|Zs<|Zr<|Zl (Zf fd_Group_3 rfl)<|Zl (Zd one_LMember H 1 rfl rfl rfl)<|Zl (Yt rfl)<|Zl (Zf fd_Group_0 rfl)<|Zl (Zd one_int H 1 rfl rfl rfl) ?_
 refine Zl (bld_r (cs := #[.string (s), .int .i64 (ck), .slice none 0 0]) st_Member z_Member (by kernel_rfl))<|bsv (vs := [.agg #[.string (s), .int .i64 (ck), .slice none 0 0]]) H sl_LMember z_Member rfl rfl rfl rfl rfl rfl fun w6 b44 H =>apO (Y := memL) ap_LMember (K := [(b44, .cells #[.string (s), .int .i64 (ck), .slice none 0 0] T_Member (0, 0)), (b6, .cells #[.int .i64 (0), .int .i64 (0), .int .i64 (0), .slice none 0 0, .slice none 0 0] T_Group (0, 0)), (b3, .cells #[.int .i64 (ck), .int .i64 (wt), .int .i64 (gn), .slice mA2 ms2.length mC2, .slice oA2 os.length oC2] T_Group (0, 0))]) (L := Lm) (M := Lo) H ho2 (news := [newM s ck]) rfl rfl rfl (Src.row (m := 1) (sz := memL.sz) (H.ent (i := 0) rfl) rfl) (show (ms2.length + 1) * 48 ≤ 140737488355328 by omega) rfl ?_
 intro A9 c9 w7 L9 h9 _ ho9 H
 have hl9 : (ms2 ++ [newM s ck]).length ≤ 6 := by rw [List.length_append, List.length_singleton]; omega
 refine Zl (Zf fd_Group_3 rfl)<|stN H 2 (#[.int .i64 (ck), .int .i64 (wt), .int .i64 (gn), .slice A9 ((ms2 ++ [newM s ck]).length) c9, .slice oA2 os.length oC2]) siz_LMember rfl rfl rfl rfl rfl (by kernel_rfl) (by kernel_rfl) fun w8 H =>Zn<|Zs<|Zr<|Zl (Zw agg_Group H 2 rfl rfl rfl)<|Zl (Yi rfl)<|cal cb_group_assigned (assigned_ok ck wt gn (ms2 ++ [newM s ck]) A9 c9 os oA2 oC2 p (H.perm (perm_front [(b44, .cells #[.string (s), .int .i64 (ck), .slice none 0 0] T_Member (0, 0)), (b6, .cells #[.int .i64 (0), .int .i64 (0), .int .i64 (0), .slice none 0 0, .slice none 0 0] T_Group (0, 0)), (b3, .cells #[.int .i64 (ck), .int .i64 (wt), .int .i64 (gn), .slice A9 ((ms2 ++ [newM s ck]).length) c9, .slice oA2 os.length oC2] T_Group (0, 0))] L9 Lo).symm) ho9 (by omega) hp (by omega) (by omega)) rfl rfl ?_
 rintro _ w9 ⟨ms4, L4, rfl, ha4, ho4, hc4, H⟩
 replace H := H.perm (perm_front [(b44, .cells #[.string (s), .int .i64 (ck), .slice none 0 0] T_Member (0, 0)), (b6, .cells #[.int .i64 (0), .int .i64 (0), .int .i64 (0), .slice none 0 0, .slice none 0 0] T_Group (0, 0)), (b3, .cells #[.int .i64 (ck), .int .i64 (wt), .int .i64 (gn), .slice A9 ((ms2 ++ [newM s ck]).length) c9, .slice oA2 os.length oC2] T_Group (0, 0))] L4 Lo)
 rw [asgM_a] at ha4
 refine stN H 1 (#[.int .i64 (ck), .int .i64 (wt), .int .i64 (gn + 1), .slice A9 ms4.length c9, .slice oA2 os.length oC2]) siz_Group rfl rfl rfl rfl rfl (by kernel_rfl) (by kernel_rfl) fun w10 H =>Zl (Wi rfl)<|Zn<|Zt ?_
 exact finCTn (cs0 := #[.int .i64 (ck), .int .i64 (wt), .int .i64 (gn + 1), .slice A9 ms4.length c9, .slice oA2 os.length oC2]) (v1 := .int .i64 0) rfl agg_Group rfl (H.ent (i := 1) rfl) rfl rfl ⟨⟨ck, wt, gn + 1, ms4, A9, c9, os, oA2, oC2⟩, rfl, by unfold Gr.a asgG; dsimp only; rw [ha4, List.map_append, hma]; rfl, asg_new ha4 hl9 hp (by omega) ho4 hoo2 hoc2 hc4 (H.forget (by rw [List.append_assoc]; exact .cons _ (.cons _ (.cons _ (List.Sublist.refl _)))) (fun f hf => by simp only [List.mem_cons, List.mem_append]; grind))⟩
end Go.Proofs.Ytemnchkebhclpaa
end

section
namespace Go.Proofs.Ytemnchkebhclpaa
open Go Go.Eng Go.RowKit
set_option linter.unusedSimpArgs false
/-- who leaves, by the place -/
def dropM (g : Gr) (i : Nat) : Gr := { g with ms := g.ms.take i ++ g.ms.drop (i + 1) }
def silent (g : Gr) (n : Int) (m : Mem) : Bool := decide (g.wait ≤ g.clock + n - m.heard)
/-- P6.7 -/
def tickG (g : Gr) (n : Int) (p : Nat) : Gr := if (g.ms.filter fun m => !silent g n m).length = g.ms.length then { g with clock := g.clock + n } else asgG { g with clock := g.clock + n, ms := g.ms.filter fun m => !silent g n m } p
theorem few_parts {ck : Int} {l l2 : List Mem} (ha : l2.map Mem.a = l.map Mem.a) (hm : ∀ m ∈ l, memOk ck m = true) : ∀ m ∈ l2, m.parts.length ≤ 4 := fun m hm2 => by
 have h1 : m.a ∈ l.map Mem.a := ha ▸ List.mem_map_of_mem hm2
 obtain ⟨x, hx, he⟩ := List.mem_map.1 h1
 have h2 := (memOk_iff.1 (hm x hx)).2.2.2
 have h3 : m.parts = x.parts := (congrArg Mem.parts he).symm
 have := rise_few h2
 rw [h3]; omega
theorem heard_of {ck : Int} {l l2 : List Mem} (ha : l2.map Mem.a = l.map Mem.a) (hm : ∀ m ∈ l, memOk ck m = true) : ∀ m ∈ l2, 0 ≤ m.heard ∧ m.heard ≤ ck := fun m hm2 => by
 have h1 : m.a ∈ l.map Mem.a := ha ▸ List.mem_map_of_mem hm2
 obtain ⟨x, hx, he⟩ := List.mem_map.1 h1
 obtain ⟨_, h2, h3, _⟩ := memOk_iff.1 (hm x hx)
 have h4 : m.heard = x.heard := (congrArg Mem.heard he).symm
 rw [h4]; exact ⟨h2, h3⟩
theorem filter_a (l : List Mem) (f : Mem → Bool) (hf : ∀ m, f m.a = f m) : (l.filter f).map Mem.a = (l.map Mem.a).filter f := by
 rw [List.filter_map, show f ∘ Mem.a = f from funext hf]
theorem filter_all {α : Type} {l : List α} {f : α → Bool} (h : (l.filter f).length = l.length) : l.filter f = l := List.filter_eq_self.2 (List.length_filter_eq_length_iff.1 h)
set_option maxHeartbeats 4000000 in
set_option maxRecDepth 10000 in
theorem leave_none (g : Gr) (s : ByteArray) (p : Nat) (w : World) (h : g.rd 0 w.heap.size w) (hok : grOk g = true) (hn : nameOk s = true) (hp : p ≤ 4) (hg1 : g.gen < 1073741824) (hi : gIdx g s = -1) : Ret Try.prog i_group_Leave [g.v, .string s, .int .i64 (p : Nat)] w fun v w2 => v = .tuple #[.agg #[.int .i64 0, .int .i64 0, .int .i64 0, .slice none 0 0, .slice none 0 0], .int .i64 5] ∧ Below w.heap.size w w2 := by
 refine ret_of fn_group_Leave rfl rfl ?_
 have hmC := h.mC
 have hoC := h.oC
 have hfew := h.few
 have hfp := h.fewP
 have H := Hp.startGr h
 obtain ⟨ck, wt, gn, ms, mA, mC, os, oA, oC⟩ := g
 dsimp only at hmC hoC hfew hfp H
 show CW _ _ _ _ (args [.agg #[.int .i64 (ck), .int .i64 (wt), .int .i64 (gn), .slice mA ms.length mC, .slice oA os.length oC], .string (s), .int .i64 (((p : Nat) : Int))]) w
 obtain ⟨⟨⟨k1, k2⟩, k3, k4, ⟨k5, k6⟩, k7, k8⟩, ⟨hmo, hap⟩, hof, hor⟩ := grOk_iff2.1 hok
 dsimp only at k1 k2 k3 k4 k5 k6 k7 k8 hmo
 dsimp only at hg1
 refine Zs<|Zr<|bxA H rfl rfl fun w1 b3 H =>alo H z_Group rfl fun w2 b6 H =>Zl (Wi rfl)<|Zn<|Zs<|Zr<|Zl (Zw agg_Group H 1 rfl rfl rfl)<|Zl (Yt rfl)<|cal cb_group_find (gfind_ok ⟨ck, wt, gn, ms, mA, mC, os, oA, oC⟩ s _ ⟨H.rd0 0 rfl, fun m hm => mp0 H 1 rfl hm, H.rd0 2 rfl, hmC, hoC, hfew, hfp⟩ hok hn) rfl rfl ?_
 rintro _ w3 ⟨⟨ck2, wt2, gn2, ms2, mA2, mC2, os2, oA2, oC2⟩, Lm, Lo, rfl, ha2, ho2, hoo2, hmc2, hoc2, hpc2, hj2⟩
 have hlo2 := H.size
 replace H := Hp.joinG H hj2 (fun m hm => (hpc2 m hm).2); clear hj2
 simp only [Gr.a, Gr.mk.injEq] at ha2
 obtain ⟨e1, e2, e3, hma, -, -, e4, -, -⟩ := ha2
 obtain rfl : ck = ck2 := e1.symm
 obtain rfl : wt = wt2 := e2.symm
 obtain rfl : gn = gn2 := e3.symm
 obtain rfl : os = os2 := e4.symm
 dsimp only at ho2 hoo2 hmc2 hoc2 hpc2 H
 replace hpc2 : ∀ m ∈ ms2, m.parts.length ≤ m.cap ∧ w.heap.size ≤ m.lo := fun m hm => ⟨(hpc2 m hm).1, Nat.le_trans hlo2 (hpc2 m hm).2⟩
 have hml2 : ms2.length = ms.length := by have := congrArg List.length hma; simpa using this
 rw [hi]
 refine Zl (Yu rfl)<|Zl (Xa rfl rfl)<|Zl (Xi rfl rfl)<|Zl (Xi rfl rfl)<|stN H 1 (#[.int .i64 (ck), .int .i64 (wt), .int .i64 (gn), .slice mA2 ms2.length mC2, .slice oA2 os.length oC2]) siz_Group rfl rfl rfl rfl rfl (by kernel_rfl) (by kernel_rfl) fun w4 H =>Zl (Wi rfl)<|Zl (Wi rfl)<|Zn<|Zs<|Zb<|Zs<|Zr<|Zl (Yi rfl)<|Zl (neqF_r rfl rfl rfl) ?_
 refine Zl (Wb rfl)<|Zn<|ZF rfl<|Zs<|Zr<|Zl (Zw agg_Group H 1 rfl rfl rfl)<|Zl (Yi rfl)<|cal cb_group_counted (counted_ok ⟨ck, wt, gn, ms2, mA2, mC2, os, oA2, oC2⟩ p _) rfl rfl ?_
 rw [show countOk ⟨ck, wt, gn, ms2, mA2, mC2, os, oA2, oC2⟩ p = true by unfold countOk; simp; omega]
 rintro _ w5 ⟨rfl, hb⟩; replace H := H.later hb; clear hb
 refine Zl (not_r rfl)<|Zl (Wb rfl)<|Zn<|ZF rfl<|Zs<|Zr<|Zl (Yi rfl)<|Zl (lssT_r rfl rfl (by decide))<|Zl (Wb rfl)<|Zn<|ZT rfl<|Zs<|Zr<|Zl (bld_r (cs := #[.int .i64 (0), .int .i64 (0), .int .i64 (0), .slice none 0 0, .slice none 0 0]) st_Group z_Group (by kernel_rfl)) ?_
 refine stN H 0 (#[.int .i64 (0), .int .i64 (0), .int .i64 (0), .slice none 0 0, .slice none 0 0]) siz_Group rfl rfl rfl rfl rfl (by kernel_rfl) (by kernel_rfl) fun w6 H =>Zl (Wi rfl)<|Zn<|Zt ?_
 exact finCTn (cs0 := #[.int .i64 0, .int .i64 0, .int .i64 0, .slice none 0 0, .slice none 0 0]) (v1 := .int .i64 5) rfl agg_Group rfl (H.ent (i := 0) rfl) rfl rfl ⟨rfl, H.below⟩
set_option maxHeartbeats 4000000 in
set_option maxRecDepth 10000 in
theorem leave_ok (g : Gr) (s : ByteArray) (p : Nat) (w : World) (h : g.rd 0 w.heap.size w) (hok : grOk g = true) (hn : nameOk s = true) (hp : p ≤ 4) (hg1 : g.gen < 1073741824) (i : Nat) (hi : gIdx g s = i) : Ret Try.prog i_group_Leave [g.v, .string s, .int .i64 (p : Nat)] w fun v w2 => ∃ g' : Gr, v = .tuple #[g'.v, .int .i64 0] ∧ g'.a = asgG (dropM g.a i) p ∧ NewGr w w2 g' := by
 refine ret_of fn_group_Leave rfl rfl ?_
 have hmC := h.mC
 have hoC := h.oC
 have hfew := h.few
 have hfp := h.fewP
 have H := Hp.startGr h
 obtain ⟨ck, wt, gn, ms, mA, mC, os, oA, oC⟩ := g
 dsimp only at hmC hoC hfew hfp H
 show CW _ _ _ _ (args [.agg #[.int .i64 (ck), .int .i64 (wt), .int .i64 (gn), .slice mA ms.length mC, .slice oA os.length oC], .string (s), .int .i64 (((p : Nat) : Int))]) w
 obtain ⟨⟨⟨k1, k2⟩, k3, k4, ⟨k5, k6⟩, k7, k8⟩, ⟨hmo, hap⟩, hof, hor⟩ := grOk_iff2.1 hok
 dsimp only at k1 k2 k3 k4 k5 k6 k7 k8 hmo
 dsimp only at hg1
 obtain ⟨t, ht, htn⟩ := gidx_find hi
 dsimp only at ht
 have hil := (getE ht).1
 refine Zs<|Zr<|bxA H rfl rfl fun w1 b3 H =>alo H z_Group rfl fun w2 b6 H =>Zl (Wi rfl)<|Zn<|Zs<|Zr<|Zl (Zw agg_Group H 1 rfl rfl rfl)<|Zl (Yt rfl)<|cal cb_group_find (gfind_ok ⟨ck, wt, gn, ms, mA, mC, os, oA, oC⟩ s _ ⟨H.rd0 0 rfl, fun m hm => mp0 H 1 rfl hm, H.rd0 2 rfl, hmC, hoC, hfew, hfp⟩ hok hn) rfl rfl ?_
 rintro _ w3 ⟨⟨ck2, wt2, gn2, ms2, mA2, mC2, os2, oA2, oC2⟩, Lm, Lo, rfl, ha2, ho2, hoo2, hmc2, hoc2, hpc2, hj2⟩
 have hlo2 := H.size
 replace H := Hp.joinG H hj2 (fun m hm => (hpc2 m hm).2); clear hj2
 simp only [Gr.a, Gr.mk.injEq] at ha2
 obtain ⟨e1, e2, e3, hma, -, -, e4, -, -⟩ := ha2
 obtain rfl : ck = ck2 := e1.symm
 obtain rfl : wt = wt2 := e2.symm
 obtain rfl : gn = gn2 := e3.symm
 obtain rfl : os = os2 := e4.symm
 dsimp only at ho2 hoo2 hmc2 hoc2 hpc2 H
 replace hpc2 : ∀ m ∈ ms2, m.parts.length ≤ m.cap ∧ w.heap.size ≤ m.lo := fun m hm => ⟨(hpc2 m hm).1, Nat.le_trans hlo2 (hpc2 m hm).2⟩
 have hml2 : ms2.length = ms.length := by have := congrArg List.length hma; simpa using this
 rw [hi]
 refine Zl (Yu rfl)<|Zl (Xa rfl rfl)<|Zl (Xi rfl rfl)<|Zl (Xi rfl rfl)<|stN H 1 (#[.int .i64 (ck), .int .i64 (wt), .int .i64 (gn), .slice mA2 ms2.length mC2, .slice oA2 os.length oC2]) siz_Group rfl rfl rfl rfl rfl (by kernel_rfl) (by kernel_rfl) fun w4 H =>Zl (Wi rfl)<|Zl (Wi rfl)<|Zn<|Zs<|Zb<|Zs<|Zr<|Zl (Yi rfl)<|Zl (neqF_r rfl rfl rfl) ?_
 refine Zl (Wb rfl)<|Zn<|ZF rfl<|Zs<|Zr<|Zl (Zw agg_Group H 1 rfl rfl rfl)<|Zl (Yi rfl)<|cal cb_group_counted (counted_ok ⟨ck, wt, gn, ms2, mA2, mC2, os, oA2, oC2⟩ p _) rfl rfl ?_
 rw [show countOk ⟨ck, wt, gn, ms2, mA2, mC2, os, oA2, oC2⟩ p = true by unfold countOk; simp; omega]
 rintro _ w5 ⟨rfl, hb⟩; replace H := H.later hb; clear hb
 refine Zl (not_r rfl)<|Zl (Wb rfl)<|Zn<|ZF rfl<|Zs<|Zr<|Zl (Yi rfl)<|Zl (lssF_r rfl rfl (by omega))<|Zl (Wb rfl)<|Zn<|ZF rfl<|Zk<|Zs<|Zr ?_
 refine Zl (Zf fd_Group_3 rfl)<|Zl (Zd one_LMember H 1 rfl rfl rfl)<|Zl (Yi rfl)<|Zl (Yi rfl)<|Zl (add_r rfl rfl (by omega) (by omega))<|cal cb_slices_Delete_LMember_Member (del_LMember_Member (K := [(b6, .cells #[.int .i64 (0), .int .i64 (0), .int .i64 (0), .slice none 0 0, .slice none 0 0] T_Group (0, 0)), (b3, .cells #[.int .i64 (ck), .int .i64 (wt), .int .i64 (gn), .slice mA2 ms2.length mC2, .slice oA2 os.length oC2] T_Group (0, 0))]) (Lt := Lm) (M := Lo) (i := i) (j := i + 1) H ho2 (by omega) (by omega) (by omega)) rfl rfl ?_
 rintro _ w6 ⟨A9, c9, L9, rfl, ho9, H⟩
 have hl9 : (ms2.take i ++ ms2.drop (i + 1)).length ≤ 6 := by rw [List.length_append, List.length_take, List.length_drop]; omega
 refine Zl (Zf fd_Group_3 rfl)<|stN H 1 (#[.int .i64 (ck), .int .i64 (wt), .int .i64 (gn), .slice A9 ((ms2.take i ++ ms2.drop (i + 1)).length) c9, .slice oA2 os.length oC2]) siz_LMember rfl rfl rfl rfl rfl (by kernel_rfl) (by kernel_rfl) fun w7 H =>Zn<|Zs<|Zr<|Zl (Zw agg_Group H 1 rfl rfl rfl)<|Zl (Yi rfl)<|cal cb_group_assigned (assigned_ok ck wt gn (ms2.take i ++ ms2.drop (i + 1)) A9 c9 os oA2 oC2 p (H.perm (perm_front [(b6, .cells #[.int .i64 (0), .int .i64 (0), .int .i64 (0), .slice none 0 0, .slice none 0 0] T_Group (0, 0)), (b3, .cells #[.int .i64 (ck), .int .i64 (wt), .int .i64 (gn), .slice A9 ((ms2.take i ++ ms2.drop (i + 1)).length) c9, .slice oA2 os.length oC2] T_Group (0, 0))] L9 Lo).symm) ho9 (by omega) hp (by omega) (by omega)) rfl rfl ?_
 rintro _ w8 ⟨ms4, L4, rfl, ha4, ho4, hc4, H⟩
 replace H := H.perm (perm_front [(b6, .cells #[.int .i64 (0), .int .i64 (0), .int .i64 (0), .slice none 0 0, .slice none 0 0] T_Group (0, 0)), (b3, .cells #[.int .i64 (ck), .int .i64 (wt), .int .i64 (gn), .slice A9 ((ms2.take i ++ ms2.drop (i + 1)).length) c9, .slice oA2 os.length oC2] T_Group (0, 0))] L4 Lo)
 rw [asgM_a] at ha4
 refine stN H 0 (#[.int .i64 (ck), .int .i64 (wt), .int .i64 (gn + 1), .slice A9 ms4.length c9, .slice oA2 os.length oC2]) siz_Group rfl rfl rfl rfl rfl (by kernel_rfl) (by kernel_rfl) fun w9 H =>Zl (Wi rfl)<|Zn<|Zt ?_
 exact finCTn (cs0 := #[.int .i64 (ck), .int .i64 (wt), .int .i64 (gn + 1), .slice A9 ms4.length c9, .slice oA2 os.length oC2]) (v1 := .int .i64 0) rfl agg_Group rfl (H.ent (i := 0) rfl) rfl rfl ⟨⟨ck, wt, gn + 1, ms4, A9, c9, os, oA2, oC2⟩, rfl, by unfold Gr.a asgG dropM; dsimp only; rw [ha4, List.map_append, List.map_take, List.map_drop, hma], asg_new ha4 hl9 hp (by omega) ho4 hoo2 hoc2 hc4 (H.forget (by rw [List.append_assoc]; exact .cons _ (.cons _ (List.Sublist.refl _))) (fun f hf => by simp only [List.mem_cons, List.mem_append]; grind))⟩
set_option maxHeartbeats 4000000 in
set_option maxRecDepth 10000 in
theorem tick_c1_ok (m : Mem) (b : Nat) (ck wt gn : Int) (v3 v4 : Value) (w : World) (hx : w.heap[b]? = some (.cells #[.int .i64 ck, .int .i64 wt, .int .i64 gn, v3, v4] T_Group (0, 0))) (h0 : 0 ≤ m.heard) (h1 : m.heard ≤ 1073741824) (h2 : 0 ≤ ck) (h3 : ck ≤ 1073741824) :
  Ret Try.prog i_group_Tick_c1 [.agg m.c.toArray, .pointer (some ⟨b, 0, none⟩)] w fun v w2 => v = .bool (decide (wt ≤ ck - m.heard)) ∧ Below w.heap.size w w2 := by
 refine ret_of fn_group_Tick_c1 rfl rfl ?_
 have H := Hp.start w
 have hb := lt_of_heap hx
 refine Zs<|Zr<|bxA H rfl rfl fun w1 b2 H =>Zl (Wb rfl)<|Zn<|Zs<|Zr<|Zl (Zf fd_Group_0 rfl)<|Zl (ld_r one_int rfl ((H.below.cell (p := ⟨b, _, none⟩) hb).trans (cellE (j := 0) hx rfl)))<|Zl (Zf fd_Member_1 rfl)<|Zl (Zd one_int H 0 rfl rfl rfl)<|Zl (sub_r rfl rfl (by omega) (by omega))<|Zl (Zf fd_Group_1 rfl)<|Zl (ld_r one_int rfl ((H.below.cell (p := ⟨b, _, none⟩) hb).trans (cellE (j := 1) hx rfl))) ?_
 refine Zl (geq_r rfl rfl)<|Zl (Wb rfl)<|Zn<|Zt ?_
 exact fin1 rfl rfl ⟨rfl, H.below⟩
set_option maxHeartbeats 4000000 in
set_option maxRecDepth 10000 in
theorem delF_nil (A : Option Addr) (c : Nat) (w : World) {f : FuncId} {cap : List Value} (hf : callB Try.prog f = true) : Ret Try.prog i_slices_DeleteFunc_LMember_Member [.slice A 0 c, .func (.func f) #[] cap.toArray] w fun v w2 => v = .slice A 0 c ∧ Below w.heap.size w w2 := by
 refine ret_of fn_slices_DeleteFunc_LMember_Member rfl rfl ?_
 have H := Hp.start w
 refine Zs<|Zr<|Zl (Ws rfl)<|Zn<|Zs<|Zr<|Zl (Ys rfl)<|Zl (mvF_r rfl)<|cal cb_slices_IndexFunc_LMember_Member (indexFunc_Member_ok [] A c _ Rd.nil (by simp) f cap hf (fun _ => false) (fun e w2 he _ => absurd he (by simp))) rfl rfl ?_
 rintro _ w1 ⟨rfl, hb⟩; replace H := H.later hb; clear hb
 refine Zl (Wi rfl)<|Zn<|Zs<|Zs<|Zr<|Zl (Yi rfl)<|Zl (eqlT_r rfl rfl rfl)<|Zn<|ZT rfl<|Zs<|Zr<|Zl (Ys rfl)<|Zl (Ws rfl)<|Zn ?_
 refine Zt ?_
 exact fin1 (v := .slice A 0 c) rfl rfl ⟨rfl, H.below⟩
/-- slices.DeleteFunc, from a row of the caller's own -/
theorem delFO_ok {w0 w : World} {K M Lt : List (Nat × Obj)} {F : List Fact} {ms : List Mem} {c : Nat} {A : Option Addr} (H : Hp w0 w (K ++ Lt ++ M) F) (ho : Own memL (.slice A ms.length c) T_Member ms Lt) (h12 : ms.length ≤ 1000) {f : FuncId} {cap : List Value} (hf : callB Try.prog f = true) (pred : Mem → Bool)
  (hp : ∀ e ∈ ms, ∀ (w' : World) (L' : List (Nat × Obj)), Hp w0 w' (K ++ L' ++ M) F → Ret Try.prog f (.agg e.c.toArray :: cap) w' fun v w2 => v = .bool (pred e) ∧ Below w'.heap.size w' w2) :
  Ret Try.prog i_slices_DeleteFunc_LMember_Member [.slice A ms.length c, .func (.func f) #[] cap.toArray] w fun v w2 => ∃ L', v = .slice A (ms.filter fun m => !pred m).length c ∧ Own memL (.slice A (ms.filter fun m => !pred m).length c) T_Member (ms.filter fun m => !pred m) L' ∧ Hp w0 w2 (K ++ L' ++ M) F := by
 by_cases h0 : ms.length = 0
 ·
  have := List.eq_nil_of_length_eq_zero h0
  subst this
  exact (delF_nil A c w hf).mono fun v w2 ⟨h1, h2⟩ => ⟨Lt, h1, ho, H.later h2⟩
 ·
  obtain ⟨g, cur, rfl, rfl, row⟩ := ho.row (by omega)
  have hpm : ∀ u : Array Value, (K ++ [(g, Obj.cells u T_Member (0, 0))] ++ M).Perm ((g, Obj.cells u T_Member (0, 0)) :: (K ++ M)) := fun u => by rw [List.append_assoc]; exact List.perm_middle
  exact (delF_ok ms c (H.perm (hpm cur).symm) row rfl h12 hf pred fun e he w' u' H' => hp e he w' _ (H'.perm (hpm u'))).mono fun v w2 ⟨u2, h1, h2, h3⟩ => ⟨_, h1, Row.own (g := g) (e := T_Member) h2, h3.perm (hpm u2)⟩
set_option maxHeartbeats 4000000 in
set_option maxRecDepth 10000 in
theorem gtick_ok (g : Gr) (n : Int) (p : Nat) (w : World) (h : g.rd 0 w.heap.size w) (hok : grOk g = true) (hp : p ≤ 4) (hg1 : g.gen < 1073741824) (hn0 : 0 ≤ n) (hn1 : n ≤ 1000) (hcl : g.clock + n ≤ 1073741824) : Ret Try.prog i_group_Tick [g.v, .int .i64 n, .int .i64 (p : Nat)] w fun v w2 => ∃ g' : Gr, v = .tuple #[g'.v, .int .i64 0] ∧ g'.a = tickG g.a n p ∧ NewGr w w2 g' := by
 refine ret_of fn_group_Tick rfl rfl ?_
 have hmC := h.mC
 have hoC := h.oC
 have hfew := h.few
 have hfp := h.fewP
 have H := Hp.startGr h
 obtain ⟨ck, wt, gn, ms, mA, mC, os, oA, oC⟩ := g
 dsimp only at hmC hoC hfew hfp H
 show CW _ _ _ _ (args [.agg #[.int .i64 (ck), .int .i64 (wt), .int .i64 (gn), .slice mA ms.length mC, .slice oA os.length oC], .int .i64 (n), .int .i64 (((p : Nat) : Int))]) w
 obtain ⟨⟨⟨k1, k2⟩, k3, k4, ⟨k5, k6⟩, k7, k8⟩, ⟨hmo, hap⟩, hof, hor⟩ := grOk_iff2.1 hok
 dsimp only at k1 k2 k3 k4 k5 k6 k7 k8 hmo
 dsimp only at hg1 hcl
 refine Zs<|Zr<|bxA H rfl rfl fun w1 b3 H =>alo H z_Group rfl fun w2 b6 H =>Zl (Wi rfl)<|Zn<|Zs<|Zs<|Zr<|Zl (Zw agg_Group H 1 rfl rfl rfl)<|cal cb_group_Check (gCheck_ok ⟨ck, wt, gn, ms, mA, mC, os, oA, oC⟩ _ ⟨H.rd0 0 rfl, fun m hm => mp0 H 1 rfl hm, H.rd0 2 rfl, hmC, hoC, hfew, hfp⟩ hok) rfl rfl ?_
 rintro _ w3 ⟨rfl, hb⟩; replace H := H.later hb; clear hb
 refine Zl (Wi rfl)<|Zn<|Zs<|Zr<|Zl (Yi rfl)<|Zl (neqF_r rfl rfl rfl)<|Zn<|ZF rfl<|Zk<|Zs<|Zs<|Zr<|Zl (Yi rfl)<|Zl (lssF_r rfl rfl (by omega)) ?_
 refine Zl (Yb rfl)<|ZG<|Zl (Yi rfl)<|ZG<|Zl (gtrF_r rfl rfl (by omega))<|Zl (Kf rfl rfl)<|Zl (Yb rfl)<|ZG<|Zl (Zf fd_Group_0 rfl)<|ZG<|Zl (Zd one_int H 1 rfl rfl rfl)<|ZG<|Zl (Yi rfl)<|ZG ?_
 refine Zl (add_r rfl rfl (by omega) (by omega))<|ZG<|Zl (gtrF_r rfl rfl (by omega))<|Zl (Kf rfl rfl)<|Zl (Yb rfl)<|ZG<|Zl (Zw agg_Group H 1 rfl rfl rfl)<|ZG<|Zl (Yi rfl)<|ZG<|cal cb_group_counted (counted_ok ⟨ck, wt, gn, ms, mA, mC, os, oA, oC⟩ p _) rfl rfl ?_
 rw [show countOk ⟨ck, wt, gn, ms, mA, mC, os, oA, oC⟩ p = true by unfold countOk; simp; omega]
 rintro _ w4 ⟨rfl, hb⟩; replace H := H.later hb; clear hb
 refine ZG<|Zl (not_r rfl)<|Zl (Kf rfl rfl)<|Zn<|ZF rfl<|Zk<|Zs<|Zr<|Zl (Zw agg_Group H 1 rfl rfl rfl)<|cal cb_group_Copy (gCopy_ok ⟨ck, wt, gn, ms, mA, mC, os, oA, oC⟩ _ ⟨H.rd0 0 rfl, fun m hm => mp0 H 1 rfl hm, H.rd0 2 rfl, hmC, hoC, hfew, hfp⟩) rfl rfl ?_
 rintro _ w5 ⟨⟨ck2, wt2, gn2, ms2, mA2, mC2, os2, oA2, oC2⟩, Lm, Lo, rfl, ha2, ho2, hoo2, hmc2, hoc2, hpc2, hj2⟩
 have hlo2 := H.size
 replace H := Hp.joinG H hj2 (fun m hm => (hpc2 m hm).2); clear hj2
 simp only [Gr.a, Gr.mk.injEq] at ha2
 obtain ⟨e1, e2, e3, hma, -, -, e4, -, -⟩ := ha2
 obtain rfl : ck = ck2 := e1.symm
 obtain rfl : wt = wt2 := e2.symm
 obtain rfl : gn = gn2 := e3.symm
 obtain rfl : os = os2 := e4.symm
 dsimp only at ho2 hoo2 hmc2 hoc2 hpc2 H
 replace hpc2 : ∀ m ∈ ms2, m.parts.length ≤ m.cap ∧ w.heap.size ≤ m.lo := fun m hm => ⟨(hpc2 m hm).1, Nat.le_trans hlo2 (hpc2 m hm).2⟩
 have hml2 : ms2.length = ms.length := by have := congrArg List.length hma; simpa using this
 have hhd := heard_of hma hmo
 refine stN H 1 (#[.int .i64 (ck), .int .i64 (wt), .int .i64 (gn), .slice mA2 ms2.length mC2, .slice oA2 os.length oC2]) siz_Group rfl rfl rfl rfl rfl (by kernel_rfl) (by kernel_rfl) fun w6 H =>Zn<|Zs<|Zr<|Zl (Zf fd_Group_0 rfl)<|Zl (Zd one_int H 1 rfl rfl rfl)<|Zl (Yi rfl)<|Zl (add_r rfl rfl (by omega) (by omega))<|Zl (Zf fd_Group_0 rfl)<|stN H 1 (#[.int .i64 (ck + n), .int .i64 (wt), .int .i64 (gn), .slice mA2 ms2.length mC2, .slice oA2 os.length oC2]) siz_int rfl rfl rfl rfl rfl (by kernel_rfl) (by kernel_rfl) fun w7 H =>Zn<|Zs<|Zr<|Zl (Zf fd_Group_3 rfl) ?_
 refine Zl (Zd one_LMember H 1 rfl rfl rfl)<|Zl (lenS_r len_LMember rfl)<|Zl (Wi rfl)<|Zn<|Zs<|Zr<|Zl (Zf fd_Group_3 rfl)<|Zl (Zd one_LMember H 1 rfl rfl rfl)<|Zl (mkf_r rfl)<|cal cb_slices_DeleteFunc_LMember_Member (delFO_ok (K := [(b6, .cells #[.int .i64 (0), .int .i64 (0), .int .i64 (0), .slice none 0 0, .slice none 0 0] T_Group (0, 0)), (b3, .cells #[.int .i64 (ck + n), .int .i64 (wt), .int .i64 (gn), .slice mA2 ms2.length mC2, .slice oA2 os.length oC2] T_Group (0, 0))]) (Lt := Lm) (M := Lo) H ho2 (by omega) (cap := [.pointer (some ⟨b3, 0, none⟩)]) cb_group_Tick_c1 (fun m => decide (wt ≤ (ck + n) - m.heard)) (fun e he w' L' H' => tick_c1_ok e b3 (ck + n) wt gn _ _ w' (H'.ent (i := 1) rfl) (hhd e he).1 (by have := (hhd e he).2; omega) (by omega) hcl)) rfl rfl ?_
 rintro _ w8 ⟨L9, rfl, ho9, H⟩
 have hl9 : (ms2.filter fun m => !decide (wt ≤ (ck + n) - m.heard)).length ≤ 6 := by have := List.length_filter_le (fun m : Mem => !decide (wt ≤ (ck + n) - m.heard)) ms2; omega
 refine Zl (Zf fd_Group_3 rfl)<|stN H 1 (#[.int .i64 (ck + n), .int .i64 (wt), .int .i64 (gn), .slice mA2 ((ms2.filter fun m => !decide (wt ≤ (ck + n) - m.heard)).length) mC2, .slice oA2 os.length oC2]) siz_LMember rfl rfl rfl rfl rfl (by kernel_rfl) (by kernel_rfl) fun w9 H =>Zn<|Zs<|Zs<|Zr<|Zl (Zf fd_Group_3 rfl)<|Zl (Zd one_LMember H 1 rfl rfl rfl)<|Zl (lenS_r len_LMember rfl)<|Zl (Yi rfl) ?_
 refine lwD (eql_r rfl rfl) rfl rfl rfl (fun h55 => ?_) (fun h55 => ?_)
 ·
  have hall : (ms2.filter fun m => !decide (wt ≤ (ck + n) - m.heard)) = ms2 := filter_all (by omega)
  have hsl : ((ms2.filter fun m => !decide (wt ≤ (ck + n) - m.heard)).map Mem.a) = (ms.map Mem.a).filter fun m => !silent (Gr.a ⟨ck, wt, gn, ms, mA, mC, os, oA, oC⟩) n m := by rw [filter_a _ _ (fun _ => rfl), hma]; rfl
  refine Zn<|ZT rfl<|Zs<|Zr<|Zl (Zw agg_Group H 1 rfl rfl rfl)<|stN H 0 (#[.int .i64 (ck + n), .int .i64 (wt), .int .i64 (gn), .slice mA2 ((ms2.filter fun m => !decide (wt ≤ (ck + n) - m.heard)).length) mC2, .slice oA2 os.length oC2]) siz_Group rfl rfl rfl rfl rfl (by kernel_rfl) (by kernel_rfl) fun w10 H =>Zl (Wi rfl)<|Zn<|Zt ?_
  have hT : tickG (Gr.a ⟨ck, wt, gn, ms, mA, mC, os, oA, oC⟩) n p = { Gr.a ⟨ck, wt, gn, ms, mA, mC, os, oA, oC⟩ with clock := ck + n } := by unfold tickG; rw [if_pos (by show ((ms.map Mem.a).filter _).length = (ms.map Mem.a).length; rw [← hsl, List.length_map, List.length_map]; omega)]; rfl
  rw [hT]
  rw [hall] at ho9
  exact finCTn (cs0 := #[.int .i64 (ck + n), .int .i64 (wt), .int .i64 (gn), .slice mA2 (((ms2.filter fun m => !decide (wt ≤ (ck + n) - m.heard))).length) mC2, .slice oA2 os.length oC2]) (v1 := .int .i64 0) rfl agg_Group rfl (H.ent (i := 0) rfl) rfl rfl ⟨⟨ck + n, wt, gn, ms2, mA2, mC2, os, oA2, oC2⟩, by rw [hall]; rfl, by unfold Gr.a; dsimp only; rw [hma], OwnGr.new (ga := Gr.a ⟨ck + n, wt, gn, ms2, mA2, mC2, os, oA2, oC2⟩) ⟨rfl, ho9, hoo2, hmc2, hoc2, hpc2, H.forget (by rw [List.append_assoc]; exact .cons _ (.cons _ (List.Sublist.refl _))) (fun f hf => by simp only [List.mem_cons, List.mem_append]; grind)⟩ (by dsimp only; omega) (by dsimp only; omega) (few_parts hma hmo)⟩
 ·
  have hsl : ((ms2.filter fun m => !decide (wt ≤ (ck + n) - m.heard)).map Mem.a) = (ms.map Mem.a).filter fun m => !silent (Gr.a ⟨ck, wt, gn, ms, mA, mC, os, oA, oC⟩) n m := by rw [filter_a _ _ (fun _ => rfl), hma]; rfl
  refine Zn<|ZF rfl<|Zk<|Zs<|Zr<|Zl (Zw agg_Group H 1 rfl rfl rfl)<|Zl (Yi rfl)<|cal cb_group_assigned (assigned_ok (ck + n) wt gn (ms2.filter fun m => !decide (wt ≤ (ck + n) - m.heard)) mA2 mC2 os oA2 oC2 p (H.perm (perm_front [(b6, .cells #[.int .i64 (0), .int .i64 (0), .int .i64 (0), .slice none 0 0, .slice none 0 0] T_Group (0, 0)), (b3, .cells #[.int .i64 (ck + n), .int .i64 (wt), .int .i64 (gn), .slice mA2 ((ms2.filter fun m => !decide (wt ≤ (ck + n) - m.heard)).length) mC2, .slice oA2 os.length oC2] T_Group (0, 0))] L9 Lo).symm) ho9 (by omega) hp (by omega) (by omega)) rfl rfl ?_
  rintro _ w11 ⟨ms4, L4, rfl, ha4, ho4, hc4, H⟩
  replace H := H.perm (perm_front [(b6, .cells #[.int .i64 (0), .int .i64 (0), .int .i64 (0), .slice none 0 0, .slice none 0 0] T_Group (0, 0)), (b3, .cells #[.int .i64 (ck + n), .int .i64 (wt), .int .i64 (gn), .slice mA2 ((ms2.filter fun m => !decide (wt ≤ (ck + n) - m.heard)).length) mC2, .slice oA2 os.length oC2] T_Group (0, 0))] L4 Lo)
  rw [asgM_a] at ha4
  refine stN H 0 (#[.int .i64 (ck + n), .int .i64 (wt), .int .i64 (gn + 1), .slice mA2 ms4.length mC2, .slice oA2 os.length oC2]) siz_Group rfl rfl rfl rfl rfl (by kernel_rfl) (by kernel_rfl) fun w12 H =>Zl (Wi rfl)<|Zn<|Zt ?_
  have hT : tickG (Gr.a ⟨ck, wt, gn, ms, mA, mC, os, oA, oC⟩) n p = asgG { Gr.a ⟨ck, wt, gn, ms, mA, mC, os, oA, oC⟩ with clock := ck + n, ms := (ms.map Mem.a).filter fun m => !silent (Gr.a ⟨ck, wt, gn, ms, mA, mC, os, oA, oC⟩) n m } p := by unfold tickG; rw [if_neg (by show ¬ ((ms.map Mem.a).filter _).length = (ms.map Mem.a).length; rw [← hsl, List.length_map, List.length_map]; omega)]; rfl
  rw [hT]
  exact finCTn (cs0 := #[.int .i64 (ck + n), .int .i64 (wt), .int .i64 (gn + 1), .slice mA2 ms4.length mC2, .slice oA2 os.length oC2]) (v1 := .int .i64 0) rfl agg_Group rfl (H.ent (i := 0) rfl) rfl rfl ⟨⟨ck + n, wt, gn + 1, ms4, mA2, mC2, os, oA2, oC2⟩, rfl, by unfold Gr.a asgG; dsimp only; rw [ha4, hsl]; rfl, asg_new ha4 hl9 hp (by omega) ho4 hoo2 hoc2 hc4 (H.forget (by rw [List.append_assoc]; exact .cons _ (.cons _ (List.Sublist.refl _))) (fun f hf => by simp only [List.mem_cons, List.mem_append]; grind))⟩
end Go.Proofs.Ytemnchkebhclpaa
end
