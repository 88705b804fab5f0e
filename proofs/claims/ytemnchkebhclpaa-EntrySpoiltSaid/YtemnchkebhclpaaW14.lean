/- W14: a part of the proofs over this seat: what stands in its theorems holds for every input that they name. -/
import Derived.Test.YtemnchkebhclpaaW13
namespace Go.Proofs.Ytemnchkebhclpaa
open Go Go.Eng Go.RowKit
theorem pk_le (n : Int) {m k : Nat} (h : 0 < m) (hk : m ≤ k + 1) : pk n m ≤ k := by
  have := pk_lt n h
  omega
theorem entry_good (r : Raw) : Good r.entry := by
  have ha := pk_lt r.a (show 0 < 4 by decide)
  have hb := pk_lt r.b (show 0 < 4 by decide)
  have ha3 := pk_lt r.a (show 0 < 3 by decide)
  have hc := pk_lt r.c (show 0 < 2 by decide)
  have hc5 := pk_lt r.c (show 0 < 5 by decide)
  have ht := wordT_len r.c
  have h0 : (⟨#[]⟩ : ByteArray).size = 0 := rfl
  unfold Good entCheck
  have key : ∀ e : Ent, 1 ≤ e.kind → e.kind ≤ 3 → (∀ n ∈ e.nums, 0 ≤ n ∧ n ≤ 1073741824) → e.text.size ≤ 40 → ¬ e.noForm → (if e.kind < 1 ∨ 3 < e.kind then (3 : Int) else if ¬ e.nums.all inNum = true then 2 else if 40 < e.text.size then 1 else if e.noForm then 4 else 0) = 0 := by
    intro e h1 h2 h3 h4 h5
    have hn : e.nums.all inNum = true := List.all_eq_true.2 fun n hn => by
      have := h3 n hn
      simp [inNum]; omega
    rw [if_neg (by omega), if_neg (fun h => h hn), if_neg (by omega), if_neg h5]
  apply key
  all_goals unfold Raw.entry
  all_goals dsimp only
  all_goals split
  all_goals first | omega | skip
  all_goals try split
  all_goals try simp [Ent.nums, Ent.noForm]
  all_goals omega
theorem manyE_good {l : List Raw} {m : Nat} : ∀ e ∈ manyE l m, Good e := by
  intro e he
  unfold manyE at he
  obtain ⟨r, _, rfl⟩ := List.mem_map.1 he
  exact entry_good r
theorem manyE_len (l : List Raw) (m : Nat) : (manyE l m).length ≤ m := by
  unfold manyE; simp; omega
theorem encB_le {e : Ent} (h : Good e) : (encB e).length ≤ 64 := by
  have := (bodyB_len h).1
  rw [encB_len]; omega
theorem flat_le : ∀ (es : List Ent), (∀ e ∈ es, Good e) → (flat es).length ≤ 64 * es.length
  | [], _ => by simp [flat]
  | e :: es, h => by
    have h1 := encB_le (h e (List.mem_cons_self ..))
    have h2 := flat_le es fun x hx => h x (List.mem_cons_of_mem _ hx)
    have : flat (e :: es) = encB e ++ flat es := by simp [flat]
    rw [this]; simp; omega
theorem dec_flat (es : List Ent) (h : ∀ e ∈ es, Good e) : Dec (flat es) es (flat es).length := by
  have := dec_enc es [] h rfl
  rwa [List.append_nil] at this
theorem getE {α : Type} {l : List α} {k : Nat} {e : α} (h : l[k]? = some e) : ∃ hk : k < l.length, l[k] = e := List.getElem?_eq_some_iff.1 h
theorem flat_take_succ {es : List Ent} {k : Nat} {e : Ent} (h : es[k]? = some e) : flat (es.take (k + 1)) = flat (es.take k) ++ encB e := by
  obtain ⟨hk, rfl⟩ := getE h
  exact flat_succ hk
set_option maxHeartbeats 4000000 in
set_option maxRecDepth 10000 in
theorem entryBack_ok (l : List Raw) (A : Option Addr) (c : Nat) (w : World) (hr : Rd rawL 0 w.heap.size A l w) (hok : ∀ r ∈ l, r.ok) (hl : l.length ≤ 9223372036854775807) :
    Ret Try.prog i_tailracekeep_EntryBack [.slice A l.length c] w fun v w2 => v = .bool true ∧ Below w.heap.size w w2 := by
  refine ret_of fn_tailracekeep_EntryBack rfl rfl ?_
  have H := Hp.startRd hr
  refine cw_seq ?_
  refine cw_region ?_ -- region 0 low.go:36
  refine l1 (asB_r rfl) rfl rfl rfl ?_
  refine lw_nil ?_
  refine cw_seq ?_
  refine cw_region ?_ -- region 1 low.go:37
  refine l1 (mvS_r rfl) rfl rfl rfl ?_
  refine cal cb_tailracekeep_many (many_ok l 30 _ _ _ (H.rd0 0 rfl) hok hl (by decide)) rfl rfl ?_
  rintro _ w2 ⟨Aes, ces, rfl, hr1, hces, hb1⟩; replace H := H.learnRd hb1 hr1; clear hr1 hb1
  generalize hes : manyE l 30 = es at H hces ⊢
  refine l1 (asS_r rfl) rfl rfl rfl ?_
  refine lw_nil ?_
  refine cw_seq ?_
  refine cw_region ?_ -- region 2 low.go:38
  refine l1 (asS_r rfl) rfl rfl rfl ?_
  refine lw_nil ?_
  refine cw_seq ?_
  refine cw_seq ?_
  refine cw_region ?_ -- region 3 low.go:39
  refine l1 (mvS_r rfl) rfl rfl rfl ?_
  refine l1 (lenS_r len_LEntry rfl) rfl rfl rfl ?_
  refine l1 (mvI_r rfl) rfl rfl rfl ?_
  refine lw_nil ?_
  refine cw_block ?_ -- block 0
  have hgood : ∀ e ∈ es, Good e := by rw [← hes]; exact manyE_good
  have hel : es.length ≤ 30 := by rw [← hes]; exact manyE_len l 30
  have hfl := flat_le es hgood
  refine cw_loop (τ := Nat × Option Addr × Nat) [2, 4, 6, 7, 8, 15, 16, 17, 18, 19, 20, 21, 22, 23, 24, 25, 26, 27, 28, 29, 30, 31, 32, 33, 34] (fun (k, A1, c1) => [(4, .slice A1 (flat (es.take k)).length c1), (15, .int .i64 (k : Nat))]) (fun (k, A1, c1) w' => k ≤ es.length ∧ (flat (es.take k)).length ≤ c1 ∧ ∃ L', Own byteL (.slice A1 (flat (es.take k)).length c1) T_byte (flat (es.take k)) L' ∧ Hp w w' ([] ++ L' ++ []) [FRd entL w.heap.size w2.heap.size Aes es, FRd rawL 0 w.heap.size A l]) (fun (k, _, _) => es.length - k) (0, none, 0) ⟨by omega, by simp [flat], [], Own.nil, H⟩ (sl2 rfl rfl) ?_ -- LOOP 0
  rintro ⟨k, A1, c1⟩ ρ1 w3 ⟨hk, hc1, L1, ho, H⟩
  show CW _ _ _ _ (updL (ovr _ _ ρ1) [(4, .slice A1 (flat (es.take k)).length c1), (15, .int .i64 (k : Nat))]) w3
  refine cw_seq ?_
  refine cw_region ?_ -- region 4 low.go:39
  refine lwD (lss_r rfl rfl) rfl rfl rfl (fun h16 => ?_) (fun h16 => ?_)
  · -- slot 16 True
    refine lw_nil ?_
    refine cw_seq ?_
    refine cw_true rfl ?_
    refine cw_skip ?_
    refine cw_seq ?_
    refine cw_block ?_ -- block 1
    refine cw_seq ?_
    refine cw_region ?_ -- region 5 low.go:39
    refine ixF H 0 rfl sl_LEntry rfl rfl (by omega) (by omega) rfl ?_; intro b4 o4 x4 e4
    have hg := hgood _ (List.mem_of_getElem? e4.at_)
    have hk1 : k + 1 ≤ es.length := (getE e4.at_).1
    have hle := flat_take_le es (k + 1)
    have hle2 : (flat (es.take (k + 1))).length = (flat (es.take k)).length + (encB x4).length := by rw [flat_take_succ e4.at_, List.length_append]
    refine l1 (ldA_r (xs := Ent.c x4) agg_Entry rfl rfl e4.cl) rfl rfl rfl ?_
    refine alo H z_Entry rfl ?_; intro w5 b6 H
    refine stW H 0 siz_Entry rfl rfl rfl rfl rfl rfl ?_; intro w6 H
    refine lw_nil ?_
    refine cw_seq ?_
    refine cw_region ?_ -- region 6 low.go:40
    refine l1 (ldW_r agg_Entry rfl (H.ent (i := 0) rfl) rfl) rfl rfl rfl ?_
    refine cal cb_wire_Encode (encode_ok x4 _ hg) rfl rfl ?_
    rintro _ w8 ⟨A7, c7, rfl, hr7, hc7, hb7⟩; replace H := H.learnRd hb7 hr7; clear hr7 hb7
    refine l1 (mvU_r rfl) rfl rfl rfl ?_
    refine l1 (exS_r rfl rfl) rfl rfl rfl ?_
    refine l1 (exI_r rfl rfl) rfl rfl rfl ?_
    refine l1 (asS_r rfl) rfl rfl rfl ?_
    refine l1 (asI_r rfl) rfl rfl rfl ?_
    refine lw_nil ?_
    refine cw_seq ?_
    refine cw_seq ?_
    refine cw_region ?_ -- region 7 low.go:41
    refine l1 (mvI_r rfl) rfl rfl rfl ?_
    refine l1 (neqF_r rfl rfl rfl) rfl rfl rfl ?_
    refine l1 (mvB_r rfl) rfl rfl rfl ?_
    refine lwG rfl ?_
    refine l1 (ldW_r agg_Entry rfl (H.ent (i := 0) rfl) rfl) rfl rfl rfl ?_
    refine lwG rfl ?_
    refine cal cb_wire_Check (wcheck_ok x4 _) rfl rfl ?_
    rintro _ w9 ⟨rfl, hb⟩; replace H := H.later hb; clear hb
    refine lwG rfl ?_
    refine l1 (neqF_r rfl rfl hg) rfl rfl rfl ?_
    refine l1 (pkFB_r rfl rfl) rfl rfl rfl ?_
    refine lw_nil ?_
    refine cw_false rfl ?_
    refine cw_skip ?_
    refine cw_region ?_ -- region 9 low.go:44
    refine l1 (mvS_r rfl) rfl rfl rfl ?_
    refine l1 (mvS_r rfl) rfl rfl rfl ?_
    refine apO (Y := byteL) ap_Lbyte (K := [(b6, _)]) (L := L1) (M := []) H ho (news := encB x4) rfl rfl rfl (Rd.src (H.fact (i := 0) rfl)) (by omega) rfl ?_
    intro A3 c3 w10 L3 h3a _ ho3 H
    refine l1 (asS_r rfl) rfl rfl rfl ?_
    refine lw_nil ?_
    refine cw_region ?_ -- region 10 low.go:39
    refine l1 (add_r rfl rfl (by omega) (by omega)) rfl rfl rfl ?_
    refine l1 (mvI_r rfl) rfl rfl rfl ?_
    refine lw_nil ?_
    refine ⟨(k + 1, A3, c3), ⟨by omega, by rw [flat_take_succ e4.at_]; exact h3a, L3, by rw [flat_take_succ e4.at_]; exact ho3, H.forget (by simp) (by simp)⟩, sl2 (by rw [flat_take_succ e4.at_]; rfl) rfl, by repeat (first | exact Agr.refl _ _ | exact agr_ovr | refine agr_upd rfl ?_ | refine agr_updL _ rfl ?_), by show es.length - (k + 1) < es.length - k; omega⟩
  · -- slot 16 False
    have hke : k = es.length := by omega
    subst hke
    rw [List.take_length] at hc1 ho
    rw [List.take_length]
    refine lw_nil ?_
    refine cw_seq ?_
    refine cw_false rfl ?_
    refine cw_exit ?_ -- 0
    refine cw_seq ?_
    refine cw_region ?_ -- region 11 low.go:46
    refine l1 (mvS_r rfl) rfl rfl rfl ?_
    refine cal cb_wire_Decode (decode_ok (flat es) _ _ _ ((ho.rd H).mono (Nat.zero_le _) (Nat.le_refl _)) hc1 (by omega)) rfl rfl ?_
    rintro _ w12 ⟨fs, nfs, Afs, cfs, rfl, hdfs, hr11, hcfs, hb11⟩; replace H := H.learnRd hb11 hr11; clear hr11 hb11
    refine l1 (mvU_r rfl) rfl rfl rfl ?_
    refine l1 (exS_r rfl rfl) rfl rfl rfl ?_
    have e1 := (dec_fun hdfs (dec_flat es hgood)).1.symm
    have e2 := (dec_fun hdfs (dec_flat es hgood)).2
    subst e1; subst e2
    refine l1 (exI_r rfl rfl) rfl rfl rfl ?_
    refine l1 (asS_r rfl) rfl rfl rfl ?_
    refine l1 (asI_r rfl) rfl rfl rfl ?_
    refine lw_nil ?_
    refine cw_seq ?_
    refine cw_region ?_ -- region 12 low.go:47
    refine l1 (mvI_r rfl) rfl rfl rfl ?_
    refine l1 (mvS_r rfl) rfl rfl rfl ?_
    refine l1 (lenS_r len_Lbyte rfl) rfl rfl rfl ?_
    refine l1 (eqlT_r rfl rfl rfl) rfl rfl rfl ?_
    refine l1 (mvB_r rfl) rfl rfl rfl ?_
    refine lwG rfl ?_
    refine l1 (mvS_r rfl) rfl rfl rfl ?_
    refine lwG rfl ?_
    refine l1 (mvS_r rfl) rfl rfl rfl ?_
    refine lwG rfl ?_
    refine cal cb_slices_Equal_LEntry_Entry (eqEnt_ok es es _ _ _ _ _ (H.rd0 1 rfl) (H.rd0 0 rfl) (by omega)) rfl rfl ?_
    rintro _ w13 ⟨rfl, hb⟩; replace H := H.later hb; clear hb
    refine l1 (pkTB_r rfl rfl) rfl rfl rfl ?_
    refine l1 (asB_r rfl) rfl rfl rfl ?_
    refine lw_nil ?_
    refine cw_ret ?_
    exact fin1 (v := .bool (decide (es = es))) rfl rfl ⟨by simp, H.below⟩
end Go.Proofs.Ytemnchkebhclpaa
