/- V14: a part of the proofs over this seat: what stands in its theorems holds for every input that they name. -/
import Derived.Test.YtemnchkebhclpaaK2
import Derived.Test.YtemnchkebhclpaaGU
namespace Go.Proofs.Ytemnchkebhclpaa
open Go Go.Eng Go.RowKit
set_option linter.unusedSimpArgs false
open Go.Maps (Keyed)
theorem ent_nums {e : Ent} (h : Good e) : (0 ≤ e.pid ∧ e.pid ≤ 1073741824) ∧ (0 ≤ e.ver ∧ e.ver ≤ 1073741824) ∧ (0 ≤ e.seq ∧ e.seq ≤ 1073741824) := by
  obtain ⟨_, _, hn, _⟩ := entCheck_ok h
  exact ⟨hn e.pid (by simp [Ent.nums]), hn e.ver (by simp [Ent.nums]), hn e.seq (by simp [Ent.nums])⟩
def Last (l : List Ent) (f : Int × Int → Int) : Prop := ∀ p v : Int, p ≠ 0 → f (p, v) = (cnt l p v : Nat)
def Vers (l : List Ent) (f : Int → Int) : Prop := ∀ p : Int, p ≠ 0 → f p = 0 ∨ ∃ e ∈ l, e.pid = p ∧ e.ver = f p
theorem Last.skip {l : List Ent} {f : Int × Int → Int} (h : Last l f) {x : Ent} (hx : x.pid = 0 ∨ x.kind ≠ 1) : Last (l ++ [x]) f := fun p v hp => by
  rw [cnt_snoc, if_neg, Nat.add_zero]
  · exact h p v hp
  · rintro ⟨a, b, _⟩
    rcases hx with hx | hx
    · exact hp (b.symm.trans hx)
    · exact hx a
theorem Last.put {l : List Ent} {f : Int × Int → Int} (h : Last l f) {x : Ent} (hk : x.kind = 1) : Last (l ++ [x]) (setF f (x.pid, x.ver) (f (x.pid, x.ver) + 1)) := fun p v hp => by
  rw [cnt_snoc]
  unfold setF
  by_cases hq : (p, v) = (x.pid, x.ver)
  · rw [if_pos hq]
    cases hq
    rw [if_pos ⟨hk, rfl, rfl⟩, h _ _ hp]
    simp
  · rw [if_neg hq, if_neg (fun q => hq (by rw [q.2.1, q.2.2])), Nat.add_zero]
    exact h p v hp
theorem Vers.skip {l : List Ent} {f : Int → Int} (h : Vers l f) (x : Ent) : Vers (l ++ [x]) f := fun p hp => (h p hp).imp_right fun ⟨e, he, hh⟩ => ⟨e, List.mem_append_left _ he, hh⟩
theorem Vers.put {l : List Ent} {f : Int → Int} (h : Vers l f) (x : Ent) : Vers (l ++ [x]) (setF f x.pid x.ver) := fun p hp => by
  unfold setF
  by_cases hq : p = x.pid
  · rw [if_pos hq]
    exact .inr ⟨x, List.mem_append_right _ (List.mem_singleton_self _), hq.symm, rfl⟩
  · rw [if_neg hq]
    exact h.skip x p hp
theorem kvI_inj (a b : Int) (h : Value.int .i64 a = Value.int .i64 b) : a = b := by injection h
set_option maxHeartbeats 4000000 in
set_option maxRecDepth 10000 in
theorem onceEach_ok (l : List Raw) (A : Option Addr) (c : Nat) (w : World) (hr : Rd rawL 0 w.heap.size A l w) (hok : ∀ r ∈ l, r.ok) (hl : l.length ≤ 9223372036854775807) :
    Ret Try.prog i_tailracekeep_OnceEach [.slice A l.length c] w fun v w2 => v = .bool true ∧ Below w.heap.size w w2 := by
  refine ret_of fn_tailracekeep_OnceEach rfl rfl ?_
  have H := Hp.startRd hr
  refine cw_seq ?_
  refine cw_region ?_ -- region 0 low.go:167
  refine l1 (asB_r rfl) rfl rfl rfl ?_
  refine lw_nil ?_
  refine cw_seq ?_
  refine cw_seq ?_
  refine cw_region ?_ -- region 1 low.go:168
  refine cal cb_tailracekeep_viewTells (viewTells_ok _) rfl rfl ?_
  rintro _ w1 ⟨rfl, hb⟩; replace H := H.later hb; clear hb
  refine l1 (not_r rfl) rfl rfl rfl ?_
  refine lw_nil ?_
  refine cw_false rfl ?_
  refine cw_skip ?_
  refine cw_seq ?_
  refine cw_region ?_ -- region 3 low.go:171
  refine l1 (mvS_r rfl) rfl rfl rfl ?_
  refine cal cb_tailracekeep_many (many_ok l 60 _ _ _ (H.rd0 0 rfl) hok hl (by decide)) rfl rfl ?_
  rintro _ w3 ⟨Aes, ces, rfl, hr2, hces, hb2⟩; replace H := H.learnRd hb2 hr2; clear hr2 hb2
  generalize hes : manyE l 60 = es at H hces ⊢
  have hgood : ∀ e ∈ es, Good e := by rw [← hes]; exact manyE_good
  have hel : es.length ≤ 60 := by rw [← hes]; exact manyE_len l 60
  refine cal cb_tailracekeep_sent (sent_ok es _ _ _ (H.rd0 0 rfl) (by omega) (seqB_good hgood)) rfl rfl ?_
  rintro _ w5 ⟨Ass, css, rfl, hr4, hcss, hb4⟩; replace H := H.learnRd hb4 hr4; clear hr4 hb4
  have hsubss := sentE_sub es
  have hsentss := sentE_sent es
  generalize hdefss : sentE es = ss at H hcss hsubss hsentss ⊢
  have hlss : ss.length ≤ 60 := by have := hsubss.2; omega
  have hgss : ∀ e ∈ ss, Good e := fun e he => hgood e (hsubss.1 e he)
  refine l1 (asS_r rfl) rfl rfl rfl ?_
  refine lw_nil ?_
  refine cw_seq ?_
  refine cw_region ?_ -- region 4 low.go:172
  refine mkmI H rfl ?_; intro w6 b14 H
  refine l1 (asM_r rfl) rfl rfl rfl ?_
  refine lw_nil ?_
  refine cw_seq ?_
  refine cw_region ?_ -- region 5 low.go:173
  refine mkmI H rfl ?_; intro w7 b15 H
  refine l1 (asM_r rfl) rfl rfl rfl ?_
  refine lw_nil ?_
  refine cw_seq ?_
  refine cw_seq ?_
  refine cw_region ?_ -- region 6 low.go:174
  refine l1 (mvS_r rfl) rfl rfl rfl ?_
  refine l1 (lenS_r len_LEntry rfl) rfl rfl rfl ?_
  refine l1 (mvI_r rfl) rfl rfl rfl ?_
  refine lw_nil ?_
  refine cw_block ?_ -- block 0
  refine cw_loop (τ := Nat × Array MapEntry × Nat × Array MapEntry × Nat × (Int × Int → Int) × (Int → Int)) [2, 7, 8, 18, 19, 20, 21, 22, 23, 24, 25, 26, 27, 28, 29, 30, 31, 32, 33, 34, 35, 36, 37, 38, 39, 40, 41, 42, 43, 44, 45, 46, 47, 48, 49, 50, 51, 52, 53, 54, 55, 56, 57] (fun (k, _) => [(18, .int .i64 (k : Nat))]) (fun (k, esL, clL, esV, clV, fl, fv) w' => k ≤ ss.length ∧ MapF Try.prog 54 kvP fl esL clL ∧ MapF Try.prog 3 (Value.int .i64) fv esV clV ∧ Last (ss.take k) fl ∧ Vers (ss.take k) fv ∧ Hp w w' [(b15, .map esV clV), (b14, .map esL clL)] [FRd entL w3.heap.size w5.heap.size Ass ss, FRd entL w1.heap.size w3.heap.size Aes es, FRd rawL 0 w.heap.size A l]) (fun (k, _) => ss.length - k) (0, #[], 0, #[], 0, fun _ => 0, fun _ => 0) ⟨by omega, MapF.nil, MapF.nil, fun p v _ => by simp [cnt], fun p _ => .inl rfl, H⟩ (sl1 rfl) ?_ -- LOOP 0
  rintro ⟨k, esL, clL, esV, clV, fl, fv⟩ ρ1 w8 ⟨hk, hML, hMV, hLs, hVs, H⟩
  show CW _ _ _ _ (updL (ovr _ _ ρ1) [(18, .int .i64 (k : Nat))]) w8
  refine cw_seq ?_
  refine cw_region ?_ -- region 7 low.go:174
  refine lwD (lss_r rfl rfl) rfl rfl rfl (fun h19 => ?_) (fun h19 => ?_)
  · -- slot 19 True
    refine lw_nil ?_
    refine cw_seq ?_
    refine cw_true rfl ?_
    refine cw_skip ?_
    refine cw_seq ?_
    refine cw_block ?_ -- block 1
    refine cw_seq ?_
    refine cw_region ?_ -- region 8 low.go:174
    refine ixF H 0 rfl sl_LEntry rfl rfl (by omega) (by omega) rfl ?_; intro b9 o9 x9 e9
    have hxk := e9.at_
    have hgx := hgss _ (List.mem_of_getElem? hxk)
    obtain ⟨⟨hp1, hp2⟩, ⟨hv1, hv2⟩, ⟨hq1, hq2⟩⟩ := ent_nums hgx
    refine l1 (ldA_r (xs := Ent.c x9) agg_Entry rfl rfl e9.cl) rfl rfl rfl ?_
    refine alo H z_Entry rfl ?_; intro w10 b7 H
    refine stW H 0 siz_Entry rfl rfl rfl rfl rfl rfl ?_; intro w11 H
    refine lw_nil ?_
    refine cw_seq ?_
    refine cw_seq ?_
    refine cw_region ?_ -- region 9 low.go:175
    refine l1 (fad_r fd_Entry_1 rfl) rfl rfl rfl ?_
    refine l1 (ld_r one_int rfl (cellE (H.ent (i := 0) rfl) rfl)) rfl rfl rfl ?_
    refine lwD (eql_r rfl rfl) rfl rfl rfl (fun h24 => ?_) (fun h24 => ?_)
    · -- slot 24 True
      refine lw_nil ?_
      refine cw_true rfl ?_
      refine cw_exit ?_ -- 1
      refine cw_region ?_ -- region 18 low.go:174
      refine l1 (add_r rfl rfl (by omega) (by omega)) rfl rfl rfl ?_
      refine l1 (mvI_r rfl) rfl rfl rfl ?_
      refine lw_nil ?_
      refine ⟨(k + 1, esL, clL, esV, clV, fl, fv), ⟨by omega, hML, hMV, ?_, ?_, H.forget (.cons _ (List.Sublist.refl _)) (by simp)⟩, sl1 rfl, by repeat (first | exact Agr.refl _ _ | exact agr_ovr | refine agr_upd rfl ?_ | refine agr_updL _ rfl ?_ | refine agr_ovr2 rfl ?_), by show ss.length - (k + 1) < ss.length - k; omega⟩
      · rw [take_snoc hxk]; exact hLs.skip (.inl h24)
      · rw [take_snoc hxk]; exact hVs.skip _
    · -- slot 24 False
      refine lw_nil ?_
      refine cw_false rfl ?_
      refine cw_skip ?_
      refine cw_seq ?_
      refine cw_seq ?_
      refine cw_region ?_ -- region 10 low.go:178
      refine l1 (fad_r fd_Entry_2 rfl) rfl rfl rfl ?_
      refine l1 (ld_r one_int rfl (cellE (H.ent (i := 0) rfl) rfl)) rfl rfl rfl ?_
      refine l1 (mvM_r rfl) rfl rfl rfl ?_
      refine l1 (fad_r fd_Entry_1 rfl) rfl rfl rfl ?_
      refine l1 (ld_r one_int rfl (cellE (H.ent (i := 0) rfl) rfl)) rfl rfl rfl ?_
      refine l1 (lkp_r und53 z_int K3 kvI_inj hMV (key3 hp1 hp2) rfl rfl (H.ent (i := 1) rfl)) rfl rfl rfl ?_
      refine lwD (lss_r rfl rfl) rfl rfl rfl (fun h31 => ?_) (fun h31 => ?_)
      · -- slot 31 True
        exfalso
        rcases hVs _ h24 with h0 | ⟨e0, he0, hpe, hve⟩
        · omega
        · have := sent_ver hsentss hxk h24 e0 he0 hpe; omega
      · -- slot 31 False
        refine lw_nil ?_
        refine cw_false rfl ?_
        refine cw_skip ?_
        refine cw_seq ?_
        refine cw_region ?_ -- region 12 low.go:181
        refine l1 (mvM_r rfl) rfl rfl rfl ?_
        refine l1 (fad_r fd_Entry_1 rfl) rfl rfl rfl ?_
        refine l1 (ld_r one_int rfl (cellE (H.ent (i := 0) rfl) rfl)) rfl rfl rfl ?_
        refine l1 (fad_r fd_Entry_2 rfl) rfl rfl rfl ?_
        refine l1 (ld_r one_int rfl (cellE (H.ent (i := 0) rfl) rfl)) rfl rfl rfl ?_
        refine mpU H 1 und53 K3 kvI_inj hMV (key3 hp1 hp2) rfl rfl rfl rfl ?_; intro w12 esV2 clV2 hMV2 H
        refine lw_nil ?_
        refine cw_seq ?_
        refine cw_region ?_ -- region 13 low.go:182
        refine l1 (fad_r fd_Entry_4 rfl) rfl rfl rfl ?_
        refine l1 (ld_r one_int rfl (cellE (H.ent (i := 0) rfl) rfl)) rfl rfl rfl ?_
        refine lwD (eql_r rfl rfl) rfl rfl rfl (fun h39 => ?_) (fun h39 => ?_)
        · -- slot 39 True
          refine lw_nil ?_
          refine cw_true rfl ?_
          refine cw_seq ?_
          have hseq : x9.seq = fl (x9.pid, x9.ver) := by rw [hLs _ _ h24]; exact sent_seq hsentss hxk h24 h39
          have hk54 := key54 hp1 hp2 hv1 hv2
          refine cw_region ?_ -- region 14 low.go:183
          refine l1 (fad_r fd_Entry_1 rfl) rfl rfl rfl ?_
          refine l1 (ld_r one_int rfl (cellE (H.ent (i := 0) rfl) rfl)) rfl rfl rfl ?_
          refine l1 (fad_r fd_Entry_2 rfl) rfl rfl rfl ?_
          refine l1 (ld_r one_int rfl (cellE (H.ent (i := 0) rfl) rfl)) rfl rfl rfl ?_
          refine l1 (blda_r (cs := #[.int .i64 x9.pid, .int .i64 x9.ver]) und54 siz_int z_54 (by kernel_rfl)) rfl rfl rfl ?_
          refine alo H z_54 rfl ?_; intro w13 b8 H
          refine stN H 0 (#[.int .i64 x9.pid, .int .i64 x9.ver]) siz_54 rfl rfl rfl rfl rfl (by kernel_rfl) (by kernel_rfl) ?_; intro w14 H
          refine lw_nil ?_
          refine cw_seq ?_
          refine cw_seq ?_
          -- region 15 draws
          refine cw_draw mixed [0, 1, 2, 3, 4, 5] [] [] [0, 2, 5] (sp []) (by kernel_rfl) (by kernel_rfl) (by kernel_rfl) (by kernel_rfl) (fun _ _ _ h => h) (sp_st _) ?_
          refine aw rfl rfl rfl rfl rfl (fun w' hw' => fad_r fd_Entry_3 rfl) ?_
          refine aw rfl rfl rfl rfl rfl (fun w' hw' => ld_r one_int rfl (cellE ((H.later hw').ent (i := 1) rfl) rfl)) ?_
          refine aw rfl rfl rfl rfl rfl (fun w' hw' => mvM_r rfl) ?_
          refine aw rfl rfl rfl rfl rfl (fun w' hw' => ldW_r agg_54 rfl ((H.later hw').ent (i := 0) rfl) rfl) ?_
          refine aw rfl rfl rfl rfl rfl (fun w' hw' => lkp_r (kv := kvP) (k := (x9.pid, x9.ver)) und52 z_int K54 kvP_inj hML hk54 rfl rfl ((H.later hw').ent (i := 3) rfl)) ?_
          refine aw rfl rfl rfl rfl rfl (fun w' hw' => neqF_r rfl rfl hseq) ?_
          refine aw_nil ?_
          intro w15 hw' hF
          replace H := H.later hw'; clear hw' hF
          refine lw_nil ?_
          refine cw_false rfl ?_
          refine cw_skip ?_
          -- region 17 draws
          refine cw_tree mixed [0] [1, 2, 3, 4, 5, 6] [0] 6 (by kernel_rfl) (by kernel_rfl) (by kernel_rfl) (fun _ _ _ h => h) ?_
          refine aw rfl rfl rfl rfl rfl (fun w' hw' => mvM_r rfl) ?_
          refine aw_nil ?_
          intro w16 hw'; replace H := H.later hw'; clear hw'
          refine xw1 1 (by kernel_rfl) rfl ?_ 
          refine l1 (ldW_r agg_54 rfl (H.ent (i := 0) rfl) rfl) rfl rfl rfl ?_
          refine lw_nil ?_
          refine xw2 2 4 (by kernel_rfl) rfl rfl ?_ ?_ 
          · -- first 2
            refine l1 (lkp_r (kv := kvP) (k := (x9.pid, x9.ver)) und52 z_int K54 kvP_inj hML hk54 rfl rfl (H.ent (i := 3) rfl)) rfl rfl rfl ?_
            refine lw_nil ?_
            refine xw2 3 4 (by kernel_rfl) rfl rfl ?_ ?_ 
            · -- first 3
              refine l1 (add_r rfl rfl (by omega) (by omega)) rfl rfl rfl ?_
              refine lw_nil ?_
              refine xw1 4 (by kernel_rfl) rfl ?_ 
              refine mpE (kv := kvP) (k := (x9.pid, x9.ver)) H 3 und52 z_int K54 kvP_inj hML hk54 rfl rfl rfl rfl ?_; intro w17 esE clE jE eE hME hjE hkE H
              refine lw_nil ?_
              refine xw1 5 (by kernel_rfl) rfl ?_ 
              refine l1 (exI_r rfl rfl) rfl rfl rfl ?_
              refine lw_nil ?_
              refine xw1 6 (by kernel_rfl) rfl ?_ 
              refine enS H 3 kvP_inj hME hjE hkE rfl rfl rfl rfl ?_; intro w18 esL2 clL2 hML2 H
              refine lw_nil ?_
              refine xw_end (by kernel_rfl) ?_
              refine cw_region ?_ -- region 18 low.go:174
              refine l1 (add_r rfl rfl (by omega) (by omega)) rfl rfl rfl ?_
              refine l1 (mvI_r rfl) rfl rfl rfl ?_
              refine lw_nil ?_
              refine ⟨(k + 1, esL2, clL2, esV2, clV2, setF fl (x9.pid, x9.ver) (fl (x9.pid, x9.ver) + 1), setF fv x9.pid x9.ver), ⟨by omega, hML2, hMV2, ?_, ?_, H.forget (.cons _ (.cons _ (List.Sublist.refl _))) (by simp)⟩, sl1 rfl, by repeat (first | exact Agr.refl _ _ | exact agr_ovr | refine agr_upd rfl ?_ | refine agr_updL _ rfl ?_ | refine agr_ovr2 rfl ?_), by show ss.length - (k + 1) < ss.length - k; omega⟩
              · rw [take_snoc hxk]; exact hLs.put h39
              · rw [take_snoc hxk]; exact hVs.put _
            · -- first 4
              refine mpE (kv := kvP) (k := (x9.pid, x9.ver)) H 3 und52 z_int K54 kvP_inj hML hk54 rfl rfl rfl rfl ?_; intro w19 esE clE jE eE hME hjE hkE H
              refine lw_nil ?_
              refine xw2 3 5 (by kernel_rfl) rfl rfl ?_ ?_ 
              · -- first 3
                refine l1 (add_r rfl rfl (by omega) (by omega)) rfl rfl rfl ?_
                refine lw_nil ?_
                refine xw1 5 (by kernel_rfl) rfl ?_ 
                refine l1 (exI_r rfl rfl) rfl rfl rfl ?_
                refine lw_nil ?_
                refine xw1 6 (by kernel_rfl) rfl ?_ 
                refine enS H 3 kvP_inj hME hjE hkE rfl rfl rfl rfl ?_; intro w20 esL2 clL2 hML2 H
                refine lw_nil ?_
                refine xw_end (by kernel_rfl) ?_
                refine cw_region ?_ -- region 18 low.go:174
                refine l1 (add_r rfl rfl (by omega) (by omega)) rfl rfl rfl ?_
                refine l1 (mvI_r rfl) rfl rfl rfl ?_
                refine lw_nil ?_
                refine ⟨(k + 1, esL2, clL2, esV2, clV2, setF fl (x9.pid, x9.ver) (fl (x9.pid, x9.ver) + 1), setF fv x9.pid x9.ver), ⟨by omega, hML2, hMV2, ?_, ?_, H.forget (.cons _ (.cons _ (List.Sublist.refl _))) (by simp)⟩, sl1 rfl, by repeat (first | exact Agr.refl _ _ | exact agr_ovr | refine agr_upd rfl ?_ | refine agr_updL _ rfl ?_ | refine agr_ovr2 rfl ?_), by show ss.length - (k + 1) < ss.length - k; omega⟩
                · rw [take_snoc hxk]; exact hLs.put h39
                · rw [take_snoc hxk]; exact hVs.put _
              · -- first 5
                refine l1 (exI_r rfl rfl) rfl rfl rfl ?_
                refine lw_nil ?_
                refine xw1 3 (by kernel_rfl) rfl ?_ 
                refine l1 (add_r rfl rfl (by omega) (by omega)) rfl rfl rfl ?_
                refine lw_nil ?_
                refine xw1 6 (by kernel_rfl) rfl ?_ 
                refine enS H 3 kvP_inj hME hjE hkE rfl rfl rfl rfl ?_; intro w21 esL2 clL2 hML2 H
                refine lw_nil ?_
                refine xw_end (by kernel_rfl) ?_
                refine cw_region ?_ -- region 18 low.go:174
                refine l1 (add_r rfl rfl (by omega) (by omega)) rfl rfl rfl ?_
                refine l1 (mvI_r rfl) rfl rfl rfl ?_
                refine lw_nil ?_
                refine ⟨(k + 1, esL2, clL2, esV2, clV2, setF fl (x9.pid, x9.ver) (fl (x9.pid, x9.ver) + 1), setF fv x9.pid x9.ver), ⟨by omega, hML2, hMV2, ?_, ?_, H.forget (.cons _ (.cons _ (List.Sublist.refl _))) (by simp)⟩, sl1 rfl, by repeat (first | exact Agr.refl _ _ | exact agr_ovr | refine agr_upd rfl ?_ | refine agr_updL _ rfl ?_ | refine agr_ovr2 rfl ?_), by show ss.length - (k + 1) < ss.length - k; omega⟩
                · rw [take_snoc hxk]; exact hLs.put h39
                · rw [take_snoc hxk]; exact hVs.put _
          · -- first 4
            refine mpE (kv := kvP) (k := (x9.pid, x9.ver)) H 3 und52 z_int K54 kvP_inj hML hk54 rfl rfl rfl rfl ?_; intro w22 esE clE jE eE hME hjE hkE H
            refine lw_nil ?_
            refine xw2 2 5 (by kernel_rfl) rfl rfl ?_ ?_ 
            · -- first 2
              refine l1 (lkp_r (kv := kvP) (k := (x9.pid, x9.ver)) und52 z_int K54 kvP_inj hME hk54 rfl rfl (H.ent (i := 3) rfl)) rfl rfl rfl ?_
              refine lw_nil ?_
              refine xw2 3 5 (by kernel_rfl) rfl rfl ?_ ?_ 
              · -- first 3
                refine l1 (add_r rfl rfl (by omega) (by omega)) rfl rfl rfl ?_
                refine lw_nil ?_
                refine xw1 5 (by kernel_rfl) rfl ?_ 
                refine l1 (exI_r rfl rfl) rfl rfl rfl ?_
                refine lw_nil ?_
                refine xw1 6 (by kernel_rfl) rfl ?_ 
                refine enS H 3 kvP_inj hME hjE hkE rfl rfl rfl rfl ?_; intro w23 esL2 clL2 hML2 H
                refine lw_nil ?_
                refine xw_end (by kernel_rfl) ?_
                refine cw_region ?_ -- region 18 low.go:174
                refine l1 (add_r rfl rfl (by omega) (by omega)) rfl rfl rfl ?_
                refine l1 (mvI_r rfl) rfl rfl rfl ?_
                refine lw_nil ?_
                refine ⟨(k + 1, esL2, clL2, esV2, clV2, setF fl (x9.pid, x9.ver) (fl (x9.pid, x9.ver) + 1), setF fv x9.pid x9.ver), ⟨by omega, hML2, hMV2, ?_, ?_, H.forget (.cons _ (.cons _ (List.Sublist.refl _))) (by simp)⟩, sl1 rfl, by repeat (first | exact Agr.refl _ _ | exact agr_ovr | refine agr_upd rfl ?_ | refine agr_updL _ rfl ?_ | refine agr_ovr2 rfl ?_), by show ss.length - (k + 1) < ss.length - k; omega⟩
                · rw [take_snoc hxk]; exact hLs.put h39
                · rw [take_snoc hxk]; exact hVs.put _
              · -- first 5
                refine l1 (exI_r rfl rfl) rfl rfl rfl ?_
                refine lw_nil ?_
                refine xw1 3 (by kernel_rfl) rfl ?_ 
                refine l1 (add_r rfl rfl (by omega) (by omega)) rfl rfl rfl ?_
                refine lw_nil ?_
                refine xw1 6 (by kernel_rfl) rfl ?_ 
                refine enS H 3 kvP_inj hME hjE hkE rfl rfl rfl rfl ?_; intro w24 esL2 clL2 hML2 H
                refine lw_nil ?_
                refine xw_end (by kernel_rfl) ?_
                refine cw_region ?_ -- region 18 low.go:174
                refine l1 (add_r rfl rfl (by omega) (by omega)) rfl rfl rfl ?_
                refine l1 (mvI_r rfl) rfl rfl rfl ?_
                refine lw_nil ?_
                refine ⟨(k + 1, esL2, clL2, esV2, clV2, setF fl (x9.pid, x9.ver) (fl (x9.pid, x9.ver) + 1), setF fv x9.pid x9.ver), ⟨by omega, hML2, hMV2, ?_, ?_, H.forget (.cons _ (.cons _ (List.Sublist.refl _))) (by simp)⟩, sl1 rfl, by repeat (first | exact Agr.refl _ _ | exact agr_ovr | refine agr_upd rfl ?_ | refine agr_updL _ rfl ?_ | refine agr_ovr2 rfl ?_), by show ss.length - (k + 1) < ss.length - k; omega⟩
                · rw [take_snoc hxk]; exact hLs.put h39
                · rw [take_snoc hxk]; exact hVs.put _
            · -- first 5
              refine l1 (exI_r rfl rfl) rfl rfl rfl ?_
              refine lw_nil ?_
              refine xw1 2 (by kernel_rfl) rfl ?_ 
              refine l1 (lkp_r (kv := kvP) (k := (x9.pid, x9.ver)) und52 z_int K54 kvP_inj hME hk54 rfl rfl (H.ent (i := 3) rfl)) rfl rfl rfl ?_
              refine lw_nil ?_
              refine xw1 3 (by kernel_rfl) rfl ?_ 
              refine l1 (add_r rfl rfl (by omega) (by omega)) rfl rfl rfl ?_
              refine lw_nil ?_
              refine xw1 6 (by kernel_rfl) rfl ?_ 
              refine enS H 3 kvP_inj hME hjE hkE rfl rfl rfl rfl ?_; intro w25 esL2 clL2 hML2 H
              refine lw_nil ?_
              refine xw_end (by kernel_rfl) ?_
              refine cw_region ?_ -- region 18 low.go:174
              refine l1 (add_r rfl rfl (by omega) (by omega)) rfl rfl rfl ?_
              refine l1 (mvI_r rfl) rfl rfl rfl ?_
              refine lw_nil ?_
              refine ⟨(k + 1, esL2, clL2, esV2, clV2, setF fl (x9.pid, x9.ver) (fl (x9.pid, x9.ver) + 1), setF fv x9.pid x9.ver), ⟨by omega, hML2, hMV2, ?_, ?_, H.forget (.cons _ (.cons _ (List.Sublist.refl _))) (by simp)⟩, sl1 rfl, by repeat (first | exact Agr.refl _ _ | exact agr_ovr | refine agr_upd rfl ?_ | refine agr_updL _ rfl ?_ | refine agr_ovr2 rfl ?_), by show ss.length - (k + 1) < ss.length - k; omega⟩
              · rw [take_snoc hxk]; exact hLs.put h39
              · rw [take_snoc hxk]; exact hVs.put _
        · -- slot 39 False
          refine lw_nil ?_
          refine cw_false rfl ?_
          refine cw_skip ?_
          refine cw_region ?_ -- region 18 low.go:174
          refine l1 (add_r rfl rfl (by omega) (by omega)) rfl rfl rfl ?_
          refine l1 (mvI_r rfl) rfl rfl rfl ?_
          refine lw_nil ?_
          refine ⟨(k + 1, esL, clL, esV2, clV2, fl, setF fv x9.pid x9.ver), ⟨by omega, hML, hMV2, ?_, ?_, H.forget (.cons _ (List.Sublist.refl _)) (by simp)⟩, sl1 rfl, by repeat (first | exact Agr.refl _ _ | exact agr_ovr | refine agr_upd rfl ?_ | refine agr_updL _ rfl ?_ | refine agr_ovr2 rfl ?_), by show ss.length - (k + 1) < ss.length - k; omega⟩
          · rw [take_snoc hxk]; exact hLs.skip (.inr h39)
          · rw [take_snoc hxk]; exact hVs.put _
  · -- slot 19 False
    refine lw_nil ?_
    refine cw_seq ?_
    refine cw_false rfl ?_
    refine cw_exit ?_ -- 0
    refine cw_seq ?_
    refine cw_region ?_ -- region 19 low.go:190
    refine l1 (asB_r rfl) rfl rfl rfl ?_
    refine lw_nil ?_
    refine cw_ret ?_
    exact fin1 (v := .bool true) rfl rfl ⟨rfl, H.below⟩
end Go.Proofs.Ytemnchkebhclpaa
