/- W7: a part of the proofs over this seat: what stands in its theorems holds for every input that they name. -/
import Derived.Test.YtemnchkebhclpaaW6
namespace Go.Proofs.Ytemnchkebhclpaa
open Go Go.Eng Go.RowKit

/-- the entry that is first, and how many bytes it takes -/
def step : List UInt8 → Option (Ent × Nat)
  | [] => none
  | n :: r =>
    if n.toNat = 0 ∨ r.length < n.toNat + 2 then none
    else if sumB (r.take n.toNat) ≠ (r.getD n.toNat 0).toNat * 256 + (r.getD (n.toNat + 1) 0).toNat then none
    else if bodyOk (r.headD 0) (r.take n.toNat).tail = true then some ((bodyE (r.headD 0) (r.take n.toNat).tail).1, n.toNat + 3) else none
/-- what Decode makes of bytes -/
inductive Dec : List UInt8 → List Ent → Nat → Prop
  | stop {l : List UInt8} (h : step l = none) : Dec l [] 0
  | go {l : List UInt8} {e : Ent} {k n : Nat} {es : List Ent} (h : step l = some (e, k)) (hd : Dec (l.drop k) es n) : Dec l (e :: es) (k + n)

theorem or_lo {a b : Nat} (hb : b < 256) : a * 2 ^ 8 ||| b = a * 256 + b := by
  have := Nat.two_pow_add_eq_or_of_lt (i := 8) (b := b) (by simpa using hb) a
  rw [Nat.mul_comm, ← this]
theorem step_le {l : List UInt8} {e : Ent} {k : Nat} (h : step l = some (e, k)) : 4 ≤ k ∧ k ≤ l.length := by
  cases l with
  | nil => cases h
  | cons n r =>
    simp only [step] at h
    split at h; · cases h
    split at h; · cases h
    split at h
    · injection h with h; injection h with h1 h2
      rename_i h3 _ _
      simp only [List.length_cons]
      omega
    · cases h

set_option maxRecDepth 10000 in
theorem decode_ok (l : List UInt8) (A : Option Addr) (c : Nat) (w : World) (hr : Rd byteL 0 w.heap.size A l w) (hc : l.length ≤ c) (hbd : l.length ≤ 1000000000000) :
    Ret Try.prog i_wire_Decode [.slice A l.length c] w fun v w2 => ∃ es n A' c', v = .tuple #[.slice A' es.length c', .int .i64 (n : Nat)] ∧ Dec l es n ∧ Rd entL w.heap.size w2.heap.size A' es w2 ∧ es.length ≤ c' ∧ Below w.heap.size w w2 := by
  refine ret_of fn_wire_Decode rfl rfl ?_
  have H := Hp.start w
  refine cw_seq ?_
  refine cw_region ?_ -- region 0
  refine asS rfl rfl ?_  -- 2 wire.go:95
  refine asI rfl rfl ?_  -- 3 wire.go:95
  refine lw_nil ?_
  refine cw_seq ?_
  refine cw_region ?_ -- region 1
  refine asS rfl rfl ?_  -- 4 wire.go:96
  refine lw_nil ?_
  refine cw_seq ?_
  refine cw_region ?_ -- region 2
  refine asI rfl rfl ?_  -- 5 wire.go:97
  refine lw_nil ?_
  refine cw_seq ?_
  refine cw_block ?_ -- block 0
  refine cw_loop (τ := Nat × List Ent × Option Addr × Nat) [4, 5, 6, 7, 8, 9, 10, 11, 12, 13, 14, 15, 16, 17, 18, 19, 20, 21, 22, 23, 24, 25, 26, 27, 28, 29, 30, 31, 32, 33, 34, 35, 36, 37, 38, 39, 40, 41, 42, 43, 44, 45, 46, 47, 48, 49, 50, 51, 52, 53, 54, 55, 56, 57, 58, 59, 60, 61, 62, 63, 64, 65, 66, 67, 68, 69, 70, 71, 72, 73]
    (fun (at_, out, A1, c1) => [(4, .slice A1 out.length c1), (5, .int .i64 (at_ : Nat))])
    (fun (at_, out, A1, c1) w' => at_ ≤ l.length ∧ out.length ≤ at_ ∧ (∀ es n, Dec (l.drop at_) es n → Dec l (out ++ es) (at_ + n)) ∧ ∃ L', Own entL (.slice A1 out.length c1) T_Entry out L' ∧ Hp w w' ([] ++ L' ++ []) [])
    (fun (at_, _, _, _) => l.length - at_) (0, [], none, 0) ⟨by omega, by simp, fun es n h => by simpa using h, [], Own.nil, H⟩ (sl2 rfl rfl) ?_ -- LOOP
  rintro ⟨at_, out, A1, c1⟩ ρ1 w1 ⟨hat, hout, hdec, L1, ho, H⟩
  show CW _ _ _ _ (updL (ovr _ _ ρ1) [(4, .slice A1 out.length c1), (5, .int .i64 (at_ : Nat))]) w1
  have hfin : ∀ {w2 : World}, step (l.drop at_) = none → Hp w w2 ([] ++ L1 ++ []) [] → ∃ es n A' c', (Value.tuple #[.slice A1 out.length c1, .int .i64 (at_ : Nat)]) = .tuple #[.slice A' es.length c', .int .i64 (n : Nat)] ∧ Dec l es n ∧ Rd entL w.heap.size w2.heap.size A' es w2 ∧ es.length ≤ c' ∧ Below w.heap.size w w2 := fun hs H => by
    have hd := hdec [] 0 (.stop hs)
    rw [List.append_nil, Nat.add_zero] at hd
    obtain ⟨A2, c2, he, hlc, -⟩ := ho.form
    injection he with h1 h2 h3
    subst h3
    exact ⟨out, at_, A1, c1, rfl, hd, ho.rd H, hlc, H.below⟩
  refine cw_seq ?_
  refine cw_seq ?_
  refine cw_region ?_ -- region 3
  refine mvI rfl rfl ?_  -- 10 wire.go:98
  refine mvS rfl rfl ?_  -- 11 wire.go:98
  refine lenS len_Lbyte rfl rfl ?_  -- 12 wire.go:98
  refine lssS rfl rfl rfl (fun h13 => ?_) (fun h13 => ?_)  -- 13 wire.go:98
  all_goals refine lw_nil ?_
  -- IF slot 13
  · refine cw_true rfl ?_
    refine cw_skip ?_
    have hlt : at_ < l.length := by omega
    obtain ⟨bb, o, hA, -, hbl, hcl0⟩ := hr.at_ hlt
    subst hA
    have hcl : ∀ {k : Nat} (hk : k < l.length) (w' : World), Below w.heap.size w w' → w'.cell? ⟨bb, o + k * 1, none⟩ = some (.int .u8 (l[k].toNat : Nat)) := fun {k} hk w' hb => by
      obtain ⟨bb', o', hA, -, hbl, hcl⟩ := hr.at_ hk
      injection hA with hA
      injection hA with h1 h2
      subst h1; subst h2
      exact (hb.cell (p := ⟨bb, _, none⟩) hbl).trans (hcl 0 _ rfl)
    have hd0 : l.drop at_ = l[at_] :: l.drop (at_ + 1) := List.drop_eq_getElem_cons hlt
    have hx := hcl hlt
    have h256 : l[at_].toNat < 256 := UInt8.toNat_lt _
    generalize hn : l[at_].toNat = n at *
    refine cw_block ?_ -- block 1
    refine cw_seq ?_
    refine cw_region ?_ -- region 4
    refine mvS rfl rfl ?_  -- 14 wire.go:99
    refine mvI rfl rfl ?_  -- 15 wire.go:99
    refine ixa sl_Lbyte rfl rfl (by omega) (by omega) rfl ?_  -- 16 wire.go:99
    refine ld one_byte rfl (hx _ H.below) rfl ?_  -- 17 wire.go:99
    refine cvI int_byte int_int rfl (wrapN (n := n) (by omega)) rfl ?_  -- 18 wire.go:99
    refine asI rfl rfl ?_  -- 6 wire.go:99
    refine lw_nil ?_
    refine cw_seq ?_
    refine cw_seq ?_
    refine cw_region ?_ -- region 5
    refine mvI rfl rfl ?_  -- 19 wire.go:100
    by_cases hstop : n = 0 ∨ l.length < at_ + n + 3
    · have hs : step (l.drop at_) = none := by
        rw [hd0, step, hn, if_pos]
        rw [List.length_drop]; omega
      by_cases hn0 : n = 0
      · refine eqlT rfl rfl (by omega) rfl ?_
        refine mvB rfl rfl ?_  -- 21 wire.go:100
        iterate 7 refine lwN rfl rfl rfl ?_
        refine pkTB rfl rfl rfl ?_ -- or pkFB  -- 29 wire.go:100
        refine lw_nil ?_
        refine cw_true rfl ?_
        refine cw_exit ?_ -- 0
        refine cw_seq ?_
        refine cw_region ?_ -- region 12
        refine mvS rfl rfl ?_  -- 74 wire.go:114
        refine mvI rfl rfl ?_  -- 75 wire.go:114
        refine asS rfl rfl ?_  -- 2 wire.go:114
        refine asI rfl rfl ?_  -- 3 wire.go:114
        refine lw_nil ?_
        refine cw_ret ?_
        exact fin2 rfl rfl rfl (hfin hs H)
      · refine eqlF rfl rfl (by omega) rfl ?_
        refine mvB rfl rfl ?_  -- 21 wire.go:100
        refine lwG rfl ?_
        refine mvI rfl rfl ?_  -- 22 wire.go:100
        refine lwG rfl ?_
        refine mvI rfl rfl ?_  -- 23 wire.go:100
        refine lwG rfl ?_
        refine add rfl rfl (by omega) (by omega) rfl ?_  -- 24 wire.go:100
        refine lwG rfl ?_
        refine add rfl rfl (by omega) (by omega) rfl ?_  -- 25 wire.go:100
        refine lwG rfl ?_
        refine mvS rfl rfl ?_  -- 26 wire.go:100
        refine lwG rfl ?_
        refine lenS len_Lbyte rfl rfl ?_  -- 27 wire.go:100
        refine lwG rfl ?_
        refine gtrT rfl rfl (by omega) rfl ?_
        refine pkFB rfl rfl rfl ?_ -- or pkFB  -- 29 wire.go:100
        refine lw_nil ?_
        refine cw_true rfl ?_
        refine cw_exit ?_ -- 0
        refine cw_seq ?_
        refine cw_region ?_ -- region 12
        refine mvS rfl rfl ?_  -- 74 wire.go:114
        refine mvI rfl rfl ?_  -- 75 wire.go:114
        refine asS rfl rfl ?_  -- 2 wire.go:114
        refine asI rfl rfl ?_  -- 3 wire.go:114
        refine lw_nil ?_
        refine cw_ret ?_
        exact fin2 rfl rfl rfl (hfin hs H)
    have hn0 : n ≠ 0 := fun h => hstop (.inl h)
    have hlen : at_ + n + 3 ≤ l.length := by omega
    refine eqlF rfl rfl (by omega) rfl ?_
    refine mvB rfl rfl ?_  -- 21 wire.go:100
    refine lwG rfl ?_
    refine mvI rfl rfl ?_  -- 22 wire.go:100
    refine lwG rfl ?_
    refine mvI rfl rfl ?_  -- 23 wire.go:100
    refine lwG rfl ?_
    refine add rfl rfl (by omega) (by omega) rfl ?_  -- 24 wire.go:100
    refine lwG rfl ?_
    refine add rfl rfl (by omega) (by omega) rfl ?_  -- 25 wire.go:100
    refine lwG rfl ?_
    refine mvS rfl rfl ?_  -- 26 wire.go:100
    refine lwG rfl ?_
    refine lenS len_Lbyte rfl rfl ?_  -- 27 wire.go:100
    refine lwG rfl ?_
    refine gtrF rfl rfl (by omega) rfl ?_
    refine pkFB rfl rfl rfl ?_ -- or pkFB  -- 29 wire.go:100
    refine lw_nil ?_
    refine cw_false rfl ?_
    refine cw_skip ?_
    refine cw_seq ?_
    refine cw_region ?_ -- region 6
    refine mvS rfl rfl ?_  -- 30 wire.go:103
    refine mvI rfl rfl ?_  -- 31 wire.go:103
    refine add rfl rfl (by omega) (by omega) rfl ?_  -- 32 wire.go:103
    refine mvI rfl rfl ?_  -- 33 wire.go:103
    refine add rfl rfl (by omega) (by omega) rfl ?_  -- 34 wire.go:103
    refine mvI rfl rfl ?_  -- 35 wire.go:103
    refine add rfl rfl (by omega) (by omega) rfl ?_  -- 36 wire.go:103
    refine sliLH sl_Lbyte rfl rfl rfl (by omega) (by omega) (by omega) rfl ?_; intro A37 hA37  -- 37 wire.go:103
    have e1 : ((at_ : Int) + 1).toNat = at_ + 1 := by omega
    have e2 : ((at_ : Int) + 1 + n).toNat - (at_ + 1) = n := by omega
    rw [e1] at hA37 ⊢
    rw [e2]
    have hrx : Rd byteL 0 w.heap.size A37 ((l.drop (at_ + 1)).take n) w := (hr.from_ hA37 (fun h => by omega)).take n
    have hxl : ((l.drop (at_ + 1)).take n).length = n := by rw [List.length_take, List.length_drop]; omega
    refine asS rfl rfl ?_  -- 7 wire.go:103
    refine lw_nil ?_
    have hg1 : (l.drop (at_ + 1)).getD n 0 = l[at_ + n + 1] := by
      rw [List.getD_eq_getElem?_getD, List.getElem?_drop, show at_ + 1 + n = at_ + n + 1 by omega, List.getElem?_eq_getElem (by omega)]; rfl
    have hg2 : (l.drop (at_ + 1)).getD (n + 1) 0 = l[at_ + n + 2] := by
      rw [List.getD_eq_getElem?_getD, List.getElem?_drop, show at_ + 1 + (n + 1) = at_ + n + 2 by omega, List.getElem?_eq_getElem (by omega)]; rfl
    have hc1 := hcl (k := at_ + n + 1) (by omega)
    have hc2 := hcl (k := at_ + n + 2) (by omega)
    have hb1 : l[at_ + n + 1].toNat < 256 := UInt8.toNat_lt _
    have hb2 : l[at_ + n + 2].toNat < 256 := UInt8.toNat_lt _
    generalize l[at_ + n + 1] = x1 at *
    generalize l[at_ + n + 2] = x2 at *
    generalize hX : (l.drop (at_ + 1)).take n = X at *
    have hstep : step (l.drop at_) = if sumB X ≠ x1.toNat * 256 + x2.toNat then none else if bodyOk (X.headD 0) X.tail = true then some ((bodyE (X.headD 0) X.tail).1, n + 3) else none := by
      rw [hd0, step, hn, if_neg (by rw [List.length_drop]; omega), hX, hg1, hg2]
      have : (l.drop (at_ + 1)).headD 0 = X.headD 0 := by
        rw [← hX]
        cases h : l.drop (at_ + 1) with
        | nil => simp
        | cons a r =>
          cases n with
          | zero => exact absurd rfl hn0
          | succ n => rfl
      rw [this]
    have hcy1 : ((at_ : Int) + n + 1).toNat = at_ + n + 1 := by omega
    have hcy2 : ((at_ : Int) + n + 2).toNat = at_ + n + 2 := by omega
    rw [← hcy1] at hc1
    rw [← hcy2] at hc2
    have hor : x1.toNat * 2 ^ 8 ||| x2.toNat = x1.toNat * 256 + x2.toNat := or_lo hb2
    have hslt := sumB_lt X
    refine cw_seq ?_
    refine cw_seq ?_
    refine cw_draw mixed [0, 2, 3, 4, 5, 6, 7, 8, 9, 10, 11, 12, 13, 14, 15, 16, 17, 18, 19, 1, 20] [] [1] [0, 2, 3, 4, 5, 6, 7, 9, 10, 11, 12, 13, 14, 15, 16, 18, 19, 20] (sp [(1, Sp.one (.int .i64 (sumB X : Nat)))]) (by kernel_rfl) (by kernel_rfl) (by kernel_rfl) (by kernel_rfl) (fun _ _ _ h => h) (sp_st _) ?_
    refine aw rfl rfl rfl rfl rfl (fun _ _ => mv_r rfl) ?_  -- 38 wire.go:104
    refine aw rfl rfl rfl rfl rfl (fun _ _ => mv_r rfl) ?_  -- 40 wire.go:104
    refine aw rfl rfl rfl rfl rfl (fun _ _ => mv_r rfl) ?_  -- 41 wire.go:104
    refine aw rfl rfl rfl rfl rfl (fun _ _ => mv_r rfl) ?_  -- 42 wire.go:104
    refine aw rfl rfl rfl rfl rfl (fun _ _ => add_r rfl rfl (by omega) (by omega)) ?_  -- 43 wire.go:104
    refine aw rfl rfl rfl rfl rfl (fun _ _ => add_r rfl rfl (by omega) (by omega)) ?_  -- 44 wire.go:104
    refine aw rfl rfl rfl rfl rfl (fun _ _ => ixa_r sl_Lbyte rfl rfl (by omega) (by omega)) ?_  -- 45 wire.go:104
    refine aw rfl rfl rfl rfl rfl (fun w' hw' => ld_r one_byte rfl (hc1 w' (H.later hw').below)) ?_  -- 46 wire.go:104
    refine aw rfl rfl rfl rfl rfl (fun _ _ => cvI_r int_byte int_int rfl (wrapN (n := x1.toNat) (by omega))) ?_  -- 47 wire.go:104
    refine aw rfl rfl rfl rfl rfl (fun _ _ => shl_r (a := x1.toNat) (b := 8) (k := .u64) rfl rfl (by omega) (by omega)) ?_  -- 48
    refine aw rfl rfl rfl rfl rfl (fun _ _ => mv_r rfl) ?_  -- 49 wire.go:104
    refine aw rfl rfl rfl rfl rfl (fun _ _ => mv_r rfl) ?_  -- 50 wire.go:104
    refine aw rfl rfl rfl rfl rfl (fun _ _ => mv_r rfl) ?_  -- 51 wire.go:104
    refine aw rfl rfl rfl rfl rfl (fun _ _ => add_r rfl rfl (by omega) (by omega)) ?_  -- 52 wire.go:104
    refine aw rfl rfl rfl rfl rfl (fun _ _ => add_r rfl rfl (by omega) (by omega)) ?_  -- 53 wire.go:104
    refine aw rfl rfl rfl rfl rfl (fun _ _ => ixa_r sl_Lbyte rfl rfl (by omega) (by omega)) ?_  -- 54 wire.go:104
    refine aw rfl rfl rfl rfl rfl (fun w' hw' => ld_r one_byte rfl (hc2 w' (H.later hw').below)) ?_  -- 55 wire.go:104
    refine aw rfl rfl rfl rfl rfl (fun _ _ => cvI_r int_byte int_int rfl (wrapN (n := x2.toNat) (by omega))) ?_  -- 56 wire.go:104
    refine aw rfl rfl rfl rfl rfl (fun _ _ => or_r (a := x1.toNat * 2 ^ 8) (b := x2.toNat) rfl rfl (by omega) (by omega)) ?_  -- 57
    rw [hor]
    refine awCal cb_wire_sum rfl rfl rfl rfl (fun w' hw' => (sum_ok X A37 (c - (at_ + 1)) w' ((hrx.below (H.later hw').below).mono (Nat.le_refl _) (H.later hw').size) (by omega)).mono (fun v w2 ⟨h1, h2⟩ => ⟨h2, h1⟩)) (by rw [hxl]; rfl) ?_
    rintro _ ⟨_, _, rfl⟩
    by_cases hsum : sumB X = x1.toNat * 256 + x2.toNat
    · refine aw rfl rfl rfl rfl rfl (fun _ _ => neqF_r rfl rfl (by omega)) ?_  -- slot 58
      refine aw_nil ?_
      intro w' hw' hF; replace H := H.later hw'; clear hw' hF
      refine lw_nil ?_
      refine cw_false rfl ?_
      refine cw_skip ?_
      obtain ⟨c0, X', rfl⟩ : ∃ c0 X', X = c0 :: X' := by
        cases X with
        | nil => simp at hxl; omega
        | cons a X => exact ⟨a, X, rfl⟩
      rw [if_neg (by omega)] at hstep
      refine cw_seq ?_
      refine cw_region ?_ -- region 8
      refine mvS rfl rfl ?_  -- 60 wire.go:107
      rw [← hxl]
      refine cal cb_wire_body (body_ok c0 X' A37 _ _ ((hrx.below H.below).mono (Nat.le_refl _) H.size) (by rw [hxl]; omega)) rfl rfl ?_; rintro _ w2 ⟨rfl, hb2⟩; replace H := H.later hb2 -- args ['60']  -- 61 wire.go:107
      rw [hxl]
      refine mvU rfl rfl ?_  -- 59 wire.go:107
      refine exV rfl rfl rfl ?_  -- 62 wire.go:107
      refine exV rfl rfl rfl ?_  -- 63 wire.go:107
      refine alo H z_Entry rfl ?_; intro w3 b8 H  -- 8 wire.go:107
      refine stW H 0 siz_Entry rfl rfl rfl rfl rfl rfl ?_; intro w4 H  -- None wire.go:107
      refine asB rfl rfl ?_  -- 9 wire.go:107
      refine lw_nil ?_
      refine cw_seq ?_
      refine cw_seq ?_
      refine cw_region ?_ -- region 9
      refine mvB rfl rfl ?_  -- 64 wire.go:108
      refine not rfl rfl ?_  -- 65 wire.go:108
      refine lw_nil ?_
      refine cw_if (b := !bodyOk c0 X') rfl (fun hb => ?_) (fun hb => ?_)
      · rw [if_neg (by simpa using hb)] at hstep
        refine cw_exit ?_ -- 0
        refine cw_seq ?_
        refine cw_region ?_ -- region 12
        refine mvS rfl rfl ?_  -- 74 wire.go:114
        refine mvI rfl rfl ?_  -- 75 wire.go:114
        refine asS rfl rfl ?_  -- 2 wire.go:114
        refine asI rfl rfl ?_  -- 3 wire.go:114
        refine lw_nil ?_
        refine cw_ret ?_
        exact fin2 rfl rfl rfl (hfin hstep (H.forget (by simp) (fun _ h => h)))
      · rw [if_pos (by simpa using hb)] at hstep
        refine cw_skip ?_
        refine cw_seq ?_
        refine cw_region ?_ -- region 10
        refine mvS rfl rfl ?_  -- 66 wire.go:111
        refine ldW H 0 agg_Entry rfl rfl rfl rfl ?_  -- 67 wire.go:111
        refine bsv (vs := [.agg _]) H sl_LEntry z_Entry rfl rfl rfl rfl rfl rfl ?_; intro w5 b68 H5  -- 68 wire.go:111
        refine apO (Y := entL) ap_LEntry (K := [_, _]) (L := L1) (M := []) H5 ho (news := [(bodyE c0 X').1]) rfl rfl rfl ?_ (by simp only [List.length_singleton]; omega) rfl ?_
        · exact Src.row (m := 1) (sz := 7) (H5.ent (i := 0) rfl) rfl
        intro A6 c6 w6 L6 _ _ ho6 H6
        refine asS rfl rfl ?_  -- 4 wire.go:111
        refine lw_nil ?_
        refine cw_region ?_ -- region 11
        refine mvI rfl rfl ?_  -- 70 wire.go:112
        refine mvI rfl rfl ?_  -- 71 wire.go:112
        refine add rfl rfl (by omega) (by omega) rfl ?_  -- 72 wire.go:112
        refine add rfl rfl (by omega) (by omega) rfl ?_  -- 73 wire.go:112
        refine asI rfl rfl ?_  -- 5 wire.go:112
        refine lw_nil ?_
        refine ⟨(at_ + (n + 3), out ++ [(bodyE c0 X').1], A6, c6), ⟨by omega, by simp; omega, fun es m hD => ?_, L6, ho6, H6.forget (by simp) (fun _ h => h)⟩, sl2 rfl ?_, by repeat (first | exact agr_ovr | refine agr_upd rfl ?_ | refine agr_updL _ rfl ?_), by show l.length - (at_ + (n + 3)) < l.length - at_; omega⟩
        · have := hdec _ _ (.go hstep (by rw [List.drop_drop]; exact hD))
          rw [List.append_assoc, Nat.add_assoc]
          exact this
        · show Value.int .i64 _ = Value.int .i64 _
          congr 1
    · rw [if_pos hsum] at hstep
      refine aw rfl rfl rfl rfl rfl (fun _ _ => neqT_r rfl rfl (by omega)) ?_  -- slot 58
      refine aw_nil ?_
      intro w' hw' hF; replace H := H.later hw'; clear hw'
      refine lw_nil ?_
      refine cw_true rfl ?_
      refine cw_exit ?_ -- 0
      refine cw_seq ?_
      refine cw_region ?_ -- region 12
      refine mvS rfl rfl ?_  -- 74 wire.go:114
      refine mvI rfl rfl ?_  -- 75 wire.go:114
      refine asS rfl rfl ?_  -- 2 wire.go:114
      refine asI rfl rfl ?_  -- 3 wire.go:114
      refine lw_nil ?_
      refine cw_ret ?_
      exact fin2 rfl rfl rfl (hfin hstep H)
  · refine cw_false rfl ?_
    refine cw_exit ?_ -- 0
    have hs : step (l.drop at_) = none := by rw [List.drop_of_length_le (by omega)]; rfl
    refine cw_seq ?_
    refine cw_region ?_ -- region 12
    refine mvS rfl rfl ?_  -- 74 wire.go:114
    refine mvI rfl rfl ?_  -- 75 wire.go:114
    refine asS rfl rfl ?_  -- 2 wire.go:114
    refine asI rfl rfl ?_  -- 3 wire.go:114
    refine lw_nil ?_
    refine cw_ret ?_
    exact fin2 rfl rfl rfl (hfin hs H)
end Go.Proofs.Ytemnchkebhclpaa
