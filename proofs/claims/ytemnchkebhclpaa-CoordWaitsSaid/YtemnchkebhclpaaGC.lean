/- GC: a part of the proofs over this seat: what stands in its theorems holds for every input that they name. -/
import Derived.Test.YtemnchkebhclpaaGU
import Derived.Test.YtemnchkebhclpaaGS
import Derived.Test.YtemnchkebhclpaaGE
import Derived.Test.YtemnchkebhclpaaEngZ
open Go.Eng renaming lw_nil → Zn, cw_seq → Zs, cw_region → Zr, cw_skip → Zk, cw_ret → Zt, cw_block → Zb, cw_exit → Zx, mvI_r → Yi, mvB_r → Yb, mvS_r → Ys, mvP_r → Yp, mvT_r → Yt, mvU_r → Yu, mvA_r → Ya, asI_r → Wi, asB_r → Wb, asS_r → Ws, asP_r → Wp, asT_r → Wt, fad_r → Zf, exI_r → Xi, exA_r → Xa, exB_r → Xb, exS_r → Xs, pkTB_r → Kt, pkFB_r → Kf, cw_true → ZT, cw_false → ZF
section
namespace Go.Proofs.Ytemnchkebhclpaa
open Go Go.Eng Go.RowKit
/-- a producer's transactions, and where its parts lie -/
structure Tx where
  name : ByteArray
  pid : Int
  ver : Int
  state : Int
  parts : List Int
  since : Int
  done : Int
  A : Option Addr
  cap : Nat
def Tx.c (t : Tx) : List Value := [.string t.name, .int .i64 t.pid, .int .i64 t.ver, .int .i64 t.state, .slice t.A t.parts.length t.cap, .int .i64 t.since, .int .i64 t.done]
abbrev Tx.v (t : Tx) : Value := .agg t.c.toArray
def txL : Lay Tx := ⟨Tx.c, 7, fun _ => rfl, by decide, fun a u hu => by
  simp only [Tx.c, List.mem_cons, List.mem_nil_iff, or_false] at hu
  rcases hu with h | h | h | h | h | h | h <;> subst h <;> rfl⟩
def inAZ (c : UInt8) : Bool := decide (97 ≤ (c.toNat : Int)) && decide ((c.toNat : Int) ≤ 122)
/-- P5.1: a name -/
def nameOk (s : ByteArray) : Bool := decide (s ≠ ⟨#[]⟩) && decide ((s.size : Int) ≤ 8) && s.data.toList.all inAZ
/-- parts that rise, from one on: each is a part -/
def partsOk : Int → List Int → Bool
  | _, [] => true
  | last, p :: l => decide (last < p) && decide (p < 4) && partsOk p l
/-- P5.2: of one producer -/
def txOk (clock next : Int) (t : Tx) : Bool := nameOk t.name && decide (1 ≤ t.pid) && decide (t.pid < next) && inNum t.ver && decide (1 ≤ t.state) && decide (t.state ≤ 4) && decide (0 ≤ t.since) && decide (t.since ≤ clock) && (decide (t.done = 0) || decide (t.done = 3) || decide (t.done = 4))
  && partsOk (-1) t.parts && (decide (t.state = 1) == decide (t.parts.length = 0))
theorem txOk_iff {ck nx : Int} {t : Tx} : txOk ck nx t = true ↔ nameOk t.name = true ∧ 1 ≤ t.pid ∧ t.pid < nx ∧ inNum t.ver = true ∧ 1 ≤ t.state ∧ t.state ≤ 4 ∧ 0 ≤ t.since ∧ t.since ≤ ck ∧ (t.done = 0 ∨ t.done = 3 ∨ t.done = 4) ∧ partsOk (-1) t.parts = true ∧ (t.state = 1 ↔ t.parts.length = 0) := by
  unfold txOk
  simp only [Bool.and_eq_true, Bool.or_eq_true, decide_eq_true_eq, beq_iff_eq, decide_eq_decide, and_assoc, or_assoc]
end Go.Proofs.Ytemnchkebhclpaa
end

section
namespace Go.Proofs.Ytemnchkebhclpaa
open Go Go.Eng Go.RowKit
set_option linter.unusedSimpArgs false
set_option maxHeartbeats 4000000 in
set_option maxRecDepth 10000 in
theorem indexFunc_byte_ok (es : List UInt8) (A : Option Addr) (c : Nat) (w : World) (hr : Rd byteL 0 w.heap.size A es w) (hb : es.length ≤ 1000000) (f : FuncId) (cap : List Value) (hf : callB Try.prog f = true) (pred : UInt8 → Bool)
  (hp : ∀ e w', e ∈ es → Below w.heap.size w w' → Ret Try.prog f (.int .u8 (e.toNat : Nat) :: cap) w' fun v w2 => v = .bool (pred e) ∧ Below w'.heap.size w' w2) :
  Ret Try.prog i_slices_IndexFunc_Lbyte_byte [.slice A es.length c, .func (.func f) #[] cap.toArray] w fun v w2 => v = .int .i64 (idxI (es.findIdx? pred)) ∧ Below w.heap.size w w2 := by
 refine ret_of fn_slices_IndexFunc_Lbyte_byte rfl rfl ?_
 have H := Hp.startRd hr
 refine Zs<|Zr<|Zl (Wi rfl)<|Zn<|Zs<|Zs<|Zr<|Zl (Ys rfl)<|Zl (lenS_r len_Lbyte rfl)<|Zl (Yi rfl)<|Zn<|Zb ?_
 refine cw_loop (τ := Nat) [4, 5, 8, 9, 10, 11, 12, 13, 14, 15, 16, 17, 18] (fun k => [(8, .int .i64 (k : Nat))]) (fun k w' => k ≤ es.length ∧ (∀ j e, j < k → es[j]? = some e → pred e = false) ∧ Hp w w' [] [FRd byteL 0 w.heap.size A es]) (fun k => es.length - k) 0 ⟨by omega, by intro j e hj; omega, H⟩ (sl1 rfl) ?_
 rintro k ρ1 w1 ⟨hk, hno, H⟩
 show CW _ _ _ _ (updL (ovr _ _ ρ1) [(8, .int .i64 (k : Nat))]) w1
 refine Zs<|Zr ?_
 refine lwD (lss_r rfl rfl) rfl rfl rfl (fun h9 => ?_) (fun h9 => ?_)
 ·
  refine Zn<|Zs<|ZT rfl<|Zk<|Zs<|Zb<|Zs<|Zr<|Zl (Yi rfl)<|Zl (Wi rfl)<|Zn<|Zs<|Zr<|Zl (mvF_r rfl) ?_
  refine Zl (Ys rfl)<|Zl (Yi rfl)<|ixF H 0 rfl sl_Lbyte rfl rfl (by omega) (by omega) rfl fun b2 o2 x2 e2 =>Zl (ld_r one_byte rfl (e2.cl 0 _ rfl)) ?_
  refine calF hf rfl (hp x2 _ (List.mem_of_getElem? e2.at_) H.below) rfl rfl ?_; rintro _ w3 ⟨rfl, hb2⟩; replace H := H.later hb2; clear hb2
  refine lwCase 16 rfl (fun h16 => ?_) (fun h16 => ?_)
  ·
   refine Zn<|ZT rfl<|Zs<|Zr<|Zl (Yi rfl)<|Zl (Wi rfl)<|Zn<|Zt ?_
   have hi : es.findIdx? pred = some k := by
    rw [List.findIdx?_eq_some_iff_getElem]
    obtain ⟨hl, hx⟩ := getE e2.at_
    exact ⟨hl, by rw [hx]; exact h16, fun j hj => by rw [hno j _ hj (List.getElem?_eq_getElem (by omega))]; simp⟩
   exact fin1 (v := .int .i64 (k : Nat)) rfl rfl ⟨by rw [hi]; rfl, H.below⟩
  ·
   refine Zn<|ZF rfl<|Zk<|Zr<|Zl (add_r rfl rfl (by omega) (by omega))<|Zl (Yi rfl)<|Zn ?_
   refine ⟨k + 1, ⟨by omega, fun j e hj he => ?_, H⟩, sl1 rfl, by repeat (first | exact Agr.refl _ _ | exact agr_ovr | refine agr_upd rfl ?_ | refine agr_updL _ rfl ?_ | refine agr_ovr2 rfl ?_), by show es.length - (k + 1) < es.length - k; omega⟩
   by_cases hji : j < k
   ·
    exact hno j e hji he
   ·
    have : j = k := by omega
    subst this; have he2 := e2.at_; rw [he] at he2; injection he2 with he2; subst he2; exact h16
 ·
  refine Zn<|Zs<|ZF rfl<|Zx<|Zs<|Zr<|Zl (Wi rfl)<|Zn<|Zt ?_
  have hi : es.findIdx? pred = none := by
   rw [List.findIdx?_eq_none_iff]
   intro e he
   obtain ⟨j, hj⟩ := List.mem_iff_getElem?.1 he
   exact hno j e (by have := (getE hj).1; omega) hj
  exact fin1 (v := .int .i64 (-1)) rfl rfl ⟨by rw [hi]; rfl, H.below⟩
set_option maxHeartbeats 4000000 in
set_option maxRecDepth 10000 in
theorem containsFunc_byte_ok (es : List UInt8) (A : Option Addr) (c : Nat) (w : World) (hr : Rd byteL 0 w.heap.size A es w) (hb : es.length ≤ 1000000) (f : FuncId) (cap : List Value) (hf : callB Try.prog f = true) (pred : UInt8 → Bool)
  (hp : ∀ e w', e ∈ es → Below w.heap.size w w' → Ret Try.prog f (.int .u8 (e.toNat : Nat) :: cap) w' fun v w2 => v = .bool (pred e) ∧ Below w'.heap.size w' w2) :
  Ret Try.prog i_slices_ContainsFunc_Lbyte_byte [.slice A es.length c, .func (.func f) #[] cap.toArray] w fun v w2 => v = .bool (es.any pred) ∧ Below w.heap.size w w2 := by
 refine ret_of fn_slices_ContainsFunc_Lbyte_byte rfl rfl ?_
 have H := Hp.start w
 refine Zs<|Zr<|Zl (Wb rfl)<|Zn<|Zs<|Zr<|Zl (Ys rfl)<|Zl (mvF_r rfl)<|cal cb_slices_IndexFunc_Lbyte_byte (indexFunc_byte_ok es _ _ _ hr hb f cap hf pred hp) rfl rfl ?_
 rintro _ w1 ⟨rfl, hb⟩; replace H := H.later hb; clear hb
 refine Zl (geq_r rfl rfl)<|Zl (Wb rfl)<|Zn<|Zt ?_
 have hv : decide (0 ≤ idxI (es.findIdx? pred)) = es.any pred := by
  cases hi : es.findIdx? pred with
  | none => rw [List.findIdx?_eq_none_iff] at hi; simp [idxI]; exact fun a h => hi a h
  | some i =>
   obtain ⟨hl, h1, -⟩ := List.findIdx?_eq_some_iff_getElem.1 hi
   have : es.any pred = true := List.any_eq_true.2 ⟨_, List.getElem_mem hl, h1⟩
   rw [this]; simp [idxI]
 exact fin1 (v := .bool (decide (0 ≤ idxI (es.findIdx? pred)))) rfl rfl ⟨by rw [hv], H.below⟩
set_option maxHeartbeats 4000000 in
set_option maxRecDepth 10000 in
theorem indexFunc_Txn_ok (es : List Tx) (A : Option Addr) (c : Nat) (w : World) (hr : Rd txL 0 w.heap.size A es w) (hb : es.length ≤ 1000000) (f : FuncId) (cap : List Value) (hf : callB Try.prog f = true) (pred : Tx → Bool)
  (hp : ∀ e w', e ∈ es → Below w.heap.size w w' → Ret Try.prog f (.agg (txL.f e).toArray :: cap) w' fun v w2 => v = .bool (pred e) ∧ Below w'.heap.size w' w2) :
  Ret Try.prog i_slices_IndexFunc_LTxn_Txn [.slice A es.length c, .func (.func f) #[] cap.toArray] w fun v w2 => v = .int .i64 (idxI (es.findIdx? pred)) ∧ Below w.heap.size w w2 := by
 refine ret_of fn_slices_IndexFunc_LTxn_Txn rfl rfl ?_
 have H := Hp.startRd hr
 refine Zs<|Zr<|Zl (Wi rfl)<|Zn<|Zs<|Zs<|Zr<|Zl (Ys rfl)<|Zl (lenS_r len_LTxn rfl)<|Zl (Yi rfl)<|Zn<|Zb ?_
 refine cw_loop (τ := Nat) [4, 5, 8, 9, 10, 11, 12, 13, 14, 15, 16, 17, 18] (fun k => [(8, .int .i64 (k : Nat))]) (fun k w' => k ≤ es.length ∧ (∀ j e, j < k → es[j]? = some e → pred e = false) ∧ Hp w w' [] [FRd txL 0 w.heap.size A es]) (fun k => es.length - k) 0 ⟨by omega, by intro j e hj; omega, H⟩ (sl1 rfl) ?_
 rintro k ρ1 w1 ⟨hk, hno, H⟩
 show CW _ _ _ _ (updL (ovr _ _ ρ1) [(8, .int .i64 (k : Nat))]) w1
 refine Zs<|Zr ?_
 refine lwD (lss_r rfl rfl) rfl rfl rfl (fun h9 => ?_) (fun h9 => ?_)
 ·
  refine Zn<|Zs<|ZT rfl<|Zk<|Zs<|Zb<|Zs<|Zr<|Zl (Yi rfl)<|Zl (Wi rfl)<|Zn<|Zs<|Zr<|Zl (mvF_r rfl) ?_
  refine Zl (Ys rfl)<|Zl (Yi rfl)<|ixF H 0 rfl sl_LTxn rfl rfl (by omega) (by omega) rfl fun b2 o2 x2 e2 =>Zl (ldA_r (xs := txL.f x2) agg_Txn rfl rfl e2.cl) ?_
  refine calF hf rfl (hp x2 _ (List.mem_of_getElem? e2.at_) H.below) rfl rfl ?_; rintro _ w3 ⟨rfl, hb2⟩; replace H := H.later hb2; clear hb2
  refine lwCase 16 rfl (fun h16 => ?_) (fun h16 => ?_)
  ·
   refine Zn<|ZT rfl<|Zs<|Zr<|Zl (Yi rfl)<|Zl (Wi rfl)<|Zn<|Zt ?_
   have hi : es.findIdx? pred = some k := by
    rw [List.findIdx?_eq_some_iff_getElem]
    obtain ⟨hl, hx⟩ := getE e2.at_
    exact ⟨hl, by rw [hx]; exact h16, fun j hj => by rw [hno j _ hj (List.getElem?_eq_getElem (by omega))]; simp⟩
   exact fin1 (v := .int .i64 (k : Nat)) rfl rfl ⟨by rw [hi]; rfl, H.below⟩
  ·
   refine Zn<|ZF rfl<|Zk<|Zr<|Zl (add_r rfl rfl (by omega) (by omega))<|Zl (Yi rfl)<|Zn ?_
   refine ⟨k + 1, ⟨by omega, fun j e hj he => ?_, H⟩, sl1 rfl, by repeat (first | exact Agr.refl _ _ | exact agr_ovr | refine agr_upd rfl ?_ | refine agr_updL _ rfl ?_ | refine agr_ovr2 rfl ?_), by show es.length - (k + 1) < es.length - k; omega⟩
   by_cases hji : j < k
   ·
    exact hno j e hji he
   ·
    have : j = k := by omega
    subst this; have he2 := e2.at_; rw [he] at he2; injection he2 with he2; subst he2; exact h16
 ·
  refine Zn<|Zs<|ZF rfl<|Zx<|Zs<|Zr<|Zl (Wi rfl)<|Zn<|Zt ?_
  have hi : es.findIdx? pred = none := by
   rw [List.findIdx?_eq_none_iff]
   intro e he
   obtain ⟨j, hj⟩ := List.mem_iff_getElem?.1 he
   exact hno j e (by have := (getE hj).1; omega) hj
  exact fin1 (v := .int .i64 (-1)) rfl rfl ⟨by rw [hi]; rfl, H.below⟩
set_option maxHeartbeats 4000000 in
set_option maxRecDepth 10000 in
theorem containsFunc_Txn_ok (es : List Tx) (A : Option Addr) (c : Nat) (w : World) (hr : Rd txL 0 w.heap.size A es w) (hb : es.length ≤ 1000000) (f : FuncId) (cap : List Value) (hf : callB Try.prog f = true) (pred : Tx → Bool)
  (hp : ∀ e w', e ∈ es → Below w.heap.size w w' → Ret Try.prog f (.agg (txL.f e).toArray :: cap) w' fun v w2 => v = .bool (pred e) ∧ Below w'.heap.size w' w2) :
  Ret Try.prog i_slices_ContainsFunc_LTxn_Txn [.slice A es.length c, .func (.func f) #[] cap.toArray] w fun v w2 => v = .bool (es.any pred) ∧ Below w.heap.size w w2 := by
 refine ret_of fn_slices_ContainsFunc_LTxn_Txn rfl rfl ?_
 have H := Hp.start w
 refine Zs<|Zr<|Zl (Wb rfl)<|Zn<|Zs<|Zr<|Zl (Ys rfl)<|Zl (mvF_r rfl)<|cal cb_slices_IndexFunc_LTxn_Txn (indexFunc_Txn_ok es _ _ _ hr hb f cap hf pred hp) rfl rfl ?_
 rintro _ w1 ⟨rfl, hb⟩; replace H := H.later hb; clear hb
 refine Zl (geq_r rfl rfl)<|Zl (Wb rfl)<|Zn<|Zt ?_
 have hv : decide (0 ≤ idxI (es.findIdx? pred)) = es.any pred := by
  cases hi : es.findIdx? pred with
  | none => rw [List.findIdx?_eq_none_iff] at hi; simp [idxI]; exact fun a h => hi a h
  | some i =>
   obtain ⟨hl, h1, -⟩ := List.findIdx?_eq_some_iff_getElem.1 hi
   have : es.any pred = true := List.any_eq_true.2 ⟨_, List.getElem_mem hl, h1⟩
   rw [this]; simp [idxI]
 exact fin1 (v := .bool (decide (0 ≤ idxI (es.findIdx? pred)))) rfl rfl ⟨by rw [hv], H.below⟩
set_option maxHeartbeats 4000000 in
set_option maxRecDepth 10000 in
theorem cnumber_ok (n : Int) (w : World) : Ret Try.prog i_coord_number [.int .i64 n] w fun v w2 => v = .bool (inNum n) ∧ Below w.heap.size w w2 := by
 refine ret_of fn_coord_number rfl rfl ?_
 have H := Hp.start w
 refine Zs<|Zr<|Zl (Wb rfl)<|Zn<|Zs<|Zr<|Zl (Yi rfl) ?_
 refine lwD (geq_r rfl rfl) rfl rfl rfl (fun h4 => ?_) (fun h4 => ?_)
 ·
  refine Zl (Yb rfl)<|ZG<|Zl (Yi rfl)<|ZG ?_
  refine lwD (leq_r rfl rfl) rfl rfl rfl (fun h7 => ?_) (fun h7 => ?_)
  ·
   refine Zl (Kt rfl rfl)<|Zl (Wb rfl)<|Zn<|Zt ?_
   have hv : inNum n = true := by unfold inNum; simp; omega
   exact fin1 (v := .bool true) rfl rfl ⟨by rw [hv], H.below⟩
  ·
   refine Zl (Kt rfl rfl)<|Zl (Wb rfl)<|Zn<|Zt ?_
   have hv : inNum n = false := by unfold inNum; simp; omega
   exact fin1 (v := .bool false) rfl rfl ⟨by rw [hv], H.below⟩
 ·
  refine Zl (Yb rfl)<|ZN<|ZN<|Zl (Kf rfl rfl)<|Zl (Wb rfl)<|Zn<|Zt ?_
  have hv : inNum n = false := by unfold inNum; simp; omega
  exact fin1 (v := .bool false) rfl rfl ⟨by rw [hv], H.below⟩
set_option maxHeartbeats 4000000 in
set_option maxRecDepth 10000 in
theorem name_c1_ok (c : UInt8) (w : World) : Ret Try.prog i_coord_name_c1 [.int .u8 (c.toNat : Nat)] w fun v w2 => v = .bool (!inAZ c) ∧ Below w.heap.size w w2 := by
 refine ret_of fn_coord_name_c1 rfl rfl ?_
 have H := Hp.start w
 refine Zs<|Zr<|Zl (Wb rfl)<|Zn<|Zs<|Zr<|Zl (Yi rfl) ?_
 refine lwD (lss_r rfl rfl) rfl rfl rfl (fun h4 => ?_) (fun h4 => ?_)
 ·
  refine Zl (Yb rfl)<|ZN<|ZN<|Zl (Kt rfl rfl)<|Zl (Wb rfl)<|Zn<|Zt ?_
  have hv : (!inAZ c) = true := by unfold inAZ; simp; omega
  exact fin1 (v := .bool true) rfl rfl ⟨by rw [hv], H.below⟩
 ·
  refine Zl (Yb rfl)<|ZG<|Zl (Yi rfl)<|ZG ?_
  refine lwD (gtr_r rfl rfl) rfl rfl rfl (fun h7 => ?_) (fun h7 => ?_)
  ·
   refine Zl (Kf rfl rfl)<|Zl (Wb rfl)<|Zn<|Zt ?_
   have hv : (!inAZ c) = true := by unfold inAZ; simp; omega
   exact fin1 (v := .bool true) rfl rfl ⟨by rw [hv], H.below⟩
  ·
   refine Zl (Kf rfl rfl)<|Zl (Wb rfl)<|Zn<|Zt ?_
   have hv : (!inAZ c) = false := by unfold inAZ; simp; omega
   exact fin1 (v := .bool false) rfl rfl ⟨by rw [hv], H.below⟩
set_option maxHeartbeats 4000000 in
set_option maxRecDepth 10000 in
theorem name_ok (s : ByteArray) (w : World) : Ret Try.prog i_coord_name [.string s] w fun v w2 => v = .bool (nameOk s) ∧ Below w.heap.size w w2 := by
 refine ret_of fn_coord_name rfl rfl ?_
 have H := Hp.start w
 refine Zs<|Zr<|Zl (Wb rfl)<|Zn<|Zs<|Zs<|Zr<|Zl (Yt rfl) ?_
 refine lwD (seql_r rfl rfl) rfl rfl rfl (fun h4 => ?_) (fun h4 => ?_)
 ·
  refine Zl (Yb rfl)<|ZN<|ZN<|ZN<|Zl (Kt rfl rfl)<|Zn<|ZT rfl<|Zs<|Zr<|Zl (Wb rfl)<|Zn<|Zt ?_
  have hv : nameOk s = false := by unfold nameOk; simp; simp [h4]
  exact fin1 (v := .bool false) rfl rfl ⟨by rw [hv], H.below⟩
 ·
  refine Zl (Yb rfl)<|ZG<|Zl (Yt rfl)<|ZG<|Zl (lenT_r str_string rfl)<|ZG ?_
  refine lwD (gtr_r rfl rfl) rfl rfl rfl (fun h8 => ?_) (fun h8 => ?_)
  ·
   refine Zl (Kf rfl rfl)<|Zn<|ZT rfl<|Zs<|Zr<|Zl (Wb rfl)<|Zn<|Zt ?_
   have hv : nameOk s = false := by unfold nameOk; simp; omega
   exact fin1 (v := .bool false) rfl rfl ⟨by rw [hv], H.below⟩
  ·
   refine Zl (Kf rfl rfl)<|Zn<|ZF rfl<|Zk<|Zs<|Zr<|Zl (Yt rfl)<|cvTB (Y := byteL) H str_string sl_Lbyte int_byte rfl (fun _ => rfl) rfl rfl fun w1 A11 c11 hc11 H => ?_
   have hlen : s.data.toList.length = s.size := by rw [Array.length_toList]; rfl
   refine cal cb_slices_ContainsFunc_Lbyte_byte (containsFunc_byte_ok s.data.toList _ _ _ (H.rd0 0 rfl) (by omega) i_coord_name_c1 [] cb_coord_name_c1 (fun c => !inAZ c) (fun e w2 _ _ => name_c1_ok e w2)) rfl rfl ?_
   rintro _ w2 ⟨rfl, hb⟩; replace H := H.later hb; clear hb
   refine Zl (not_r rfl)<|Zl (Wb rfl)<|Zn<|Zt ?_
   have h8b : decide ((s.size : Int) ≤ 8) = true := decide_eq_true (by omega)
   have hv : nameOk s = !(s.data.toList.any fun c => !inAZ c) := by unfold nameOk; rw [decide_eq_true h4, h8b, Bool.true_and, Bool.true_and, List.all_eq_not_any_not]
   exact fin1 (v := .bool (!(s.data.toList.any fun c => !inAZ c))) rfl rfl ⟨by rw [hv], H.below⟩
end Go.Proofs.Ytemnchkebhclpaa
end

section
namespace Go.Proofs.Ytemnchkebhclpaa
open Go Go.Eng Go.RowKit
set_option linter.unusedSimpArgs false
set_option maxHeartbeats 4000000 in
set_option maxRecDepth 10000 in
theorem check_c1_ok (p t : Tx) (b : Nat) (w : World) (hx : w.heap[b]? = some (.cells t.c.toArray T_Txn (0, 0))) :
  Ret Try.prog i_coord_Check_c1 [p.v, .pointer (some ⟨b, 0, none⟩)] w fun v w2 => v = .bool (decide (p.name = t.name) || decide (p.pid = t.pid)) ∧ Below w.heap.size w w2 := by
 refine ret_of fn_coord_Check_c1 rfl rfl ?_
 have H := Hp.start w
 have hb := lt_of_heap hx
 refine Zs<|Zr<|bxA H rfl rfl fun w1 b2 H =>Zl (Wb rfl)<|Zn<|Zs<|Zr<|Zl (Zf fd_Txn_0 rfl)<|Zl (Zd one_string H 0 rfl rfl rfl)<|Zl (Zf fd_Txn_0 rfl)<|Zl (ld_r one_string rfl ((H.below.cell (p := ⟨b, _, none⟩) hb).trans (cellE (j := 0) hx rfl))) ?_
 refine lwD (seql_r rfl rfl) rfl rfl rfl (fun h8 => ?_) (fun h8 => ?_)
 ·
  refine Zl (Yb rfl)<|ZN<|ZN<|ZN<|ZN<|ZN<|Zl (Kt rfl rfl)<|Zl (Wb rfl)<|Zn<|Zt ?_
  have hv : (decide (p.name = t.name) || decide (p.pid = t.pid)) = true := by simp [h8]
  exact fin1 (v := .bool true) rfl rfl ⟨by rw [hv], H.below⟩
 ·
  refine Zl (Yb rfl)<|ZG<|Zl (Zf fd_Txn_1 rfl)<|ZG<|Zl (Zd one_int H 0 rfl rfl rfl)<|ZG<|Zl (Zf fd_Txn_1 rfl)<|ZG<|Zl (ld_r one_int rfl ((H.below.cell (p := ⟨b, _, none⟩) hb).trans (cellE (j := 1) hx rfl)))<|ZG ?_
  refine lwD (eql_r rfl rfl) rfl rfl rfl (fun h14 => ?_) (fun h14 => ?_)
  ·
   refine Zl (Kf rfl rfl)<|Zl (Wb rfl)<|Zn<|Zt ?_
   have hv : (decide (p.name = t.name) || decide (p.pid = t.pid)) = true := by simp [h8, h14]
   exact fin1 (v := .bool true) rfl rfl ⟨by rw [hv], H.below⟩
  ·
   refine Zl (Kf rfl rfl)<|Zl (Wb rfl)<|Zn<|Zt ?_
   have hv : (decide (p.name = t.name) || decide (p.pid = t.pid)) = false := by simp [h8, h14]
   exact fin1 (v := .bool false) rfl rfl ⟨by rw [hv], H.below⟩
set_option maxHeartbeats 4000000 in
set_option maxRecDepth 10000 in
theorem find_c1_ok (p : Tx) (s : ByteArray) (b : Nat) (w : World) (hx : w.heap[b]? = some (.cells #[.string s] T_string (0, 0))) :
  Ret Try.prog i_coord_find_c1 [p.v, .pointer (some ⟨b, 0, none⟩)] w fun v w2 => v = .bool (decide (p.name = s)) ∧ Below w.heap.size w w2 := by
 refine ret_of fn_coord_find_c1 rfl rfl ?_
 have H := Hp.start w
 have hb := lt_of_heap hx
 refine Zs<|Zr<|bxA H rfl rfl fun w1 b2 H =>Zl (Wb rfl)<|Zn<|Zs<|Zr<|Zl (Zf fd_Txn_0 rfl)<|Zl (Zd one_string H 0 rfl rfl rfl)<|Zl (ld_r one_string rfl ((H.below.cell (p := ⟨b, _, none⟩) hb).trans (cellE (j := 0) hx rfl)))<|Zl (seql_r rfl rfl)<|Zl (Wb rfl)<|Zn<|Zt ?_
 exact fin1 rfl rfl ⟨rfl, H.below⟩
set_option maxHeartbeats 4000000 in
set_option maxRecDepth 10000 in
theorem coordNew_bad (n : Int) (w : World) (h : n < 1 ∨ 1000 < n) : Ret Try.prog i_coord_New [.int .i64 n] w fun v w2 => v = .tuple #[.agg #[.int .i64 0, .int .i64 0, .int .i64 0, .slice none 0 0], .int .i64 2] ∧ Below w.heap.size w w2 := by
 refine ret_of fn_coord_New rfl rfl ?_
 have H := Hp.start w
 refine Zs<|Zr<|alo H z_Coord rfl fun w1 b2 H =>Zl (Wi rfl)<|Zn<|Zs<|Zs<|Zr<|Zl (Yi rfl) ?_
 refine lwD (lss_r rfl rfl) rfl rfl rfl (fun h5 => ?_) (fun h5 => ?_)
 ·
  refine Zl (Yb rfl)<|ZN<|ZN<|Zl (Kt rfl rfl)<|Zn<|ZT rfl<|Zs<|Zr<|Zl (bld_r (cs := #[.int .i64 0, .int .i64 0, .int .i64 0, .slice none 0 0]) st_Coord z_Coord (by kernel_rfl))<|stN H 0 (#[.int .i64 0, .int .i64 0, .int .i64 0, .slice none 0 0]) siz_Coord rfl rfl rfl rfl rfl (by kernel_rfl) (by kernel_rfl) fun w2 H =>Zl (Wi rfl)<|Zn<|Zt ?_
  exact finCTn (cs0 := #[.int .i64 0, .int .i64 0, .int .i64 0, .slice none 0 0]) (v1 := .int .i64 2) rfl agg_Coord rfl (H.ent (i := 0) rfl) rfl rfl ⟨rfl, H.below⟩
 ·
  refine Zl (Yb rfl)<|ZG<|Zl (Yi rfl)<|ZG ?_
  refine lwD (gtr_r rfl rfl) rfl rfl rfl (fun h8 => ?_) (fun h8 => ?_)
  ·
   refine Zl (Kf rfl rfl)<|Zn<|ZT rfl<|Zs<|Zr<|Zl (bld_r (cs := #[.int .i64 0, .int .i64 0, .int .i64 0, .slice none 0 0]) st_Coord z_Coord (by kernel_rfl))<|stN H 0 (#[.int .i64 0, .int .i64 0, .int .i64 0, .slice none 0 0]) siz_Coord rfl rfl rfl rfl rfl (by kernel_rfl) (by kernel_rfl) fun w3 H =>Zl (Wi rfl)<|Zn<|Zt ?_
   exact finCTn (cs0 := #[.int .i64 0, .int .i64 0, .int .i64 0, .slice none 0 0]) (v1 := .int .i64 2) rfl agg_Coord rfl (H.ent (i := 0) rfl) rfl rfl ⟨rfl, H.below⟩
  ·
   exfalso; omega
set_option maxHeartbeats 4000000 in
set_option maxRecDepth 10000 in
theorem coordNew_ok (n : Int) (w : World) (h1 : 1 ≤ n) (h2 : n ≤ 1000) : Ret Try.prog i_coord_New [.int .i64 n] w fun v w2 => v = .tuple #[.agg #[.int .i64 0, .int .i64 1, .int .i64 n, .slice none 0 0], .int .i64 0] ∧ Below w.heap.size w w2 := by
 refine ret_of fn_coord_New rfl rfl ?_
 have H := Hp.start w
 refine Zs<|Zr<|alo H z_Coord rfl fun w1 b2 H =>Zl (Wi rfl)<|Zn<|Zs<|Zs<|Zr<|Zl (Yi rfl)<|Zl (lssF_r rfl rfl (by omega))<|Zl (Yb rfl)<|ZG<|Zl (Yi rfl)<|ZG ?_
 refine Zl (gtrF_r rfl rfl (by omega))<|Zl (Kf rfl rfl)<|Zn<|ZF rfl<|Zk<|Zs<|Zr<|Zl (Yi rfl)<|Zl (bld_r (cs := #[.int .i64 0, .int .i64 1, .int .i64 n, .slice none 0 0]) st_Coord z_Coord (by kernel_rfl))<|stN H 0 (#[.int .i64 0, .int .i64 1, .int .i64 n, .slice none 0 0]) siz_Coord rfl rfl rfl rfl rfl (by kernel_rfl) (by kernel_rfl) fun w2 H =>Zl (Wi rfl)<|Zn<|Zt ?_
 exact finCTn (cs0 := #[.int .i64 0, .int .i64 1, .int .i64 n, .slice none 0 0]) (v1 := .int .i64 0) rfl agg_Coord rfl (H.ent (i := 0) rfl) rfl rfl ⟨rfl, H.below⟩
set_option maxHeartbeats 4000000 in
set_option maxRecDepth 10000 in
theorem txn_ok (ck nx wt : Int) (At : Option Addr) (n ct : Nat) (t : Tx) (w : World) (hr : Rd intL 0 w.heap.size t.A t.parts w) (hpl : t.parts.length ≤ 1000000) :
  Ret Try.prog i_coord_txn [.agg #[.int .i64 ck, .int .i64 nx, .int .i64 wt, .slice At n ct], t.v] w fun v w2 => v = .bool (txOk ck nx t) ∧ Below w.heap.size w w2 := by
 refine ret_of fn_coord_txn rfl rfl ?_
 have H := Hp.startRd hr
 refine Zs<|Zr<|bxA H rfl rfl fun w1 b2 H =>bxA H rfl rfl fun w2 b3 H =>Zl (Wb rfl)<|Zn<|Zs<|Zs<|Zr<|Zl (Zf fd_Txn_0 rfl)<|Zl (Zd one_string H 0 rfl rfl rfl)<|cal cb_coord_name (name_ok t.name _) rfl rfl ?_
 rintro _ w3 ⟨rfl, hb⟩; replace H := H.later hb; clear hb
 refine Zl (not_r rfl)<|Zl (Yb rfl) ?_
 refine lwCase 11 rfl (fun h11 => ?_) (fun h11 => ?_)
 ·
  refine ZN<|ZN<|ZN<|Zl (Kt rfl rfl)<|Zl (Yb rfl)<|ZN<|ZN<|ZN<|ZN<|ZN<|Zl (Kt rfl rfl)<|Zl (Yb rfl)<|ZN<|ZN ?_
  refine ZN<|ZN<|Zl (Kt rfl rfl)<|Zl (Yb rfl)<|ZN<|ZN<|ZN<|Zl (Kt rfl rfl)<|Zl (Yb rfl)<|ZN<|ZN<|ZN<|Zl (Kt rfl rfl)<|Zl (Yb rfl) ?_
  refine ZN<|ZN<|ZN<|Zl (Kt rfl rfl)<|Zl (Yb rfl)<|ZN<|ZN<|ZN<|ZN<|ZN<|Zl (Kt rfl rfl)<|Zl (Yb rfl)<|ZN<|ZN ?_
  refine ZN<|ZN<|ZN<|ZN<|ZN<|ZN<|ZN<|ZN<|ZN<|ZN<|ZN<|Zl (Kt rfl rfl)<|Zn<|ZT rfl ?_
  refine Zs<|Zr<|Zl (Wb rfl)<|Zn<|Zt ?_
  have hv : txOk ck nx t = false := by
   cases hh : txOk ck nx t
   ·
    rfl
   ·
    obtain ⟨a1, a2, a3, a4, a5, a6, a7, a8, a9, a10, a11⟩ := txOk_iff.1 hh
    exfalso
    first | omega | simp_all
  exact fin1 (v := .bool false) rfl rfl ⟨by rw [hv], H.below⟩
 ·
  refine ZG<|Zl (Zf fd_Txn_1 rfl)<|ZG<|Zl (Zd one_int H 0 rfl rfl rfl)<|ZG ?_
  refine lwD (lss_r rfl rfl) rfl rfl rfl (fun h14 => ?_) (fun h14 => ?_)
  ·
   refine Zl (Kf rfl rfl)<|Zl (Yb rfl)<|ZN<|ZN<|ZN<|ZN<|ZN<|Zl (Kt rfl rfl)<|Zl (Yb rfl)<|ZN<|ZN<|ZN<|ZN<|Zl (Kt rfl rfl) ?_
   refine Zl (Yb rfl)<|ZN<|ZN<|ZN<|Zl (Kt rfl rfl)<|Zl (Yb rfl)<|ZN<|ZN<|ZN<|Zl (Kt rfl rfl)<|Zl (Yb rfl)<|ZN<|ZN<|ZN ?_
   refine Zl (Kt rfl rfl)<|Zl (Yb rfl)<|ZN<|ZN<|ZN<|ZN<|ZN<|Zl (Kt rfl rfl)<|Zl (Yb rfl)<|ZN<|ZN<|ZN<|ZN<|ZN ?_
   refine ZN<|ZN<|ZN<|ZN<|ZN<|ZN<|ZN<|ZN<|Zl (Kt rfl rfl)<|Zn<|ZT rfl<|Zs<|Zr<|Zl (Wb rfl) ?_
   refine Zn<|Zt ?_
   have hv : txOk ck nx t = false := by
    cases hh : txOk ck nx t
    ·
     rfl
    ·
     obtain ⟨a1, a2, a3, a4, a5, a6, a7, a8, a9, a10, a11⟩ := txOk_iff.1 hh
     exfalso
     first | omega | simp_all
   exact fin1 (v := .bool false) rfl rfl ⟨by rw [hv], H.below⟩
  ·
   refine Zl (Kf rfl rfl)<|Zl (Yb rfl)<|ZG<|Zl (Zf fd_Txn_1 rfl)<|ZG<|Zl (Zd one_int H 0 rfl rfl rfl)<|ZG<|Zl (Zf fd_Coord_1 rfl)<|ZG<|Zl (Zd one_int H 1 rfl rfl rfl)<|ZG ?_
   refine lwD (geq_r rfl rfl) rfl rfl rfl (fun h21 => ?_) (fun h21 => ?_)
   ·
    refine Zl (Kf rfl rfl)<|Zl (Yb rfl)<|ZN<|ZN<|ZN<|ZN<|Zl (Kt rfl rfl)<|Zl (Yb rfl)<|ZN<|ZN<|ZN<|Zl (Kt rfl rfl)<|Zl (Yb rfl)<|ZN ?_
    refine ZN<|ZN<|Zl (Kt rfl rfl)<|Zl (Yb rfl)<|ZN<|ZN<|ZN<|Zl (Kt rfl rfl)<|Zl (Yb rfl)<|ZN<|ZN<|ZN<|ZN<|ZN ?_
    refine Zl (Kt rfl rfl)<|Zl (Yb rfl)<|ZN<|ZN<|ZN<|ZN<|ZN<|ZN<|ZN<|ZN<|ZN<|ZN<|ZN<|ZN ?_
    refine ZN<|Zl (Kt rfl rfl)<|Zn<|ZT rfl<|Zs<|Zr<|Zl (Wb rfl)<|Zn<|Zt ?_
    have hv : txOk ck nx t = false := by
     cases hh : txOk ck nx t
     ·
      rfl
     ·
      obtain ⟨a1, a2, a3, a4, a5, a6, a7, a8, a9, a10, a11⟩ := txOk_iff.1 hh
      exfalso
      first | omega | simp_all
    exact fin1 (v := .bool false) rfl rfl ⟨by rw [hv], H.below⟩
   ·
    refine Zl (Kf rfl rfl)<|Zl (Yb rfl)<|ZG<|Zl (Zf fd_Txn_2 rfl)<|ZG<|Zl (Zd one_int H 0 rfl rfl rfl)<|ZG<|cal cb_coord_number (cnumber_ok t.ver _) rfl rfl ?_
    rintro _ w4 ⟨rfl, hb⟩; replace H := H.later hb; clear hb
    refine ZG<|Zl (not_r rfl)<|Zl (Kf rfl rfl)<|Zl (Yb rfl) ?_
    refine lwCase 29 rfl (fun h29 => ?_) (fun h29 => ?_)
    ·
     refine ZN<|ZN<|ZN<|Zl (Kt rfl rfl)<|Zl (Yb rfl)<|ZN<|ZN<|ZN<|Zl (Kt rfl rfl)<|Zl (Yb rfl)<|ZN<|ZN<|ZN<|Zl (Kt rfl rfl) ?_
     refine Zl (Yb rfl)<|ZN<|ZN<|ZN<|ZN<|ZN<|Zl (Kt rfl rfl)<|Zl (Yb rfl)<|ZN<|ZN<|ZN<|ZN<|ZN<|ZN ?_
     refine ZN<|ZN<|ZN<|ZN<|ZN<|ZN<|ZN<|Zl (Kt rfl rfl)<|Zn<|ZT rfl<|Zs<|Zr<|Zl (Wb rfl)<|Zn ?_
     refine Zt ?_
     have hv : txOk ck nx t = false := by
      cases hh : txOk ck nx t
      ·
       rfl
      ·
       obtain ⟨a1, a2, a3, a4, a5, a6, a7, a8, a9, a10, a11⟩ := txOk_iff.1 hh
       exfalso
       first | omega | simp_all
     exact fin1 (v := .bool false) rfl rfl ⟨by rw [hv], H.below⟩
    ·
     refine ZG<|Zl (Zf fd_Txn_3 rfl)<|ZG<|Zl (Zd one_int H 0 rfl rfl rfl)<|ZG ?_
     refine lwD (lss_r rfl rfl) rfl rfl rfl (fun h32 => ?_) (fun h32 => ?_)
     ·
      refine Zl (Kf rfl rfl)<|Zl (Yb rfl)<|ZN<|ZN<|ZN<|Zl (Kt rfl rfl)<|Zl (Yb rfl)<|ZN<|ZN<|ZN<|Zl (Kt rfl rfl)<|Zl (Yb rfl)<|ZN<|ZN ?_
      refine ZN<|ZN<|ZN<|Zl (Kt rfl rfl)<|Zl (Yb rfl)<|ZN<|ZN<|ZN<|ZN<|ZN<|ZN<|ZN<|ZN<|ZN ?_
      refine ZN<|ZN<|ZN<|ZN<|Zl (Kt rfl rfl)<|Zn<|ZT rfl<|Zs<|Zr<|Zl (Wb rfl)<|Zn<|Zt ?_
      have hv : txOk ck nx t = false := by
       cases hh : txOk ck nx t
       ·
        rfl
       ·
        obtain ⟨a1, a2, a3, a4, a5, a6, a7, a8, a9, a10, a11⟩ := txOk_iff.1 hh
        exfalso
        first | omega | simp_all
      exact fin1 (v := .bool false) rfl rfl ⟨by rw [hv], H.below⟩
     ·
      refine Zl (Kf rfl rfl)<|Zl (Yb rfl)<|ZG<|Zl (Zf fd_Txn_3 rfl)<|ZG<|Zl (Zd one_int H 0 rfl rfl rfl)<|ZG ?_
      refine lwD (gtr_r rfl rfl) rfl rfl rfl (fun h37 => ?_) (fun h37 => ?_)
      ·
       refine Zl (Kf rfl rfl)<|Zl (Yb rfl)<|ZN<|ZN<|ZN<|Zl (Kt rfl rfl)<|Zl (Yb rfl)<|ZN<|ZN<|ZN<|ZN<|ZN<|Zl (Kt rfl rfl)<|Zl (Yb rfl) ?_
       refine ZN<|ZN<|ZN<|ZN<|ZN<|ZN<|ZN<|ZN<|ZN<|ZN<|ZN<|ZN<|ZN<|Zl (Kt rfl rfl) ?_
       refine Zn<|ZT rfl<|Zs<|Zr<|Zl (Wb rfl)<|Zn<|Zt ?_
       have hv : txOk ck nx t = false := by
        cases hh : txOk ck nx t
        ·
         rfl
        ·
         obtain ⟨a1, a2, a3, a4, a5, a6, a7, a8, a9, a10, a11⟩ := txOk_iff.1 hh
         exfalso
         first | omega | simp_all
       exact fin1 (v := .bool false) rfl rfl ⟨by rw [hv], H.below⟩
      ·
       refine Zl (Kf rfl rfl)<|Zl (Yb rfl)<|ZG<|Zl (Zf fd_Txn_5 rfl)<|ZG<|Zl (Zd one_int H 0 rfl rfl rfl)<|ZG ?_
       refine lwD (lss_r rfl rfl) rfl rfl rfl (fun h42 => ?_) (fun h42 => ?_)
       ·
        refine Zl (Kf rfl rfl)<|Zl (Yb rfl)<|ZN<|ZN<|ZN<|ZN<|ZN<|Zl (Kt rfl rfl)<|Zl (Yb rfl)<|ZN<|ZN<|ZN<|ZN<|ZN ?_
        refine ZN<|ZN<|ZN<|ZN<|ZN<|ZN<|ZN<|ZN<|Zl (Kt rfl rfl)<|Zn<|ZT rfl<|Zs<|Zr<|Zl (Wb rfl) ?_
        refine Zn<|Zt ?_
        have hv : txOk ck nx t = false := by
         cases hh : txOk ck nx t
         ·
          rfl
         ·
          obtain ⟨a1, a2, a3, a4, a5, a6, a7, a8, a9, a10, a11⟩ := txOk_iff.1 hh
          exfalso
          first | omega | simp_all
        exact fin1 (v := .bool false) rfl rfl ⟨by rw [hv], H.below⟩
       ·
        refine Zl (Kf rfl rfl)<|Zl (Yb rfl)<|ZG<|Zl (Zf fd_Txn_5 rfl)<|ZG<|Zl (Zd one_int H 0 rfl rfl rfl)<|ZG<|Zl (Zf fd_Coord_0 rfl)<|ZG<|Zl (Zd one_int H 1 rfl rfl rfl)<|ZG ?_
        refine lwD (gtr_r rfl rfl) rfl rfl rfl (fun h49 => ?_) (fun h49 => ?_)
        ·
         refine Zl (Kf rfl rfl)<|Zl (Yb rfl)<|ZN<|ZN<|ZN<|ZN<|ZN<|ZN<|ZN<|ZN<|ZN<|ZN<|ZN<|ZN ?_
         refine ZN<|Zl (Kt rfl rfl)<|Zn<|ZT rfl<|Zs<|Zr<|Zl (Wb rfl)<|Zn<|Zt ?_
         have hv : txOk ck nx t = false := by
          cases hh : txOk ck nx t
          ·
           rfl
          ·
           obtain ⟨a1, a2, a3, a4, a5, a6, a7, a8, a9, a10, a11⟩ := txOk_iff.1 hh
           exfalso
           first | omega | simp_all
         exact fin1 (v := .bool false) rfl rfl ⟨by rw [hv], H.below⟩
        ·
         refine Zl (Kf rfl rfl)<|Zl (Yb rfl)<|ZG<|Zl (Zf fd_Txn_6 rfl)<|ZG<|Zl (Zd one_int H 0 rfl rfl rfl)<|ZG ?_
         refine lwND (neq_r rfl rfl) rfl rfl rfl (fun h54 => ?_) (fun h54 => ?_)
         ·
          refine ZG<|Zl (Yb rfl)<|ZG<|Zl (Zf fd_Txn_6 rfl)<|ZG<|Zl (Zd one_int H 0 rfl rfl rfl)<|ZG ?_
          refine lwND (neq_r rfl rfl) rfl rfl rfl (fun h58 => ?_) (fun h58 => ?_)
          ·
           refine ZG<|Zl (Kt rfl rfl)<|ZG<|Zl (Yb rfl)<|ZG<|Zl (Zf fd_Txn_6 rfl)<|ZG<|Zl (Zd one_int H 0 rfl rfl rfl)<|ZG ?_
           refine lwND (neq_r rfl rfl) rfl rfl rfl (fun h63 => ?_) (fun h63 => ?_)
           ·
            refine ZG<|Zl (Kt rfl rfl)<|Zl (Kf rfl rfl)<|Zn<|ZT rfl<|Zs<|Zr<|Zl (Wb rfl)<|Zn<|Zt ?_
            have hv : txOk ck nx t = false := by
             cases hh : txOk ck nx t
             ·
              rfl
             ·
              obtain ⟨a1, a2, a3, a4, a5, a6, a7, a8, a9, a10, a11⟩ := txOk_iff.1 hh
              exfalso
              first | omega | simp_all
            exact fin1 (v := .bool false) rfl rfl ⟨by rw [hv], H.below⟩
           ·
            refine ZG<|Zl (Kt rfl rfl)<|Zl (Kf rfl rfl)<|Zn<|ZF rfl<|Zk<|Zs<|Zs<|Zr<|Zl (Zf fd_Txn_4 rfl)<|Zl (Zd one_Lint H 0 rfl rfl rfl)<|Zl (lenS_r len_Lint rfl)<|Zl (Yi rfl)<|Zn ?_
            refine Zb ?_
            refine cw_loop (τ := Nat × Int) [4, 5, 6, 69, 70, 71, 72, 73, 74, 75, 76, 77, 78, 79, 80, 81, 82, 83, 84, 85, 86, 87, 88, 89, 90, 91, 92, 93, 94] (fun (k, _) => [(69, .int .i64 (k : Nat))]) (fun (k, last) w' => k ≤ t.parts.length ∧ partsOk (-1) t.parts = partsOk last (t.parts.drop k) ∧ (k = 0 → last = -1) ∧ (∀ j, k = j + 1 → t.parts[j]? = some last) ∧ -1 ≤ last ∧ Hp w w' [(b3, .cells t.c.toArray T_Txn (0, 0))] [FRd intL 0 w.heap.size t.A t.parts]) (fun (k, _) => t.parts.length - k) (0, -1) ⟨by omega, by rw [List.drop_zero], fun _ => rfl, fun j hj => by omega, by omega, H.forget (List.Sublist.cons_cons _ (.cons _ (List.Sublist.refl _))) (fun _ h => h)⟩ (sl1 rfl) ?_
            rintro ⟨k, last⟩ ρ1 w5 ⟨hk, hpo, hl0, hl1, hl2, H⟩
            show CW _ _ _ _ (updL (ovr _ _ ρ1) [(69, .int .i64 (k : Nat))]) w5
            refine Zs<|Zr ?_
            refine lwD (lss_r rfl rfl) rfl rfl rfl (fun h70 => ?_) (fun h70 => ?_)
            ·
             refine Zn<|Zs<|ZT rfl<|Zk<|Zs<|Zb<|Zs<|Zr<|Zl (Yi rfl)<|ixF H 0 rfl sl_Lint rfl rfl (by omega) (by omega) rfl fun b6 o6 x6 e6 => ?_
             have hxk := e6.at_
             have hdrop := take_drop_step hxk
             refine Zl (ld_r one_int rfl (e6.cl 0 _ rfl))<|Zl (Wi rfl)<|Zl (Wi rfl)<|Zn<|Zs<|Zr<|Zl (Yi rfl) ?_
             refine lwD (lss_r rfl rfl) rfl rfl rfl (fun h75 => ?_) (fun h75 => ?_)
             ·
              refine Zl (Yb rfl)<|ZN<|ZN<|Zl (Kt rfl rfl)<|Zl (Yb rfl)<|ZN<|ZN<|ZN<|ZN<|ZN<|ZN<|ZN<|ZN<|ZN ?_
              refine ZN<|ZN<|ZN<|Zl (Kt rfl rfl)<|Zn<|ZT rfl<|Zs<|Zr<|Zl (Wb rfl)<|Zn<|Zt ?_
              have hv : txOk ck nx t = false := by
               cases hh : txOk ck nx t
               ·
                rfl
               ·
                obtain ⟨a1, a2, a3, a4, a5, a6, a7, a8, a9, a10, a11⟩ := txOk_iff.1 hh
                exfalso
                rw [hpo, hdrop] at a10
                simp only [partsOk, Bool.and_eq_true, decide_eq_true_eq] at a10
                obtain ⟨⟨q1, q2⟩, -⟩ := a10
                omega
              exact fin1 (v := .bool false) rfl rfl ⟨by rw [hv], H.below⟩
             ·
              refine Zl (Yb rfl)<|ZG<|Zl (Yi rfl)<|ZG ?_
              refine lwD (geq_r rfl rfl) rfl rfl rfl (fun h78 => ?_) (fun h78 => ?_)
              ·
               refine Zl (Kf rfl rfl)<|Zl (Yb rfl)<|ZN<|ZN<|ZN<|ZN<|ZN<|ZN<|ZN<|ZN<|ZN<|ZN<|ZN<|ZN ?_
               refine Zl (Kt rfl rfl)<|Zn<|ZT rfl<|Zs<|Zr<|Zl (Wb rfl)<|Zn<|Zt ?_
               have hv : txOk ck nx t = false := by
                cases hh : txOk ck nx t
                ·
                 rfl
                ·
                 obtain ⟨a1, a2, a3, a4, a5, a6, a7, a8, a9, a10, a11⟩ := txOk_iff.1 hh
                 exfalso
                 rw [hpo, hdrop] at a10
                 simp only [partsOk, Bool.and_eq_true, decide_eq_true_eq] at a10
                 obtain ⟨⟨q1, q2⟩, -⟩ := a10
                 omega
               exact fin1 (v := .bool false) rfl rfl ⟨by rw [hv], H.below⟩
              ·
               refine Zl (Kf rfl rfl)<|Zl (Yb rfl)<|ZG<|Zl (Yi rfl)<|ZG ?_
               refine lwD (gtr_r rfl rfl) rfl rfl rfl (fun h82 => ?_) (fun h82 => ?_)
               ·
                refine ZG<|Zl (Yb rfl)<|ZG<|Zl (Zf fd_Txn_4 rfl)<|ZG<|Zl (Zd one_Lint H 0 rfl rfl rfl)<|ZG<|Zl (Yi rfl)<|ZG<|Zl (sub_r rfl rfl (by omega) (by omega)) ?_
                rw [show (k : Int) - 1 = ((k - 1 : Nat) : Int) by omega]
                refine ZG<|ixF H 0 rfl sl_Lint rfl rfl (by omega) (by omega) rfl fun b7 o7 x7 e7 => ?_
                have hprev := e7.at_
                refine ZG<|Zl (ld_r one_int rfl (e7.cl 0 _ rfl))<|ZG<|Zl (Yi rfl)<|ZG ?_
                refine lwD (geq_r rfl rfl) rfl rfl rfl (fun h91 => ?_) (fun h91 => ?_)
                ·
                 refine ZG<|Zl (Kt rfl rfl)<|Zl (Kf rfl rfl)<|Zn<|ZT rfl<|Zs<|Zr<|Zl (Wb rfl)<|Zn<|Zt ?_
                 have hv : txOk ck nx t = false := by
                  cases hh : txOk ck nx t
                  ·
                   rfl
                  ·
                   obtain ⟨a1, a2, a3, a4, a5, a6, a7, a8, a9, a10, a11⟩ := txOk_iff.1 hh
                   exfalso
                   rw [hpo, hdrop] at a10
                   simp only [partsOk, Bool.and_eq_true, decide_eq_true_eq] at a10
                   obtain ⟨⟨q1, q2⟩, -⟩ := a10
                   obtain ⟨j, rfl⟩ : ∃ j, k = j + 1 := ⟨k - 1, by omega⟩; have := hl1 j rfl; rw [show j + 1 - 1 = j by omega, this] at hprev; injection hprev with hprev; omega
                 exact fin1 (v := .bool false) rfl rfl ⟨by rw [hv], H.below⟩
                ·
                 refine ZG<|Zl (Kt rfl rfl)<|Zl (Kf rfl rfl)<|Zn<|ZF rfl<|Zk<|Zr<|Zl (add_r rfl rfl (by omega) (by omega))<|Zl (Yi rfl)<|Zn ?_
                 have hlt : last < x6 := by
                  obtain ⟨j, rfl⟩ : ∃ j, k = j + 1 := ⟨k - 1, by omega⟩
                  have h1 := hl1 j rfl
                  rw [show j + 1 - 1 = j by omega, h1] at hprev
                  injection hprev with hprev
                  omega
                 have h4 : x6 < 4 := by omega
                 refine ⟨(k + 1, x6), ⟨by omega, ?_, fun h => by omega, fun j hj => ?_, by omega, H⟩, sl1 rfl, by repeat (first | exact Agr.refl _ _ | exact agr_ovr | refine agr_upd rfl ?_ | refine agr_updL _ rfl ?_ | refine agr_ovr2 rfl ?_), by show t.parts.length - (k + 1) < t.parts.length - k; omega⟩
                 ·
                  rw [hpo, hdrop]; simp only [partsOk, decide_eq_true hlt, decide_eq_true h4, Bool.true_and]
                 ·
                  obtain rfl : j = k := by omega
                  exact hxk
               ·
                refine ZG<|Zl (Yb rfl)<|ZN<|ZN<|ZN<|ZN<|ZN<|ZN<|ZN<|ZN<|ZG<|Zl (Kf rfl rfl)<|Zl (Kf rfl rfl)<|Zn ?_
                refine ZF rfl<|Zk<|Zr<|Zl (add_r rfl rfl (by omega) (by omega))<|Zl (Yi rfl)<|Zn ?_
                have hlt : last < x6 := by
                 have := hl0 (by omega)
                 omega
                have h4 : x6 < 4 := by omega
                refine ⟨(k + 1, x6), ⟨by omega, ?_, fun h => by omega, fun j hj => ?_, by omega, H⟩, sl1 rfl, by repeat (first | exact Agr.refl _ _ | exact agr_ovr | refine agr_upd rfl ?_ | refine agr_updL _ rfl ?_ | refine agr_ovr2 rfl ?_), by show t.parts.length - (k + 1) < t.parts.length - k; omega⟩
                ·
                 rw [hpo, hdrop]; simp only [partsOk, decide_eq_true hlt, decide_eq_true h4, Bool.true_and]
                ·
                 obtain rfl : j = k := by omega
                 exact hxk
            ·
             have hke : k = t.parts.length := by omega
             have hall : partsOk (-1) t.parts = true := by rw [hpo, hke, List.drop_length]; rfl
             refine Zn<|Zs<|ZF rfl<|Zx<|Zs<|Zr<|Zl (Zf fd_Txn_3 rfl)<|Zl (Zd one_int H 0 rfl rfl rfl)<|Zl (eql_r rfl rfl)<|Zl (Zf fd_Txn_4 rfl)<|Zl (Zd one_Lint H 0 rfl rfl rfl)<|Zl (lenS_r len_Lint rfl)<|Zl (eql_r rfl rfl)<|Zl (beql_r und_bool rfl rfl) ?_
             refine Zl (Wb rfl)<|Zn<|Zt ?_
             have hv : txOk ck nx t = (decide (t.state = 1) == decide ((t.parts.length : Int) = 0)) := by
              rw [Bool.eq_iff_iff, txOk_iff, beq_iff_eq, decide_eq_decide]
              constructor
              ·
               rintro ⟨-, -, -, -, -, -, -, -, -, -, h⟩
               exact h.trans ⟨fun x => by omega, fun x => by omega⟩
              ·
               intro h
               exact ⟨by simpa using h11, by omega, by omega, by simpa using h29, by omega, by omega, by omega, by omega, by omega, hall, h.trans ⟨fun x => by omega, fun x => by omega⟩⟩
             exact fin1 (v := .bool (decide (t.state = 1) == decide ((t.parts.length : Int) = 0))) rfl rfl ⟨by rw [hv], H.below⟩
          ·
           refine ZG<|Zl (Kt rfl rfl)<|ZG<|Zl (Yb rfl)<|ZN<|ZN<|ZN<|ZG<|Zl (Kf rfl rfl)<|Zl (Kf rfl rfl)<|Zn<|ZF rfl<|Zk<|Zs ?_
           refine Zs<|Zr<|Zl (Zf fd_Txn_4 rfl)<|Zl (Zd one_Lint H 0 rfl rfl rfl)<|Zl (lenS_r len_Lint rfl)<|Zl (Yi rfl)<|Zn<|Zb ?_
           refine cw_loop (τ := Nat × Int) [4, 5, 6, 69, 70, 71, 72, 73, 74, 75, 76, 77, 78, 79, 80, 81, 82, 83, 84, 85, 86, 87, 88, 89, 90, 91, 92, 93, 94] (fun (k, _) => [(69, .int .i64 (k : Nat))]) (fun (k, last) w' => k ≤ t.parts.length ∧ partsOk (-1) t.parts = partsOk last (t.parts.drop k) ∧ (k = 0 → last = -1) ∧ (∀ j, k = j + 1 → t.parts[j]? = some last) ∧ -1 ≤ last ∧ Hp w w' [(b3, .cells t.c.toArray T_Txn (0, 0))] [FRd intL 0 w.heap.size t.A t.parts]) (fun (k, _) => t.parts.length - k) (0, -1) ⟨by omega, by rw [List.drop_zero], fun _ => rfl, fun j hj => by omega, by omega, H.forget (List.Sublist.cons_cons _ (.cons _ (List.Sublist.refl _))) (fun _ h => h)⟩ (sl1 rfl) ?_
           rintro ⟨k, last⟩ ρ1 w8 ⟨hk, hpo, hl0, hl1, hl2, H⟩
           show CW _ _ _ _ (updL (ovr _ _ ρ1) [(69, .int .i64 (k : Nat))]) w8
           refine Zs<|Zr ?_
           refine lwD (lss_r rfl rfl) rfl rfl rfl (fun h70 => ?_) (fun h70 => ?_)
           ·
            refine Zn<|Zs<|ZT rfl<|Zk<|Zs<|Zb<|Zs<|Zr<|Zl (Yi rfl)<|ixF H 0 rfl sl_Lint rfl rfl (by omega) (by omega) rfl fun b9 o9 x9 e9 => ?_
            have hxk := e9.at_
            have hdrop := take_drop_step hxk
            refine Zl (ld_r one_int rfl (e9.cl 0 _ rfl))<|Zl (Wi rfl)<|Zl (Wi rfl)<|Zn<|Zs<|Zr<|Zl (Yi rfl) ?_
            refine lwD (lss_r rfl rfl) rfl rfl rfl (fun h75 => ?_) (fun h75 => ?_)
            ·
             refine Zl (Yb rfl)<|ZN<|ZN<|Zl (Kt rfl rfl)<|Zl (Yb rfl)<|ZN<|ZN<|ZN<|ZN<|ZN<|ZN<|ZN<|ZN<|ZN ?_
             refine ZN<|ZN<|ZN<|Zl (Kt rfl rfl)<|Zn<|ZT rfl<|Zs<|Zr<|Zl (Wb rfl)<|Zn<|Zt ?_
             have hv : txOk ck nx t = false := by
              cases hh : txOk ck nx t
              ·
               rfl
              ·
               obtain ⟨a1, a2, a3, a4, a5, a6, a7, a8, a9, a10, a11⟩ := txOk_iff.1 hh
               exfalso
               rw [hpo, hdrop] at a10
               simp only [partsOk, Bool.and_eq_true, decide_eq_true_eq] at a10
               obtain ⟨⟨q1, q2⟩, -⟩ := a10
               omega
             exact fin1 (v := .bool false) rfl rfl ⟨by rw [hv], H.below⟩
            ·
             refine Zl (Yb rfl)<|ZG<|Zl (Yi rfl)<|ZG ?_
             refine lwD (geq_r rfl rfl) rfl rfl rfl (fun h78 => ?_) (fun h78 => ?_)
             ·
              refine Zl (Kf rfl rfl)<|Zl (Yb rfl)<|ZN<|ZN<|ZN<|ZN<|ZN<|ZN<|ZN<|ZN<|ZN<|ZN<|ZN<|ZN ?_
              refine Zl (Kt rfl rfl)<|Zn<|ZT rfl<|Zs<|Zr<|Zl (Wb rfl)<|Zn<|Zt ?_
              have hv : txOk ck nx t = false := by
               cases hh : txOk ck nx t
               ·
                rfl
               ·
                obtain ⟨a1, a2, a3, a4, a5, a6, a7, a8, a9, a10, a11⟩ := txOk_iff.1 hh
                exfalso
                rw [hpo, hdrop] at a10
                simp only [partsOk, Bool.and_eq_true, decide_eq_true_eq] at a10
                obtain ⟨⟨q1, q2⟩, -⟩ := a10
                omega
              exact fin1 (v := .bool false) rfl rfl ⟨by rw [hv], H.below⟩
             ·
              refine Zl (Kf rfl rfl)<|Zl (Yb rfl)<|ZG<|Zl (Yi rfl)<|ZG ?_
              refine lwD (gtr_r rfl rfl) rfl rfl rfl (fun h82 => ?_) (fun h82 => ?_)
              ·
               refine ZG<|Zl (Yb rfl)<|ZG<|Zl (Zf fd_Txn_4 rfl)<|ZG<|Zl (Zd one_Lint H 0 rfl rfl rfl)<|ZG<|Zl (Yi rfl)<|ZG<|Zl (sub_r rfl rfl (by omega) (by omega)) ?_
               rw [show (k : Int) - 1 = ((k - 1 : Nat) : Int) by omega]
               refine ZG<|ixF H 0 rfl sl_Lint rfl rfl (by omega) (by omega) rfl fun b10 o10 x10 e10 => ?_
               have hprev := e10.at_
               refine ZG<|Zl (ld_r one_int rfl (e10.cl 0 _ rfl))<|ZG<|Zl (Yi rfl)<|ZG ?_
               refine lwD (geq_r rfl rfl) rfl rfl rfl (fun h91 => ?_) (fun h91 => ?_)
               ·
                refine ZG<|Zl (Kt rfl rfl)<|Zl (Kf rfl rfl)<|Zn<|ZT rfl<|Zs<|Zr<|Zl (Wb rfl)<|Zn<|Zt ?_
                have hv : txOk ck nx t = false := by
                 cases hh : txOk ck nx t
                 ·
                  rfl
                 ·
                  obtain ⟨a1, a2, a3, a4, a5, a6, a7, a8, a9, a10, a11⟩ := txOk_iff.1 hh
                  exfalso
                  rw [hpo, hdrop] at a10
                  simp only [partsOk, Bool.and_eq_true, decide_eq_true_eq] at a10
                  obtain ⟨⟨q1, q2⟩, -⟩ := a10
                  obtain ⟨j, rfl⟩ : ∃ j, k = j + 1 := ⟨k - 1, by omega⟩; have := hl1 j rfl; rw [show j + 1 - 1 = j by omega, this] at hprev; injection hprev with hprev; omega
                exact fin1 (v := .bool false) rfl rfl ⟨by rw [hv], H.below⟩
               ·
                refine ZG<|Zl (Kt rfl rfl)<|Zl (Kf rfl rfl)<|Zn<|ZF rfl<|Zk<|Zr<|Zl (add_r rfl rfl (by omega) (by omega))<|Zl (Yi rfl)<|Zn ?_
                have hlt : last < x9 := by
                 obtain ⟨j, rfl⟩ : ∃ j, k = j + 1 := ⟨k - 1, by omega⟩
                 have h1 := hl1 j rfl
                 rw [show j + 1 - 1 = j by omega, h1] at hprev
                 injection hprev with hprev
                 omega
                have h4 : x9 < 4 := by omega
                refine ⟨(k + 1, x9), ⟨by omega, ?_, fun h => by omega, fun j hj => ?_, by omega, H⟩, sl1 rfl, by repeat (first | exact Agr.refl _ _ | exact agr_ovr | refine agr_upd rfl ?_ | refine agr_updL _ rfl ?_ | refine agr_ovr2 rfl ?_), by show t.parts.length - (k + 1) < t.parts.length - k; omega⟩
                ·
                 rw [hpo, hdrop]; simp only [partsOk, decide_eq_true hlt, decide_eq_true h4, Bool.true_and]
                ·
                 obtain rfl : j = k := by omega
                 exact hxk
              ·
               refine ZG<|Zl (Yb rfl)<|ZN<|ZN<|ZN<|ZN<|ZN<|ZN<|ZN<|ZN<|ZG<|Zl (Kf rfl rfl)<|Zl (Kf rfl rfl)<|Zn ?_
               refine ZF rfl<|Zk<|Zr<|Zl (add_r rfl rfl (by omega) (by omega))<|Zl (Yi rfl)<|Zn ?_
               have hlt : last < x9 := by
                have := hl0 (by omega)
                omega
               have h4 : x9 < 4 := by omega
               refine ⟨(k + 1, x9), ⟨by omega, ?_, fun h => by omega, fun j hj => ?_, by omega, H⟩, sl1 rfl, by repeat (first | exact Agr.refl _ _ | exact agr_ovr | refine agr_upd rfl ?_ | refine agr_updL _ rfl ?_ | refine agr_ovr2 rfl ?_), by show t.parts.length - (k + 1) < t.parts.length - k; omega⟩
               ·
                rw [hpo, hdrop]; simp only [partsOk, decide_eq_true hlt, decide_eq_true h4, Bool.true_and]
               ·
                obtain rfl : j = k := by omega
                exact hxk
           ·
            have hke : k = t.parts.length := by omega
            have hall : partsOk (-1) t.parts = true := by rw [hpo, hke, List.drop_length]; rfl
            refine Zn<|Zs<|ZF rfl<|Zx<|Zs<|Zr<|Zl (Zf fd_Txn_3 rfl)<|Zl (Zd one_int H 0 rfl rfl rfl)<|Zl (eql_r rfl rfl)<|Zl (Zf fd_Txn_4 rfl)<|Zl (Zd one_Lint H 0 rfl rfl rfl)<|Zl (lenS_r len_Lint rfl)<|Zl (eql_r rfl rfl)<|Zl (beql_r und_bool rfl rfl) ?_
            refine Zl (Wb rfl)<|Zn<|Zt ?_
            have hv : txOk ck nx t = (decide (t.state = 1) == decide ((t.parts.length : Int) = 0)) := by
             rw [Bool.eq_iff_iff, txOk_iff, beq_iff_eq, decide_eq_decide]
             constructor
             ·
              rintro ⟨-, -, -, -, -, -, -, -, -, -, h⟩
              exact h.trans ⟨fun x => by omega, fun x => by omega⟩
             ·
              intro h
              exact ⟨by simpa using h11, by omega, by omega, by simpa using h29, by omega, by omega, by omega, by omega, by omega, hall, h.trans ⟨fun x => by omega, fun x => by omega⟩⟩
            exact fin1 (v := .bool (decide (t.state = 1) == decide ((t.parts.length : Int) = 0))) rfl rfl ⟨by rw [hv], H.below⟩
         ·
          refine ZG<|Zl (Yb rfl)<|ZN<|ZN<|ZN<|ZG<|Zl (Kf rfl rfl)<|ZG<|Zl (Yb rfl)<|ZN<|ZN<|ZN<|ZG<|Zl (Kf rfl rfl) ?_
          refine Zl (Kf rfl rfl)<|Zn<|ZF rfl<|Zk<|Zs<|Zs<|Zr<|Zl (Zf fd_Txn_4 rfl)<|Zl (Zd one_Lint H 0 rfl rfl rfl)<|Zl (lenS_r len_Lint rfl)<|Zl (Yi rfl)<|Zn<|Zb ?_
          refine cw_loop (τ := Nat × Int) [4, 5, 6, 69, 70, 71, 72, 73, 74, 75, 76, 77, 78, 79, 80, 81, 82, 83, 84, 85, 86, 87, 88, 89, 90, 91, 92, 93, 94] (fun (k, _) => [(69, .int .i64 (k : Nat))]) (fun (k, last) w' => k ≤ t.parts.length ∧ partsOk (-1) t.parts = partsOk last (t.parts.drop k) ∧ (k = 0 → last = -1) ∧ (∀ j, k = j + 1 → t.parts[j]? = some last) ∧ -1 ≤ last ∧ Hp w w' [(b3, .cells t.c.toArray T_Txn (0, 0))] [FRd intL 0 w.heap.size t.A t.parts]) (fun (k, _) => t.parts.length - k) (0, -1) ⟨by omega, by rw [List.drop_zero], fun _ => rfl, fun j hj => by omega, by omega, H.forget (List.Sublist.cons_cons _ (.cons _ (List.Sublist.refl _))) (fun _ h => h)⟩ (sl1 rfl) ?_
          rintro ⟨k, last⟩ ρ1 w11 ⟨hk, hpo, hl0, hl1, hl2, H⟩
          show CW _ _ _ _ (updL (ovr _ _ ρ1) [(69, .int .i64 (k : Nat))]) w11
          refine Zs<|Zr ?_
          refine lwD (lss_r rfl rfl) rfl rfl rfl (fun h70 => ?_) (fun h70 => ?_)
          ·
           refine Zn<|Zs<|ZT rfl<|Zk<|Zs<|Zb<|Zs<|Zr<|Zl (Yi rfl)<|ixF H 0 rfl sl_Lint rfl rfl (by omega) (by omega) rfl fun b12 o12 x12 e12 => ?_
           have hxk := e12.at_
           have hdrop := take_drop_step hxk
           refine Zl (ld_r one_int rfl (e12.cl 0 _ rfl))<|Zl (Wi rfl)<|Zl (Wi rfl)<|Zn<|Zs<|Zr<|Zl (Yi rfl) ?_
           refine lwD (lss_r rfl rfl) rfl rfl rfl (fun h75 => ?_) (fun h75 => ?_)
           ·
            refine Zl (Yb rfl)<|ZN<|ZN<|Zl (Kt rfl rfl)<|Zl (Yb rfl)<|ZN<|ZN<|ZN<|ZN<|ZN<|ZN<|ZN<|ZN<|ZN ?_
            refine ZN<|ZN<|ZN<|Zl (Kt rfl rfl)<|Zn<|ZT rfl<|Zs<|Zr<|Zl (Wb rfl)<|Zn<|Zt ?_
            have hv : txOk ck nx t = false := by
             cases hh : txOk ck nx t
             ·
              rfl
             ·
              obtain ⟨a1, a2, a3, a4, a5, a6, a7, a8, a9, a10, a11⟩ := txOk_iff.1 hh
              exfalso
              rw [hpo, hdrop] at a10
              simp only [partsOk, Bool.and_eq_true, decide_eq_true_eq] at a10
              obtain ⟨⟨q1, q2⟩, -⟩ := a10
              omega
            exact fin1 (v := .bool false) rfl rfl ⟨by rw [hv], H.below⟩
           ·
            refine Zl (Yb rfl)<|ZG<|Zl (Yi rfl)<|ZG ?_
            refine lwD (geq_r rfl rfl) rfl rfl rfl (fun h78 => ?_) (fun h78 => ?_)
            ·
             refine Zl (Kf rfl rfl)<|Zl (Yb rfl)<|ZN<|ZN<|ZN<|ZN<|ZN<|ZN<|ZN<|ZN<|ZN<|ZN<|ZN<|ZN ?_
             refine Zl (Kt rfl rfl)<|Zn<|ZT rfl<|Zs<|Zr<|Zl (Wb rfl)<|Zn<|Zt ?_
             have hv : txOk ck nx t = false := by
              cases hh : txOk ck nx t
              ·
               rfl
              ·
               obtain ⟨a1, a2, a3, a4, a5, a6, a7, a8, a9, a10, a11⟩ := txOk_iff.1 hh
               exfalso
               rw [hpo, hdrop] at a10
               simp only [partsOk, Bool.and_eq_true, decide_eq_true_eq] at a10
               obtain ⟨⟨q1, q2⟩, -⟩ := a10
               omega
             exact fin1 (v := .bool false) rfl rfl ⟨by rw [hv], H.below⟩
            ·
             refine Zl (Kf rfl rfl)<|Zl (Yb rfl)<|ZG<|Zl (Yi rfl)<|ZG ?_
             refine lwD (gtr_r rfl rfl) rfl rfl rfl (fun h82 => ?_) (fun h82 => ?_)
             ·
              refine ZG<|Zl (Yb rfl)<|ZG<|Zl (Zf fd_Txn_4 rfl)<|ZG<|Zl (Zd one_Lint H 0 rfl rfl rfl)<|ZG<|Zl (Yi rfl)<|ZG<|Zl (sub_r rfl rfl (by omega) (by omega)) ?_
              rw [show (k : Int) - 1 = ((k - 1 : Nat) : Int) by omega]
              refine ZG<|ixF H 0 rfl sl_Lint rfl rfl (by omega) (by omega) rfl fun b13 o13 x13 e13 => ?_
              have hprev := e13.at_
              refine ZG<|Zl (ld_r one_int rfl (e13.cl 0 _ rfl))<|ZG<|Zl (Yi rfl)<|ZG ?_
              refine lwD (geq_r rfl rfl) rfl rfl rfl (fun h91 => ?_) (fun h91 => ?_)
              ·
               refine ZG<|Zl (Kt rfl rfl)<|Zl (Kf rfl rfl)<|Zn<|ZT rfl<|Zs<|Zr<|Zl (Wb rfl)<|Zn<|Zt ?_
               have hv : txOk ck nx t = false := by
                cases hh : txOk ck nx t
                ·
                 rfl
                ·
                 obtain ⟨a1, a2, a3, a4, a5, a6, a7, a8, a9, a10, a11⟩ := txOk_iff.1 hh
                 exfalso
                 rw [hpo, hdrop] at a10
                 simp only [partsOk, Bool.and_eq_true, decide_eq_true_eq] at a10
                 obtain ⟨⟨q1, q2⟩, -⟩ := a10
                 obtain ⟨j, rfl⟩ : ∃ j, k = j + 1 := ⟨k - 1, by omega⟩; have := hl1 j rfl; rw [show j + 1 - 1 = j by omega, this] at hprev; injection hprev with hprev; omega
               exact fin1 (v := .bool false) rfl rfl ⟨by rw [hv], H.below⟩
              ·
               refine ZG<|Zl (Kt rfl rfl)<|Zl (Kf rfl rfl)<|Zn<|ZF rfl<|Zk<|Zr<|Zl (add_r rfl rfl (by omega) (by omega))<|Zl (Yi rfl)<|Zn ?_
               have hlt : last < x12 := by
                obtain ⟨j, rfl⟩ : ∃ j, k = j + 1 := ⟨k - 1, by omega⟩
                have h1 := hl1 j rfl
                rw [show j + 1 - 1 = j by omega, h1] at hprev
                injection hprev with hprev
                omega
               have h4 : x12 < 4 := by omega
               refine ⟨(k + 1, x12), ⟨by omega, ?_, fun h => by omega, fun j hj => ?_, by omega, H⟩, sl1 rfl, by repeat (first | exact Agr.refl _ _ | exact agr_ovr | refine agr_upd rfl ?_ | refine agr_updL _ rfl ?_ | refine agr_ovr2 rfl ?_), by show t.parts.length - (k + 1) < t.parts.length - k; omega⟩
               ·
                rw [hpo, hdrop]; simp only [partsOk, decide_eq_true hlt, decide_eq_true h4, Bool.true_and]
               ·
                obtain rfl : j = k := by omega
                exact hxk
             ·
              refine ZG<|Zl (Yb rfl)<|ZN<|ZN<|ZN<|ZN<|ZN<|ZN<|ZN<|ZN<|ZG<|Zl (Kf rfl rfl)<|Zl (Kf rfl rfl)<|Zn ?_
              refine ZF rfl<|Zk<|Zr<|Zl (add_r rfl rfl (by omega) (by omega))<|Zl (Yi rfl)<|Zn ?_
              have hlt : last < x12 := by
               have := hl0 (by omega)
               omega
              have h4 : x12 < 4 := by omega
              refine ⟨(k + 1, x12), ⟨by omega, ?_, fun h => by omega, fun j hj => ?_, by omega, H⟩, sl1 rfl, by repeat (first | exact Agr.refl _ _ | exact agr_ovr | refine agr_upd rfl ?_ | refine agr_updL _ rfl ?_ | refine agr_ovr2 rfl ?_), by show t.parts.length - (k + 1) < t.parts.length - k; omega⟩
              ·
               rw [hpo, hdrop]; simp only [partsOk, decide_eq_true hlt, decide_eq_true h4, Bool.true_and]
              ·
               obtain rfl : j = k := by omega
               exact hxk
          ·
           have hke : k = t.parts.length := by omega
           have hall : partsOk (-1) t.parts = true := by rw [hpo, hke, List.drop_length]; rfl
           refine Zn<|Zs<|ZF rfl<|Zx<|Zs<|Zr<|Zl (Zf fd_Txn_3 rfl)<|Zl (Zd one_int H 0 rfl rfl rfl)<|Zl (eql_r rfl rfl)<|Zl (Zf fd_Txn_4 rfl)<|Zl (Zd one_Lint H 0 rfl rfl rfl)<|Zl (lenS_r len_Lint rfl)<|Zl (eql_r rfl rfl)<|Zl (beql_r und_bool rfl rfl) ?_
           refine Zl (Wb rfl)<|Zn<|Zt ?_
           have hv : txOk ck nx t = (decide (t.state = 1) == decide ((t.parts.length : Int) = 0)) := by
            rw [Bool.eq_iff_iff, txOk_iff, beq_iff_eq, decide_eq_decide]
            constructor
            ·
             rintro ⟨-, -, -, -, -, -, -, -, -, -, h⟩
             exact h.trans ⟨fun x => by omega, fun x => by omega⟩
            ·
             intro h
             exact ⟨by simpa using h11, by omega, by omega, by simpa using h29, by omega, by omega, by omega, by omega, by omega, hall, h.trans ⟨fun x => by omega, fun x => by omega⟩⟩
           exact fin1 (v := .bool (decide (t.state = 1) == decide ((t.parts.length : Int) = 0))) rfl rfl ⟨by rw [hv], H.below⟩
end Go.Proofs.Ytemnchkebhclpaa
end

section
namespace Go.Proofs.Ytemnchkebhclpaa
open Go Go.Eng Go.RowKit
set_option linter.unusedSimpArgs false
/-- a coordinator, and where its rows lie -/
structure Co where
 clock : Int
 next : Int
 wait : Int
 txs : List Tx
 A : Option Addr
 cap : Nat
def Co.c (c : Co) : List Value := [.int .i64 c.clock, .int .i64 c.next, .int .i64 c.wait, .slice c.A c.txs.length c.cap]
abbrev Co.v (c : Co) : Value := .agg c.c.toArray
def FParts (lo hi : Nat) (txs : List Tx) : Fact := ⟨lo, hi, fun w => ∀ t ∈ txs, Rd intL lo hi t.A t.parts w, fun _ _ hk h t ht => (h t ht).st hk⟩
theorem parts0 {w0 w : World} {L : List (Nat × Obj)} {F : List Fact} {lo hi : Nat} {txs : List Tx} (H : Hp w0 w L F) (i : Nat) (hF : F[i]? = some (FParts lo hi txs)) {t : Tx} (ht : t ∈ txs) : Rd intL 0 w.heap.size t.A t.parts w :=
 Rd.mono ((H.fact hF) t ht) (Nat.zero_le _) (H.facts _ (List.mem_of_getElem? hF)).2.1
def sameTx (t : Tx) (p : Tx) : Bool := decide (p.name = t.name) || decide (p.pid = t.pid)
def txsOk (ck nx : Int) : List Tx → List Tx → Bool
 | _, [] => true
 | pre, t :: l => txOk ck nx t && !(pre.any (sameTx t)) && txsOk ck nx (pre ++ [t]) l
/-- P5.2 -/
def coOk (c : Co) : Bool := inNum c.clock && decide (1 ≤ c.next) && decide (c.next ≤ 1073741824) && decide (1 ≤ c.wait) && decide (c.wait ≤ 1000) && decide ((c.txs.length : Int) ≤ 8) && txsOk c.clock c.next [] c.txs
theorem coOk_iff {c : Co} : coOk c = true ↔ inNum c.clock = true ∧ 1 ≤ c.next ∧ c.next ≤ 1073741824 ∧ 1 ≤ c.wait ∧ c.wait ≤ 1000 ∧ (c.txs.length : Int) ≤ 8 ∧ txsOk c.clock c.next [] c.txs = true := by
 unfold coOk
 simp only [Bool.and_eq_true, decide_eq_true_eq, and_assoc]
/-- what a coordinator needs of the memory -/
structure Co.rd (c : Co) (lo hi : Nat) (w : World) : Prop where
 row : Rd txL lo hi c.A c.txs w
 parts : ∀ t ∈ c.txs, Rd intL lo hi t.A t.parts w
 cap : c.txs.length ≤ c.cap
 few : c.txs.length ≤ 1000000
 fewP : ∀ t ∈ c.txs, t.parts.length ≤ 1000000 ∧ t.parts.length ≤ t.cap
theorem Hp.startCo {c : Co} {w : World} (h : c.rd 0 w.heap.size w) : Hp w w [] [FRd txL 0 w.heap.size c.A c.txs, FParts 0 w.heap.size c.txs] :=
 ((Hp.start w).learnOld (FParts 0 w.heap.size c.txs) h.parts (Nat.le_refl _)).learnOld (FRd txL 0 w.heap.size c.A c.txs) h.row (Nat.le_refl _)
set_option maxHeartbeats 4000000 in
set_option maxRecDepth 10000 in
theorem coCheck_ok (c : Co) (w : World) (h : c.rd 0 w.heap.size w) : Ret Try.prog i_coord_Check [c.v] w fun v w2 => v = .int .i64 (if coOk c then 0 else 12) ∧ Below w.heap.size w w2 := by
 refine ret_of fn_coord_Check rfl rfl ?_
 have hcap := h.cap
 have hfew := h.few
 have hfp := h.fewP
 have H := Hp.startCo h
 obtain ⟨ck, nx, wt, txs, cA, cc⟩ := c
 dsimp only at hcap hfew hfp H
 show CW _ _ _ _ (args [.agg #[.int .i64 ck, .int .i64 nx, .int .i64 wt, .slice cA txs.length cc]]) w
 refine Zs<|Zr<|bxA H rfl rfl fun w1 b1 H =>Zl (Wi rfl)<|Zn<|Zs<|Zs<|Zr<|Zl (Zf fd_Coord_0 rfl)<|Zl (Zd one_int H 0 rfl rfl rfl)<|cal cb_coord_number (cnumber_ok ck _) rfl rfl ?_
 rintro _ w2 ⟨rfl, hb⟩; replace H := H.later hb; clear hb
 refine Zl (not_r rfl)<|Zl (Yb rfl) ?_
 refine lwCase 9 rfl (fun h9 => ?_) (fun h9 => ?_)
 ·
  refine ZN<|ZN<|ZN<|Zl (Kt rfl rfl)<|Zl (Yb rfl)<|ZN<|ZN<|ZN<|Zl (Kt rfl rfl)<|Zl (Yb rfl)<|ZN<|ZN<|ZN<|Zl (Kt rfl rfl) ?_
  refine Zl (Yb rfl)<|ZN<|ZN<|ZN<|Zl (Kt rfl rfl)<|Zl (Yb rfl)<|ZN<|ZN<|ZN<|ZN<|Zl (Kt rfl rfl)<|Zn<|ZT rfl<|Zs ?_
  refine Zr<|Zl (Wi rfl)<|Zn<|Zt ?_
  have hv : coOk ⟨ck, nx, wt, txs, cA, cc⟩ = false := by
   cases hh : coOk ⟨ck, nx, wt, txs, cA, cc⟩
   ·
    rfl
   ·
    obtain ⟨a1, a2, a3, a4, a5, a6, a7⟩ := coOk_iff.1 hh
    dsimp only at a1 a2 a3 a4 a5 a6 a7
    exfalso
    first | omega | simp_all
  exact fin1 (v := .int .i64 12) rfl rfl ⟨by rw [hv]; rfl, H.below⟩
 ·
  refine ZG<|Zl (Zf fd_Coord_1 rfl)<|ZG<|Zl (Zd one_int H 0 rfl rfl rfl)<|ZG ?_
  refine lwD (lss_r rfl rfl) rfl rfl rfl (fun h12 => ?_) (fun h12 => ?_)
  ·
   refine Zl (Kf rfl rfl)<|Zl (Yb rfl)<|ZN<|ZN<|ZN<|Zl (Kt rfl rfl)<|Zl (Yb rfl)<|ZN<|ZN<|ZN<|Zl (Kt rfl rfl)<|Zl (Yb rfl)<|ZN<|ZN ?_
   refine ZN<|Zl (Kt rfl rfl)<|Zl (Yb rfl)<|ZN<|ZN<|ZN<|ZN<|Zl (Kt rfl rfl)<|Zn<|ZT rfl<|Zs<|Zr<|Zl (Wi rfl)<|Zn ?_
   refine Zt ?_
   have hv : coOk ⟨ck, nx, wt, txs, cA, cc⟩ = false := by
    cases hh : coOk ⟨ck, nx, wt, txs, cA, cc⟩
    ·
     rfl
    ·
     obtain ⟨a1, a2, a3, a4, a5, a6, a7⟩ := coOk_iff.1 hh
     dsimp only at a1 a2 a3 a4 a5 a6 a7
     exfalso
     first | omega | simp_all
   exact fin1 (v := .int .i64 12) rfl rfl ⟨by rw [hv]; rfl, H.below⟩
  ·
   refine Zl (Kf rfl rfl)<|Zl (Yb rfl)<|ZG<|Zl (Zf fd_Coord_1 rfl)<|ZG<|Zl (Zd one_int H 0 rfl rfl rfl)<|ZG ?_
   refine lwD (gtr_r rfl rfl) rfl rfl rfl (fun h17 => ?_) (fun h17 => ?_)
   ·
    refine Zl (Kf rfl rfl)<|Zl (Yb rfl)<|ZN<|ZN<|ZN<|Zl (Kt rfl rfl)<|Zl (Yb rfl)<|ZN<|ZN<|ZN<|Zl (Kt rfl rfl)<|Zl (Yb rfl)<|ZN<|ZN ?_
    refine ZN<|ZN<|Zl (Kt rfl rfl)<|Zn<|ZT rfl<|Zs<|Zr<|Zl (Wi rfl)<|Zn<|Zt ?_
    have hv : coOk ⟨ck, nx, wt, txs, cA, cc⟩ = false := by
     cases hh : coOk ⟨ck, nx, wt, txs, cA, cc⟩
     ·
      rfl
     ·
      obtain ⟨a1, a2, a3, a4, a5, a6, a7⟩ := coOk_iff.1 hh
      dsimp only at a1 a2 a3 a4 a5 a6 a7
      exfalso
      first | omega | simp_all
    exact fin1 (v := .int .i64 12) rfl rfl ⟨by rw [hv]; rfl, H.below⟩
   ·
    refine Zl (Kf rfl rfl)<|Zl (Yb rfl)<|ZG<|Zl (Zf fd_Coord_2 rfl)<|ZG<|Zl (Zd one_int H 0 rfl rfl rfl)<|ZG ?_
    refine lwD (lss_r rfl rfl) rfl rfl rfl (fun h22 => ?_) (fun h22 => ?_)
    ·
     refine Zl (Kf rfl rfl)<|Zl (Yb rfl)<|ZN<|ZN<|ZN<|Zl (Kt rfl rfl)<|Zl (Yb rfl)<|ZN<|ZN<|ZN<|ZN<|Zl (Kt rfl rfl)<|Zn<|ZT rfl ?_
     refine Zs<|Zr<|Zl (Wi rfl)<|Zn<|Zt ?_
     have hv : coOk ⟨ck, nx, wt, txs, cA, cc⟩ = false := by
      cases hh : coOk ⟨ck, nx, wt, txs, cA, cc⟩
      ·
       rfl
      ·
       obtain ⟨a1, a2, a3, a4, a5, a6, a7⟩ := coOk_iff.1 hh
       dsimp only at a1 a2 a3 a4 a5 a6 a7
       exfalso
       first | omega | simp_all
     exact fin1 (v := .int .i64 12) rfl rfl ⟨by rw [hv]; rfl, H.below⟩
    ·
     refine Zl (Kf rfl rfl)<|Zl (Yb rfl)<|ZG<|Zl (Zf fd_Coord_2 rfl)<|ZG<|Zl (Zd one_int H 0 rfl rfl rfl)<|ZG ?_
     refine lwD (gtr_r rfl rfl) rfl rfl rfl (fun h27 => ?_) (fun h27 => ?_)
     ·
      refine Zl (Kf rfl rfl)<|Zl (Yb rfl)<|ZN<|ZN<|ZN<|ZN<|Zl (Kt rfl rfl)<|Zn<|ZT rfl<|Zs<|Zr<|Zl (Wi rfl)<|Zn<|Zt ?_
      have hv : coOk ⟨ck, nx, wt, txs, cA, cc⟩ = false := by
       cases hh : coOk ⟨ck, nx, wt, txs, cA, cc⟩
       ·
        rfl
       ·
        obtain ⟨a1, a2, a3, a4, a5, a6, a7⟩ := coOk_iff.1 hh
        dsimp only at a1 a2 a3 a4 a5 a6 a7
        exfalso
        first | omega | simp_all
      exact fin1 (v := .int .i64 12) rfl rfl ⟨by rw [hv]; rfl, H.below⟩
     ·
      refine Zl (Kf rfl rfl)<|Zl (Yb rfl)<|ZG<|Zl (Zf fd_Coord_3 rfl)<|ZG<|Zl (Zd one_LTxn H 0 rfl rfl rfl)<|ZG<|Zl (lenS_r len_LTxn rfl)<|ZG ?_
      refine lwD (gtr_r rfl rfl) rfl rfl rfl (fun h33 => ?_) (fun h33 => ?_)
      ·
       refine Zl (Kf rfl rfl)<|Zn<|ZT rfl<|Zs<|Zr<|Zl (Wi rfl)<|Zn<|Zt ?_
       have hv : coOk ⟨ck, nx, wt, txs, cA, cc⟩ = false := by
        cases hh : coOk ⟨ck, nx, wt, txs, cA, cc⟩
        ·
         rfl
        ·
         obtain ⟨a1, a2, a3, a4, a5, a6, a7⟩ := coOk_iff.1 hh
         dsimp only at a1 a2 a3 a4 a5 a6 a7
         exfalso
         first | omega | simp_all
       exact fin1 (v := .int .i64 12) rfl rfl ⟨by rw [hv]; rfl, H.below⟩
      ·
       refine Zl (Kf rfl rfl)<|Zn<|ZF rfl<|Zk<|Zs<|Zs<|Zr<|Zl (Zf fd_Coord_3 rfl)<|Zl (Zd one_LTxn H 0 rfl rfl rfl)<|Zl (lenS_r len_LTxn rfl)<|Zl (Yi rfl)<|Zn<|Zb ?_
       refine cw_loop (τ := Nat) [2, 3, 4, 38, 39, 40, 41, 42, 43, 44, 45, 46, 47, 48, 49, 50, 51, 52, 53, 54, 55] (fun k => [(38, .int .i64 (k : Nat))]) (fun k w' => k ≤ txs.length ∧ txsOk ck nx [] txs = txsOk ck nx (txs.take k) (txs.drop k) ∧ Hp w w' [(b1, .cells #[.int .i64 ck, .int .i64 nx, .int .i64 wt, .slice cA txs.length cc] T_Coord (0, 0))] [FRd txL 0 w.heap.size cA txs, FParts 0 w.heap.size txs]) (fun k => txs.length - k) 0 ⟨by omega, by rw [List.drop_zero, List.take_zero], H⟩ (sl1 rfl) ?_
       rintro k ρ1 w3 ⟨hk, hto, H⟩
       show CW _ _ _ _ (updL (ovr _ _ ρ1) [(38, .int .i64 (k : Nat))]) w3
       refine Zs<|Zr ?_
       refine lwD (lss_r rfl rfl) rfl rfl rfl (fun h39 => ?_) (fun h39 => ?_)
       ·
        refine Zn<|Zs<|ZT rfl<|Zk<|Zs<|Zb<|Zs<|Zr<|Zl (Yi rfl)<|ixF H 0 rfl sl_LTxn rfl rfl (by omega) (by omega) rfl fun b4 o4 x4 e4 => ?_
        have hxk := e4.at_
        have hdrop := take_drop_step hxk
        refine Zl (ldA_r (xs := Tx.c x4) agg_Txn rfl rfl e4.cl)<|alo H z_Txn rfl fun w5 b4 H =>Zl (Wi rfl)<|stW H 0 siz_Txn rfl rfl rfl rfl rfl rfl fun w6 H =>Zn<|Zs<|Zr<|Zl (Zw agg_Coord H 1 rfl rfl rfl)<|Zl (Zw agg_Txn H 0 rfl rfl rfl)<|cal cb_coord_txn (txn_ok ck nx wt cA txs.length cc x4 _ (parts0 H 1 rfl (List.mem_of_getElem? hxk)) (hfp _ (List.mem_of_getElem? hxk)).1) rfl rfl ?_
        rintro _ w7 ⟨rfl, hb⟩; replace H := H.later hb; clear hb
        refine Zl (not_r rfl)<|Zl (Yb rfl) ?_
        refine lwCase 47 rfl (fun h47 => ?_) (fun h47 => ?_)
        ·
         refine ZN<|ZN<|ZN<|ZN<|ZN<|ZN<|Zl (Kt rfl rfl)<|Zn<|ZT rfl<|Zs<|Zr<|Zl (Wi rfl)<|Zn<|Zt ?_
         have hv : coOk ⟨ck, nx, wt, txs, cA, cc⟩ = false := by
          cases hh : coOk ⟨ck, nx, wt, txs, cA, cc⟩
          ·
           rfl
          ·
           obtain ⟨a1, a2, a3, a4, a5, a6, a7⟩ := coOk_iff.1 hh
           dsimp only at a1 a2 a3 a4 a5 a6 a7
           exfalso
           rw [hto, hdrop] at a7
           simp only [txsOk, Bool.and_eq_true] at a7
           obtain ⟨⟨q1, q2⟩, -⟩ := a7
           rw [Bool.not_eq_true'] at q2
           first | (rw [q2] at hc54; cases hc54) | simp_all
         exact fin1 (v := .int .i64 12) rfl rfl ⟨by rw [hv]; rfl, H.below⟩
        ·
         refine ZG<|Zl (Zf fd_Coord_3 rfl)<|ZG<|Zl (Zd one_LTxn H 1 rfl rfl rfl)<|ZG<|Zl (Yi rfl)<|ZG<|sliHiF (k := k) H 0 rfl sl_LTxn rfl rfl hcap (by omega) rfl fun A51 H => ?_
         have htl : (txs.take k).length = k := by rw [List.length_take]; omega
         refine ZG<|Zl (mkf_r rfl)<|ZG ?_
         have hC := fun q => containsFunc_Txn_ok (txs.take k) A51 q _ (H.rd0 0 rfl) (by omega) i_coord_Check_c1 [.pointer (some ⟨b4, 0, none⟩)] cb_coord_Check_c1 (sameTx x4) (fun e w2 _ hw2 => check_c1_ok e x4 b4 w2 ((hw2.block _ (lt_of_heap (H.ent (i := 0) rfl))).trans (H.ent (i := 0) rfl)))
         rw [htl] at hC
         replace hC := hC cc
         refine cal cb_slices_ContainsFunc_LTxn_Txn (hC) rfl rfl ?_
         rintro _ w8 ⟨rfl, hb⟩; replace H := H.later hb; clear hb
         refine Zl (Kf rfl rfl)<|Zn ?_
         refine cw_if rfl (fun hc54 => ?_) (fun hc54 => ?_)
         ·
          refine Zs<|Zr<|Zl (Wi rfl)<|Zn<|Zt ?_
          have hv : coOk ⟨ck, nx, wt, txs, cA, cc⟩ = false := by
           cases hh : coOk ⟨ck, nx, wt, txs, cA, cc⟩
           ·
            rfl
           ·
            obtain ⟨a1, a2, a3, a4, a5, a6, a7⟩ := coOk_iff.1 hh
            dsimp only at a1 a2 a3 a4 a5 a6 a7
            exfalso
            rw [hto, hdrop] at a7
            simp only [txsOk, Bool.and_eq_true] at a7
            obtain ⟨⟨q1, q2⟩, -⟩ := a7
            rw [Bool.not_eq_true'] at q2
            first | (rw [q2] at hc54; cases hc54) | simp_all
          exact fin1 (v := .int .i64 12) rfl rfl ⟨by rw [hv]; rfl, H.below⟩
         ·
          refine Zk<|Zr<|Zl (add_r rfl rfl (by omega) (by omega))<|Zl (Yi rfl)<|Zn ?_
          refine ⟨k + 1, ⟨by omega, ?_, H.forget (.cons _ (List.Sublist.refl _)) (fun _ h => List.mem_cons_of_mem _ h)⟩, sl1 rfl, by repeat (first | exact Agr.refl _ _ | exact agr_ovr | refine agr_upd rfl ?_ | refine agr_updL _ rfl ?_ | refine agr_ovr2 rfl ?_), by show txs.length - (k + 1) < txs.length - k; omega⟩
          rw [hto, hdrop, take_snoc hxk]
          simp only [txsOk]
          simp_all
       ·
        have hke : k = txs.length := by omega
        have hall : txsOk ck nx [] txs = true := by rw [hto, hke, List.drop_length]; rfl
        refine Zn<|Zs<|ZF rfl<|Zx<|Zs<|Zr<|Zl (Wi rfl)<|Zn<|Zt ?_
        have hv : coOk ⟨ck, nx, wt, txs, cA, cc⟩ = true := coOk_iff.2 ⟨by simpa using h9, by dsimp only; omega, by dsimp only; omega, by dsimp only; omega, by dsimp only; omega, by dsimp only; omega, hall⟩
        exact fin1 (v := .int .i64 0) rfl rfl ⟨by rw [hv]; rfl, H.below⟩
end Go.Proofs.Ytemnchkebhclpaa
end
