/- GC: a part of the proofs over this seat: what stands in its theorems holds for every input that they name. -/
import Derived.Test.YtemnchkebhclpaaGU
import Derived.Test.YtemnchkebhclpaaGS
import Derived.Test.YtemnchkebhclpaaGE
import Derived.Test.YtemnchkebhclpaaEngZ
open Go.Eng renaming lw_nil → Zn, cw_seq → Zs, cw_region → Zr, cw_skip → Zk, cw_ret → Zt, cw_block → Zb, cw_exit → Zx, mvI_r → Yi, mvB_r → Yb, mvS_r → Ys, mvP_r → Yp, mvT_r → Yt, mvU_r → Yu, mvA_r → Ya, asI_r → Wi, asB_r → Wb, asS_r → Ws, asP_r → Wp, asT_r → Wt, fad_r → Zf, exI_r → Xi, exA_r → Xa, exB_r → Xb, exS_r → Xs, pkTB_r → Kt, pkFB_r → Kf, cw_true → ZT, cw_false → ZF
section
namespace Go.Proofs.Ytemnchkebhclpaa
open Go Go.Eng Go.RowKit
/-- a producer's transactions, and where its parts lie -/
structure Tx where
  name : ByteArray
  pid : Int
  ver : Int
  state : Int
  parts : List Int
  since : Int
  done : Int
  A : Option Addr
  cap : Nat
def Tx.c (t : Tx) : List Value := [.string t.name, .int .i64 t.pid, .int .i64 t.ver, .int .i64 t.state, .slice t.A t.parts.length t.cap, .int .i64 t.since, .int .i64 t.done]
abbrev Tx.v (t : Tx) : Value := .agg t.c.toArray
def txL : Lay Tx := ⟨Tx.c, 7, fun _ => rfl, by decide, fun a u hu => by
  simp only [Tx.c, List.mem_cons, List.mem_nil_iff, or_false] at hu
  rcases hu with h | h | h | h | h | h | h <;> subst h <;> rfl⟩
def inAZ (c : UInt8) : Bool := decide (97 ≤ (c.toNat : Int)) && decide ((c.toNat : Int) ≤ 122)
/-- P5.1: a name -/
def nameOk (s : ByteArray) : Bool := decide (s ≠ ⟨#[]⟩) && decide ((s.size : Int) ≤ 8) && s.data.toList.all inAZ
/-- parts that rise, from one on: each is a part -/
def partsOk : Int → List Int → Bool
  | _, [] => true
  | last, p :: l => decide (last < p) && decide (p < 4) && partsOk p l
/-- P5.2: of one producer -/
def txOk (clock next : Int) (t : Tx) : Bool := nameOk t.name && decide (1 ≤ t.pid) && decide (t.pid < next) && inNum t.ver && decide (1 ≤ t.state) && decide (t.state ≤ 4) && decide (0 ≤ t.since) && decide (t.since ≤ clock) && (decide (t.done = 0) || decide (t.done = 3) || decide (t.done = 4))
  && partsOk (-1) t.parts && (decide (t.state = 1) == decide (t.parts.length = 0))
theorem txOk_iff {ck nx : Int} {t : Tx} : txOk ck nx t = true ↔ nameOk t.name = true ∧ 1 ≤ t.pid ∧ t.pid < nx ∧ inNum t.ver = true ∧ 1 ≤ t.state ∧ t.state ≤ 4 ∧ 0 ≤ t.since ∧ t.since ≤ ck ∧ (t.done = 0 ∨ t.done = 3 ∨ t.done = 4) ∧ partsOk (-1) t.parts = true ∧ (t.state = 1 ↔ t.parts.length = 0) := by
  unfold txOk
  simp only [Bool.and_eq_true, Bool.or_eq_true, decide_eq_true_eq, beq_iff_eq, decide_eq_decide, and_assoc, or_assoc]
end Go.Proofs.Ytemnchkebhclpaa
end

section
namespace Go.Proofs.Ytemnchkebhclpaa
open Go Go.Eng Go.RowKit
set_option linter.unusedSimpArgs false
set_option maxHeartbeats 4000000 in
set_option maxRecDepth 10000 in
theorem indexFunc_byte_ok (es : List UInt8) (A : Option Addr) (c : Nat) (w : World) (hr : Rd byteL 0 w.heap.size A es w) (hb : es.length ≤ 1000000) (f : FuncId) (cap : List Value) (hf : callB Try.prog f = true) (pred : UInt8 → Bool)
  (hp : ∀ e w', e ∈ es → Below w.heap.size w w' → Ret Try.prog f (.int .u8 (e.toNat : Nat) :: cap) w' fun v w2 => v = .bool (pred e) ∧ Below w'.heap.size w' w2) :
  Ret Try.prog i_slices_IndexFunc_Lbyte_byte [.slice A es.length c, .func (.func f) #[] cap.toArray] w fun v w2 => v = .int .i64 (idxI (es.findIdx? pred)) ∧ Below w.heap.size w w2 := by
 refine ret_of fn_slices_IndexFunc_Lbyte_byte rfl rfl ?_
 have H := Hp.startRd hr
 refine Zs<|Zr<|Zl (Wi rfl)<|Zn<|Zs<|Zs<|Zr<|Zl (Ys rfl)<|Zl (lenS_r len_Lbyte rfl)<|Zl (Yi rfl)<|Zn<|Zb ?_
 refine cw_loop (τ := Nat) [4, 5, 8, 9, 10, 11, 12, 13, 14, 15, 16, 17, 18] (fun k => [(8, .int .i64 (k : Nat))]) (fun k w' => k ≤ es.length ∧ (∀ j e, j < k → es[j]? = some e → pred e = false) ∧ Hp w w' [] [FRd byteL 0 w.heap.size A es]) (fun k => es.length - k) 0 ⟨by omega, by intro j e hj; omega, H⟩ (sl1 rfl) ?_
 rintro k ρ1 w1 ⟨hk, hno, H⟩
 show CW _ _ _ _ (updL (ovr _ _ ρ1) [(8, .int .i64 (k : Nat))]) w1
 refine Zs<|Zr ?_
 refine lwD (lss_r rfl rfl) rfl rfl rfl (fun h9 => ?_) (fun h9 => ?_)
 ·
  refine Zn<|Zs<|ZT rfl<|Zk<|Zs<|Zb<|Zs<|Zr<|Zl (Yi rfl)<|Zl (Wi rfl)<|Zn<|Zs<|Zr<|Zl (mvF_r rfl) ?_
  refine Zl (Ys rfl)<|Zl (Yi rfl)<|ixF H 0 rfl sl_Lbyte rfl rfl (by omega) (by omega) rfl fun b2 o2 x2 e2 =>Zl (ld_r one_byte rfl (e2.cl 0 _ rfl)) ?_
  refine calF hf rfl (hp x2 _ (List.mem_of_getElem? e2.at_) H.below) rfl rfl ?_; rintro _ w3 ⟨rfl, hb2⟩; replace H := H.later hb2; clear hb2
  refine lwCase 16 rfl (fun h16 => ?_) (fun h16 => ?_)
  ·
   refine Zn<|ZT rfl<|Zs<|Zr<|Zl (Yi rfl)<|Zl (Wi rfl)<|Zn<|Zt ?_
   have hi : es.findIdx? pred = some k := by
    rw [List.findIdx?_eq_some_iff_getElem]
    obtain ⟨hl, hx⟩ := getE e2.at_
    exact ⟨hl, by rw [hx]; exact h16, fun j hj => by rw [hno j _ hj (List.getElem?_eq_getElem (by omega))]; simp⟩
   exact fin1 (v := .int .i64 (k : Nat)) rfl rfl ⟨by rw [hi]; rfl, H.below⟩
  ·
   refine Zn<|ZF rfl<|Zk<|Zr<|Zl (add_r rfl rfl (by omega) (by omega))<|Zl (Yi rfl)<|Zn ?_
   refine ⟨k + 1, ⟨by omega, fun j e hj he => ?_, H⟩, sl1 rfl, by repeat (first | exact Agr.refl _ _ | exact agr_ovr | refine agr_upd rfl ?_ | refine agr_updL _ rfl ?_ | refine agr_ovr2 rfl ?_), by show es.length - (k + 1) < es.length - k; omega⟩
   by_cases hji : j < k
   ·
    exact hno j e hji he
   ·
    have : j = k := by omega
    subst this; have he2 := e2.at_; rw [he] at he2; injection he2 with he2; subst he2; exact h16
 ·
  refine Zn<|Zs<|ZF rfl<|Zx<|Zs<|Zr<|Zl (Wi rfl)<|Zn<|Zt ?_
  have hi : es.findIdx? pred = none := by
   rw [List.findIdx?_eq_none_iff]
   intro e he
   obtain ⟨j, hj⟩ := List.mem_iff_getElem?.1 he
   exact hno j e (by have := (getE hj).1; omega) hj
  exact fin1 (v := .int .i64 (-1)) rfl rfl ⟨by rw [hi]; rfl, H.below⟩
set_option maxHeartbeats 4000000 in
set_option maxRecDepth 10000 in
theorem containsFunc_byte_ok (es : List UInt8) (A : Option Addr) (c : Nat) (w : World) (hr : Rd byteL 0 w.heap.size A es w) (hb : es.length ≤ 1000000) (f : FuncId) (cap : List Value) (hf : callB Try.prog f = true) (pred : UInt8 → Bool)
  (hp : ∀ e w', e ∈ es → Below w.heap.size w w' → Ret Try.prog f (.int .u8 (e.toNat : Nat) :: cap) w' fun v w2 => v = .bool (pred e) ∧ Below w'.heap.size w' w2) :
  Ret Try.prog i_slices_ContainsFunc_Lbyte_byte [.slice A es.length c, .func (.func f) #[] cap.toArray] w fun v w2 => v = .bool (es.any pred) ∧ Below w.heap.size w w2 := by
 refine ret_of fn_slices_ContainsFunc_Lbyte_byte rfl rfl ?_
 have H := Hp.start w
 refine Zs<|Zr<|Zl (Wb rfl)<|Zn<|Zs<|Zr<|Zl (Ys rfl)<|Zl (mvF_r rfl)<|cal cb_slices_IndexFunc_Lbyte_byte (indexFunc_byte_ok es _ _ _ hr hb f cap hf pred hp) rfl rfl ?_
 rintro _ w1 ⟨rfl, hb⟩; replace H := H.later hb; clear hb
 refine Zl (geq_r rfl rfl)<|Zl (Wb rfl)<|Zn<|Zt ?_
 have hv : decide (0 ≤ idxI (es.findIdx? pred)) = es.any pred := by
  cases hi : es.findIdx? pred with
  | none => rw [List.findIdx?_eq_none_iff] at hi; simp [idxI]; exact fun a h => hi a h
  | some i =>
   obtain ⟨hl, h1, -⟩ := List.findIdx?_eq_some_iff_getElem.1 hi
   have : es.any pred = true := List.any_eq_true.2 ⟨_, List.getElem_mem hl, h1⟩
   rw [this]; simp [idxI]
 exact fin1 (v := .bool (decide (0 ≤ idxI (es.findIdx? pred)))) rfl rfl ⟨by rw [hv], H.below⟩
set_option maxHeartbeats 4000000 in
set_option maxRecDepth 10000 in
theorem indexFunc_Txn_ok (es : List Tx) (A : Option Addr) (c : Nat) (w : World) (hr : Rd txL 0 w.heap.size A es w) (hb : es.length ≤ 1000000) (f : FuncId) (cap : List Value) (hf : callB Try.prog f = true) (pred : Tx → Bool)
  (hp : ∀ e w', e ∈ es → Below w.heap.size w w' → Ret Try.prog f (.agg (txL.f e).toArray :: cap) w' fun v w2 => v = .bool (pred e) ∧ Below w'.heap.size w' w2) :
  Ret Try.prog i_slices_IndexFunc_LTxn_Txn [.slice A es.length c, .func (.func f) #[] cap.toArray] w fun v w2 => v = .int .i64 (idxI (es.findIdx? pred)) ∧ Below w.heap.size w w2 := by
 refine ret_of fn_slices_IndexFunc_LTxn_Txn rfl rfl ?_
 have H := Hp.startRd hr
 refine Zs<|Zr<|Zl (Wi rfl)<|Zn<|Zs<|Zs<|Zr<|Zl (Ys rfl)<|Zl (lenS_r len_LTxn rfl)<|Zl (Yi rfl)<|Zn<|Zb ?_
 refine cw_loop (τ := Nat) [4, 5, 8, 9, 10, 11, 12, 13, 14, 15, 16, 17, 18] (fun k => [(8, .int .i64 (k : Nat))]) (fun k w' => k ≤ es.length ∧ (∀ j e, j < k → es[j]? = some e → pred e = false) ∧ Hp w w' [] [FRd txL 0 w.heap.size A es]) (fun k => es.length - k) 0 ⟨by omega, by intro j e hj; omega, H⟩ (sl1 rfl) ?_
 rintro k ρ1 w1 ⟨hk, hno, H⟩
 show CW _ _ _ _ (updL (ovr _ _ ρ1) [(8, .int .i64 (k : Nat))]) w1
 refine Zs<|Zr ?_
 refine lwD (lss_r rfl rfl) rfl rfl rfl (fun h9 => ?_) (fun h9 => ?_)
 ·
  refine Zn<|Zs<|ZT rfl<|Zk<|Zs<|Zb<|Zs<|Zr<|Zl (Yi rfl)<|Zl (Wi rfl)<|Zn<|Zs<|Zr<|Zl (mvF_r rfl) ?_
  refine Zl (Ys rfl)<|Zl (Yi rfl)<|ixF H 0 rfl sl_LTxn rfl rfl (by omega) (by omega) rfl fun b2 o2 x2 e2 =>Zl (ldA_r (xs := txL.f x2) agg_Txn rfl rfl e2.cl) ?_
  refine calF hf rfl (hp x2 _ (List.mem_of_getElem? e2.at_) H.below) rfl rfl ?_; rintro _ w3 ⟨rfl, hb2⟩; replace H := H.later hb2; clear hb2
  refine lwCase 16 rfl (fun h16 => ?_) (fun h16 => ?_)
  ·
   refine Zn<|ZT rfl<|Zs<|Zr<|Zl (Yi rfl)<|Zl (Wi rfl)<|Zn<|Zt ?_
   have hi : es.findIdx? pred = some k := by
    rw [List.findIdx?_eq_some_iff_getElem]
    obtain ⟨hl, hx⟩ := getE e2.at_
    exact ⟨hl, by rw [hx]; exact h16, fun j hj => by rw [hno j _ hj (List.getElem?_eq_getElem (by omega))]; simp⟩
   exact fin1 (v := .int .i64 (k : Nat)) rfl rfl ⟨by rw [hi]; rfl, H.below⟩
  ·
   refine Zn<|ZF rfl<|Zk<|Zr<|Zl (add_r rfl rfl (by omega) (by omega))<|Zl (Yi rfl)<|Zn ?_
   refine ⟨k + 1, ⟨by omega, fun j e hj he => ?_, H⟩, sl1 rfl, by repeat (first | exact Agr.refl _ _ | exact agr_ovr | refine agr_upd rfl ?_ | refine agr_updL _ rfl ?_ | refine agr_ovr2 rfl ?_), by show es.length - (k + 1) < es.length - k; omega⟩
   by_cases hji : j < k
   ·
    exact hno j e hji he
   ·
    have : j = k := by omega
    subst this; have he2 := e2.at_; rw [he] at he2; injection he2 with he2; subst he2; exact h16
 ·
  refine Zn<|Zs<|ZF rfl<|Zx<|Zs<|Zr<|Zl (Wi rfl)<|Zn<|Zt ?_
  have hi : es.findIdx? pred = none := by
   rw [List.findIdx?_eq_none_iff]
   intro e he
   obtain ⟨j, hj⟩ := List.mem_iff_getElem?.1 he
   exact hno j e (by have := (getE hj).1; omega) hj
  exact fin1 (v := .int .i64 (-1)) rfl rfl ⟨by rw [hi]; rfl, H.below⟩
set_option maxHeartbeats 4000000 in
set_option maxRecDepth 10000 in
theorem containsFunc_Txn_ok (es : List Tx) (A : Option Addr) (c : Nat) (w : World) (hr : Rd txL 0 w.heap.size A es w) (hb : es.length ≤ 1000000) (f : FuncId) (cap : List Value) (hf : callB Try.prog f = true) (pred : Tx → Bool)
  (hp : ∀ e w', e ∈ es → Below w.heap.size w w' → Ret Try.prog f (.agg (txL.f e).toArray :: cap) w' fun v w2 => v = .bool (pred e) ∧ Below w'.heap.size w' w2) :
  Ret Try.prog i_slices_ContainsFunc_LTxn_Txn [.slice A es.length c, .func (.func f) #[] cap.toArray] w fun v w2 => v = .bool (es.any pred) ∧ Below w.heap.size w w2 := by
 refine ret_of fn_slices_ContainsFunc_LTxn_Txn rfl rfl ?_
 have H := Hp.start w
 refine Zs<|Zr<|Zl (Wb rfl)<|Zn<|Zs<|Zr<|Zl (Ys rfl)<|Zl (mvF_r rfl)<|cal cb_slices_IndexFunc_LTxn_Txn (indexFunc_Txn_ok es _ _ _ hr hb f cap hf pred hp) rfl rfl ?_
 rintro _ w1 ⟨rfl, hb⟩; replace H := H.later hb; clear hb
 refine Zl (geq_r rfl rfl)<|Zl (Wb rfl)<|Zn<|Zt ?_
 have hv : decide (0 ≤ idxI (es.findIdx? pred)) = es.any pred := by
  cases hi : es.findIdx? pred with
  | none => rw [List.findIdx?_eq_none_iff] at hi; simp [idxI]; exact fun a h => hi a h
  | some i =>
   obtain ⟨hl, h1, -⟩ := List.findIdx?_eq_some_iff_getElem.1 hi
   have : es.any pred = true := List.any_eq_true.2 ⟨_, List.getElem_mem hl, h1⟩
   rw [this]; simp [idxI]
 exact fin1 (v := .bool (decide (0 ≤ idxI (es.findIdx? pred)))) rfl rfl ⟨by rw [hv], H.below⟩
set_option maxHeartbeats 4000000 in
set_option maxRecDepth 10000 in
theorem cnumber_ok (n : Int) (w : World) : Ret Try.prog i_coord_number [.int .i64 n] w fun v w2 => v = .bool (inNum n) ∧ Below w.heap.size w w2 := by
 refine ret_of fn_coord_number rfl rfl ?_
 have H := Hp.start w
 refine Zs<|Zr<|Zl (Wb rfl)<|Zn<|Zs<|Zr<|Zl (Yi rfl) ?_
 refine lwD (geq_r rfl rfl) rfl rfl rfl (fun h4 => ?_) (fun h4 => ?_)
 ·
  refine Zl (Yb rfl)<|ZG<|Zl (Yi rfl)<|ZG ?_
  refine lwD (leq_r rfl rfl) rfl rfl rfl (fun h7 => ?_) (fun h7 => ?_)
  ·
   refine Zl (Kt rfl rfl)<|Zl (Wb rfl)<|Zn<|Zt ?_
   have hv : inNum n = true := by unfold inNum; simp; omega
   exact fin1 (v := .bool true) rfl rfl ⟨by rw [hv], H.below⟩
  ·
   refine Zl (Kt rfl rfl)<|Zl (Wb rfl)<|Zn<|Zt ?_
   have hv : inNum n = false := by unfold inNum; simp; omega
   exact fin1 (v := .bool false) rfl rfl ⟨by rw [hv], H.below⟩
 ·
  refine Zl (Yb rfl)<|ZN<|ZN<|Zl (Kf rfl rfl)<|Zl (Wb rfl)<|Zn<|Zt ?_
  have hv : inNum n = false := by unfold inNum; simp; omega
  exact fin1 (v := .bool false) rfl rfl ⟨by rw [hv], H.below⟩
set_option maxHeartbeats 4000000 in
set_option maxRecDepth 10000 in
theorem name_c1_ok (c : UInt8) (w : World) : Ret Try.prog i_coord_name_c1 [.int .u8 (c.toNat : Nat)] w fun v w2 => v = .bool (!inAZ c) ∧ Below w.heap.size w w2 := by
 refine ret_of fn_coord_name_c1 rfl rfl ?_
 have H := Hp.start w
 refine Zs<|Zr<|Zl (Wb rfl)<|Zn<|Zs<|Zr<|Zl (Yi rfl) ?_
 refine lwD (lss_r rfl rfl) rfl rfl rfl (fun h4 => ?_) (fun h4 => ?_)
 ·
  refine Zl (Yb rfl)<|ZN<|ZN<|Zl (Kt rfl rfl)<|Zl (Wb rfl)<|Zn<|Zt ?_
  have hv : (!inAZ c) = true := by unfold inAZ; simp; omega
  exact fin1 (v := .bool true) rfl rfl ⟨by rw [hv], H.below⟩
 ·
  refine Zl (Yb rfl)<|ZG<|Zl (Yi rfl)<|ZG ?_
  refine lwD (gtr_r rfl rfl) rfl rfl rfl (fun h7 => ?_) (fun h7 => ?_)
  ·
   refine Zl (Kf rfl rfl)<|Zl (Wb rfl)<|Zn<|Zt ?_
   have hv : (!inAZ c) = true := by unfold inAZ; simp; omega
   exact fin1 (v := .bool true) rfl rfl ⟨by rw [hv], H.below⟩
  ·
   refine Zl (Kf rfl rfl)<|Zl (Wb rfl)<|Zn<|Zt ?_
   have hv : (!inAZ c) = false := by unfold inAZ; simp; omega
   exact fin1 (v := .bool false) rfl rfl ⟨by rw [hv], H.below⟩
set_option maxHeartbeats 4000000 in
set_option maxRecDepth 10000 in
theorem name_ok (s : ByteArray) (w : World) : Ret Try.prog i_coord_name [.string s] w fun v w2 => v = .bool (nameOk s) ∧ Below w.heap.size w w2 := by
 refine ret_of fn_coord_name rfl rfl ?_
 have H := Hp.start w
 refine Zs<|Zr<|Zl (Wb rfl)<|Zn<|Zs<|Zs<|Zr<|Zl (Yt rfl) ?_
 refine lwD (seql_r rfl rfl) rfl rfl rfl (fun h4 => ?_) (fun h4 => ?_)
 ·
  refine Zl (Yb rfl)<|ZN<|ZN<|ZN<|Zl (Kt rfl rfl)<|Zn<|ZT rfl<|Zs<|Zr<|Zl (Wb rfl)<|Zn<|Zt ?_
  have hv : nameOk s = false := by unfold nameOk; simp; simp [h4]
  exact fin1 (v := .bool false) rfl rfl ⟨by rw [hv], H.below⟩
 ·
  refine Zl (Yb rfl)<|ZG<|Zl (Yt rfl)<|ZG<|Zl (lenT_r str_string rfl)<|ZG ?_
  refine lwD (gtr_r rfl rfl) rfl rfl rfl (fun h8 => ?_) (fun h8 => ?_)
  ·
   refine Zl (Kf rfl rfl)<|Zn<|ZT rfl<|Zs<|Zr<|Zl (Wb rfl)<|Zn<|Zt ?_
   have hv : nameOk s = false := by unfold nameOk; simp; omega
   exact fin1 (v := .bool false) rfl rfl ⟨by rw [hv], H.below⟩
  ·
   refine Zl (Kf rfl rfl)<|Zn<|ZF rfl<|Zk<|Zs<|Zr<|Zl (Yt rfl)<|cvTB (Y := byteL) H str_string sl_Lbyte int_byte rfl (fun _ => rfl) rfl rfl fun w1 A11 c11 hc11 H => ?_
   have hlen : s.data.toList.length = s.size := by rw [Array.length_toList]; rfl
   refine cal cb_slices_ContainsFunc_Lbyte_byte (containsFunc_byte_ok s.data.toList _ _ _ (H.rd0 0 rfl) (by omega) i_coord_name_c1 [] cb_coord_name_c1 (fun c => !inAZ c) (fun e w2 _ _ => name_c1_ok e w2)) rfl rfl ?_
   rintro _ w2 ⟨rfl, hb⟩; replace H := H.later hb; clear hb
   refine Zl (not_r rfl)<|Zl (Wb rfl)<|Zn<|Zt ?_
   have h8b : decide ((s.size : Int) ≤ 8) = true := decide_eq_true (by omega)
   have hv : nameOk s = !(s.data.toList.any fun c => !inAZ c) := by unfold nameOk; rw [decide_eq_true h4, h8b, Bool.true_and, Bool.true_and, List.all_eq_not_any_not]
   exact fin1 (v := .bool (!(s.data.toList.any fun c => !inAZ c))) rfl rfl ⟨by rw [hv], H.below⟩
end Go.Proofs.Ytemnchkebhclpaa
end
