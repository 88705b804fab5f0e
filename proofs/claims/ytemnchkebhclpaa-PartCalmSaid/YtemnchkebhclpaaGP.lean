/- GP: a part of the proofs over this seat: what stands in its theorems holds for every input that they name. -/
import Derived.Test.YtemnchkebhclpaaGU
import Derived.Test.YtemnchkebhclpaaGS
import Derived.Test.YtemnchkebhclpaaGE
section
namespace Go.Proofs.Ytemnchkebhclpaa
open Go Go.Eng Go.RowKit
set_option linter.unusedSimpArgs false
/-- a replica, and where its log's bytes lie -/
structure Rep where
 up : Bool
 A : Option Addr
 cap : Nat
 es : List Ent
 s : Nat
 high : Int
 lo : Nat
 hi : Nat
def Rep.c (r : Rep) : List Value := [.bool r.up, .slice r.A (flat r.es).length r.cap, .int .i64 (lsz r.es r.s : Nat), .int .i64 r.high]
def repL : Lay Rep := ⟨Rep.c, 4, fun _ => rfl, by decide, fun a u hu => by
 simp only [Rep.c, List.mem_cons, List.mem_nil_iff, or_false] at hu
 rcases hu with h | h | h | h <;> subst h <;> rfl⟩
def boolL : Lay Bool := ⟨fun n => [.bool n], 1, fun _ => rfl, by decide, fun a u hu => by
 simp only [List.mem_singleton] at hu; subst hu; rfl⟩
abbrev Rep.log (r : Rep) : LogR := ⟨r.A, r.cap, r.es, r.s⟩
abbrev repF (r : Rep) : Fact := FRd byteL r.lo r.hi r.A (flat r.es)
abbrev repsF (rs : List Rep) : List Fact := rs.map repF
/-- a replica, wherever it lies -/
structure RA where
 up : Bool
 es : List Ent
 s : Nat
 high : Int
def Rep.a (r : Rep) : RA := ⟨r.up, r.es, r.s, r.high⟩
structure PaA where
 epoch : Int
 leader : Int
 isr : List Bool
 known : List Int
 reps : List RA
 few : Int
 base : Int
structure Pa where
 epoch : Int
 leader : Int
 isr : List Bool
 iA : Option Addr
 iC : Nat
 known : List Int
 kA : Option Addr
 kC : Nat
 reps : List Rep
 rA : Option Addr
 rC : Nat
 few : Int
 base : Int
def Pa.c (p : Pa) : List Value := [.int .i64 p.epoch, .int .i64 p.leader, .slice p.iA p.isr.length p.iC, .slice p.kA p.known.length p.kC, .slice p.rA p.reps.length p.rC, .int .i64 p.few, .int .i64 p.base]
abbrev Pa.v (p : Pa) : Value := .agg p.c.toArray
def Pa.a (p : Pa) : PaA := ⟨p.epoch, p.leader, p.isr, p.known, p.reps.map Rep.a, p.few, p.base⟩
/-- what a part that is read needs of the memory -/
structure Pa.rd (p : Pa) (lo hi : Nat) (w : World) : Prop where
 isr : Rd boolL lo hi p.iA p.isr w
 known : Rd intL lo hi p.kA p.known w
 reps : Rd repL lo hi p.rA p.reps w
 logs : ∀ r ∈ p.reps, Rd byteL lo hi r.A (flat r.es) w
 iC : p.isr.length ≤ p.iC
 kC : p.known.length ≤ p.kC
 rC : p.reps.length ≤ p.rC
 cap : ∀ r ∈ p.reps, (flat r.es).length ≤ r.cap
 few : p.isr.length ≤ 1000000 ∧ p.known.length ≤ 1000000 ∧ p.reps.length ≤ 1000000
theorem Pa.rd.st {p : Pa} {lo hi : Nat} {w w' : World} (hk : ∀ k, lo ≤ k → k < hi → w'.heap[k]? = w.heap[k]?) (h : p.rd lo hi w) : p.rd lo hi w' :=
 ⟨h.isr.st hk, h.known.st hk, h.reps.st hk, fun r hr => (h.logs r hr).st hk, h.iC, h.kC, h.rC, h.cap, h.few⟩
theorem Pa.rd.mono {p : Pa} {lo hi lo' hi' : Nat} {w : World} (h : p.rd lo hi w) (hl : lo' ≤ lo) (hh : hi ≤ hi') : p.rd lo' hi' w :=
 ⟨h.isr.mono hl hh, h.known.mono hl hh, h.reps.mono hl hh, fun r hr => (h.logs r hr).mono hl hh, h.iC, h.kC, h.rC, h.cap, h.few⟩
def FPa (lo hi : Nat) (p : Pa) : Fact := ⟨lo, hi, p.rd lo hi, fun _ _ hk h => h.st hk⟩
/-- a log that may be, and how much of it is known to be kept -/
structure RA.ok (r : RA) : Prop where
 gl : GL r.es r.s
 high0 : 0 ≤ r.high
 high1 : r.high ≤ r.es.length
/-- P4.2: a part that may be -/
structure PaA.ok (p : PaA) : Prop where
 n1 : 1 ≤ p.reps.length
 n2 : p.reps.length ≤ 5
 isrl : p.isr.length = p.reps.length
 knownl : p.known.length = p.reps.length
 few1 : 1 ≤ p.few
 few2 : p.few ≤ p.reps.length
 ep0 : 0 ≤ p.epoch
 ep1 : p.epoch ≤ 1073741824
 ld0 : -1 ≤ p.leader
 ld1 : p.leader < p.reps.length
 base0 : 0 ≤ p.base
 base1 : p.base ≤ 400
 some_ : true ∈ p.isr
 lead : ∀ (l : Nat) (r : RA), p.leader = l → p.reps[l]? = some r → p.isr[l]? = some true ∧ r.up = true
 reps : ∀ r ∈ p.reps, r.ok
 known : ∀ n ∈ p.known, 0 ≤ n ∧ n ≤ 400
theorem Hp.startPa {p : Pa} {w : World} (h : p.rd 0 w.heap.size w) : Hp w w [] [FPa 0 w.heap.size p, FRd boolL 0 w.heap.size p.iA p.isr, FRd intL 0 w.heap.size p.kA p.known, FRd repL 0 w.heap.size p.rA p.reps] :=
 ((((Hp.start w).learnOld (FRd repL 0 w.heap.size p.rA p.reps) h.reps (Nat.le_refl _)).learnOld (FRd intL 0 w.heap.size p.kA p.known) h.known (Nat.le_refl _)).learnOld (FRd boolL 0 w.heap.size p.iA p.isr) h.isr (Nat.le_refl _)).learnOld (FPa 0 w.heap.size p) h (Nat.le_refl _)
/-- a part that is read, at any later time -/
theorem Hp.pa {w0 w : World} {L : List (Nat × Obj)} {F : List Fact} {lo hi : Nat} {p : Pa} (H : Hp w0 w L F) (i : Nat) (hF : F[i]? = some (FPa lo hi p)) : p.rd 0 w.heap.size w :=
 Pa.rd.mono (H.fact hF) (Nat.zero_le _) (H.facts _ (List.mem_of_getElem? hF)).2.1
theorem Pa.rd.nil (lo hi : Nat) (w : World) : Pa.rd ⟨0, 0, [], none, 0, [], none, 0, [], none, 0, 0, 0⟩ lo hi w :=
 ⟨Rd.nil, Rd.nil, Rd.nil, fun r hr => by simp at hr, by simp, by simp, by simp, fun r hr => by simp at hr, by simp⟩
def zPa : Pa := ⟨0, 0, [], none, 0, [], none, 0, [], none, 0, 0, 0⟩
def zPaA : PaA := ⟨0, 0, [], [], [], 0, 0⟩
theorem zPa_a : zPa.a = zPaA := rfl
/-- a part that a call has made, to be read -/
def NewPa (w w2 : World) (p : Pa) : Prop := p.rd w.heap.size w2.heap.size w2 ∧ Below w.heap.size w w2
theorem NewPa.zero {w w2 : World} (h : Below w.heap.size w w2) : NewPa w w2 zPa := ⟨Pa.rd.nil _ _ _, h⟩
/-- a part that a call has made, its rows the caller's own -/
structure OwnPa (w w2 : World) (p : Pa) (g1 g2 g3 : Nat) (c1 c2 c3 : Array Value) : Prop where
 i : p.iA = some ⟨g1, 0, none⟩
 k : p.kA = some ⟨g2, 0, none⟩
 r : p.rA = some ⟨g3, 0, none⟩
 ri : Row boolL p.isr p.iC c1
 rk : Row intL p.known p.kC c2
 rr : Row repL p.reps p.rC c3
 cap : ∀ r ∈ p.reps, (flat r.es).length ≤ r.cap
 los : ∀ r ∈ p.reps, w.heap.size ≤ r.lo
 few : p.isr.length ≤ 1000000 ∧ p.known.length ≤ 1000000 ∧ p.reps.length ≤ 1000000
 hp : Hp w w2 [(g1, .cells c1 T_bool (0, 0)), (g2, .cells c2 T_int (0, 0)), (g3, .cells c3 T_Replica (0, 0))] (repsF p.reps)
theorem OwnPa.new {w w2 : World} {p : Pa} {g1 g2 g3 : Nat} {c1 c2 c3 : Array Value} (h : OwnPa w w2 p g1 g2 g3 c1 c2 c3) : NewPa w w2 p := by
 have H := h.hp
 have e1 := H.ents _ (List.Mem.head _)
 have e2 := H.ents _ (List.Mem.tail _ (List.Mem.head _))
 have e3 := H.ents _ (List.Mem.tail _ (List.Mem.tail _ (List.Mem.head _)))
 refine ⟨⟨?_, ?_, ?_, fun r hr => ?_, h.ri.le, h.rk.le, h.rr.le, h.cap, h.few⟩, H.below⟩
 ·
  rw [h.i]; exact (h.ri.rd e1.1).mono e1.2 (lt_of_heap e1.1)
 ·
  rw [h.k]; exact (h.rk.rd e2.1).mono e2.2 (lt_of_heap e2.1)
 ·
  rw [h.r]; exact (h.rr.rd e3.1).mono e3.2 (lt_of_heap e3.1)
 ·
  obtain ⟨f1, f2, -⟩ := H.facts (repF r) (List.mem_map_of_mem hr)
  exact Rd.mono f1 (h.los r hr) f2
end Go.Proofs.Ytemnchkebhclpaa
end

section
namespace Go.Proofs.Ytemnchkebhclpaa
open Go Go.Eng Go.RowKit
set_option linter.unusedSimpArgs false
set_option maxHeartbeats 4000000 in
set_option maxRecDepth 10000 in
theorem clone_bool_ok (es : List Bool) (A : Option Addr) (c : Nat) (w : World) (hr : Rd boolL 0 w.heap.size A es w) (hb : es.length * 1 ≤ 140737488355328) :
  Ret Try.prog i_slices_Clone_Lbool_bool [.slice A es.length c] w fun v w2 => ∃ A' c' L', v = .slice A' es.length c' ∧ es.length ≤ c' ∧ c' ≤ maxLen ∧ Own boolL (.slice A' es.length c') T_bool es L' ∧ Hp w w2 L' [] := by
 refine ret_of fn_slices_Clone_Lbool_bool rfl rfl ?_
 have H := Hp.startRd hr
 refine cw_seq ?_
 refine cw_region ?_
 refine l1 (asS_r rfl) rfl rfl rfl ?_
 refine lw_nil ?_
 refine cw_seq ?_
 refine cw_seq ?_
 refine cw_region ?_
 refine l1 (mvS_r rfl) rfl rfl rfl ?_
 refine lwB (slnil_r len_Lbool rfl) rfl rfl rfl (fun h4 => ?_) (fun h4 => ?_)
 ·
  refine lw_nil ?_
  refine cw_true rfl ?_
  refine cw_seq ?_
  refine cw_region ?_
  refine l1 (asS_r rfl) rfl rfl rfl ?_
  refine lw_nil ?_
  refine cw_ret ?_
  have he : es = [] := by
   cases es with
   | nil => rfl
   | cons e es => obtain ⟨b, o, hA, _⟩ := hr (by simp); subst hA; cases h4
  subst he
  exact fin1 rfl rfl ⟨none, 0, [], rfl, by simp, by decide, Own.nil, H.forget (by simp) (by simp)⟩
 ·
  refine lw_nil ?_
  refine cw_false rfl ?_
  refine cw_skip ?_
  refine cw_seq ?_
  refine cw_region ?_
  refine bs0 H sl_Lbool rfl ?_; intro w1 b5 H
  refine l1 (mvS_r rfl) rfl rfl rfl ?_
  refine apO (Y := boolL) ap_Lbool (K := []) (L := [(b5, _)]) (M := []) H (OwnE.lit (by decide) (by rfl)) (es := []) (news := es) rfl rfl rfl (Rd.src (H.fact (i := 0) rfl)) (by simpa using hb) rfl ?_
  intro A3 c3 w3 L3 h3a h3b ho3 H
  refine l1 (asS_r rfl) rfl rfl rfl ?_
  refine lw_nil ?_
  refine cw_ret ?_
  exact fin1 rfl rfl ⟨A3, c3, L3, rfl, h3a, h3b, ho3, H.forget (by simp) (by simp)⟩
set_option maxHeartbeats 4000000 in
set_option maxRecDepth 10000 in
theorem clone_Replica_ok (es : List Rep) (A : Option Addr) (c : Nat) (w : World) (hr : Rd repL 0 w.heap.size A es w) (hb : es.length * 48 ≤ 140737488355328) :
  Ret Try.prog i_slices_Clone_LReplica_Replica [.slice A es.length c] w fun v w2 => ∃ A' c' L', v = .slice A' es.length c' ∧ es.length ≤ c' ∧ c' ≤ maxLen ∧ Own repL (.slice A' es.length c') T_Replica es L' ∧ Hp w w2 L' [] := by
 refine ret_of fn_slices_Clone_LReplica_Replica rfl rfl ?_
 have H := Hp.startRd hr
 refine cw_seq ?_
 refine cw_region ?_
 refine l1 (asS_r rfl) rfl rfl rfl ?_
 refine lw_nil ?_
 refine cw_seq ?_
 refine cw_seq ?_
 refine cw_region ?_
 refine l1 (mvS_r rfl) rfl rfl rfl ?_
 refine lwB (slnil_r len_LReplica rfl) rfl rfl rfl (fun h4 => ?_) (fun h4 => ?_)
 ·
  refine lw_nil ?_
  refine cw_true rfl ?_
  refine cw_seq ?_
  refine cw_region ?_
  refine l1 (asS_r rfl) rfl rfl rfl ?_
  refine lw_nil ?_
  refine cw_ret ?_
  have he : es = [] := by
   cases es with
   | nil => rfl
   | cons e es => obtain ⟨b, o, hA, _⟩ := hr (by simp); subst hA; cases h4
  subst he
  exact fin1 rfl rfl ⟨none, 0, [], rfl, by simp, by decide, Own.nil, H.forget (by simp) (by simp)⟩
 ·
  refine lw_nil ?_
  refine cw_false rfl ?_
  refine cw_skip ?_
  refine cw_seq ?_
  refine cw_region ?_
  refine bs0 H sl_LReplica rfl ?_; intro w1 b5 H
  refine l1 (mvS_r rfl) rfl rfl rfl ?_
  refine apO (Y := repL) ap_LReplica (K := []) (L := [(b5, _)]) (M := []) H (OwnE.lit (by decide) (by rfl)) (es := []) (news := es) rfl rfl rfl (Rd.src (H.fact (i := 0) rfl)) (by simpa using hb) rfl ?_
  intro A3 c3 w3 L3 h3a h3b ho3 H
  refine l1 (asS_r rfl) rfl rfl rfl ?_
  refine lw_nil ?_
  refine cw_ret ?_
  exact fin1 rfl rfl ⟨A3, c3, L3, rfl, h3a, h3b, ho3, H.forget (by simp) (by simp)⟩
set_option maxHeartbeats 4000000 in
set_option maxRecDepth 10000 in
theorem index_true_ok (es : List Bool) (A : Option Addr) (c : Nat) (w : World) (hr : Rd boolL 0 w.heap.size A es w) (hb : es.length ≤ 1000000) :
  Ret Try.prog i_slices_Index_Lbool_bool [.slice A es.length c, .bool true] w fun v w2 => (∃ n : Int, v = .int .i64 n ∧ (0 ≤ n ↔ true ∈ es)) ∧ Below w.heap.size w w2 := by
 refine ret_of fn_slices_Index_Lbool_bool rfl rfl ?_
 have H := Hp.startRd hr
 refine cw_seq ?_
 refine cw_region ?_
 refine l1 (asI_r rfl) rfl rfl rfl ?_
 refine lw_nil ?_
 refine cw_seq ?_
 refine cw_seq ?_
 refine cw_region ?_
 refine l1 (mvS_r rfl) rfl rfl rfl ?_
 refine l1 (lenS_r len_Lbool rfl) rfl rfl rfl ?_
 refine l1 (mvI_r rfl) rfl rfl rfl ?_
 refine lw_nil ?_
 refine cw_block ?_
 refine cw_loop (τ := Nat) [4, 5, 8, 9, 10, 11, 12, 13, 14, 15, 16, 17, 18] (fun k => [(8, .int .i64 (k : Nat))]) (fun k w' => k ≤ es.length ∧ (∀ j, j < k → es[j]? = some false) ∧ Hp w w' [] [FRd boolL 0 w.heap.size A es]) (fun k => es.length - k) 0 ⟨by omega, by intro j hj; omega, H⟩ (sl1 rfl) ?_
 rintro k ρ1 w1 ⟨hk, hno, H⟩
 show CW _ _ _ _ (updL (ovr _ _ ρ1) [(8, .int .i64 (k : Nat))]) w1
 refine cw_seq ?_
 refine cw_region ?_
 refine lwD (lss_r rfl rfl) rfl rfl rfl (fun h9 => ?_) (fun h9 => ?_)
 ·
  refine lw_nil ?_
  refine cw_seq ?_
  refine cw_true rfl ?_
  refine cw_skip ?_
  refine cw_seq ?_
  refine cw_block ?_
  refine cw_seq ?_
  refine cw_region ?_
  refine l1 (mvI_r rfl) rfl rfl rfl ?_
  refine l1 (asI_r rfl) rfl rfl rfl ?_
  refine lw_nil ?_
  refine cw_seq ?_
  refine cw_region ?_
  refine l1 (mvB_r rfl) rfl rfl rfl ?_
  refine l1 (mvS_r rfl) rfl rfl rfl ?_
  refine l1 (mvI_r rfl) rfl rfl rfl ?_
  refine ixF H 0 rfl sl_Lbool rfl rfl (by omega) (by omega) rfl ?_; intro b2 o2 x2 e2
  refine l1 (ld_r one_bool rfl (e2.cl 0 _ rfl)) rfl rfl rfl ?_
  refine l1 (beql_r und_bool rfl rfl) rfl rfl rfl ?_
  refine lwCase 16 rfl (fun h16 => ?_) (fun h16 => ?_)
  ·
   refine lw_nil ?_
   refine cw_true rfl ?_
   refine cw_seq ?_
   refine cw_region ?_
   refine l1 (mvI_r rfl) rfl rfl rfl ?_
   refine l1 (asI_r rfl) rfl rfl rfl ?_
   refine lw_nil ?_
   refine cw_ret ?_
   exact fin1 rfl rfl ⟨⟨_, rfl, ⟨fun _ => by have := List.mem_of_getElem? e2.at_; simp at h16; rwa [h16] at this, fun _ => by omega⟩⟩, H.below⟩
  ·
   refine lw_nil ?_
   refine cw_false rfl ?_
   refine cw_skip ?_
   refine cw_region ?_
   refine l1 (add_r rfl rfl (by omega) (by omega)) rfl rfl rfl ?_
   refine l1 (mvI_r rfl) rfl rfl rfl ?_
   refine lw_nil ?_
   refine ⟨k + 1, ⟨by omega, fun j hj => ?_, H⟩, sl1 rfl, by repeat (first | exact Agr.refl _ _ | exact agr_ovr | refine agr_upd rfl ?_ | refine agr_updL _ rfl ?_ | refine agr_ovr2 rfl ?_), by show es.length - (k + 1) < es.length - k; omega⟩
   by_cases hji : j < k
   ·
    exact hno j hji
   ·
    have : j = k := by omega
    subst this; rw [e2.at_]; simpa using h16
 ·
  refine lw_nil ?_
  refine cw_seq ?_
  refine cw_false rfl ?_
  refine cw_exit ?_
  refine cw_seq ?_
  refine cw_region ?_
  refine l1 (asI_r rfl) rfl rfl rfl ?_
  refine lw_nil ?_
  refine cw_ret ?_
  exact fin1 rfl rfl ⟨⟨-1, rfl, ⟨fun h => by omega, fun h => by obtain ⟨j, hj⟩ := List.mem_iff_getElem?.1 h; have := hno j (by have := (getE hj).1; omega); rw [hj] at this; cases this⟩⟩, H.below⟩
set_option maxHeartbeats 4000000 in
set_option maxRecDepth 10000 in
theorem contains_true_ok (es : List Bool) (A : Option Addr) (c : Nat) (w : World) (hr : Rd boolL 0 w.heap.size A es w) (hb : es.length ≤ 1000000) :
  Ret Try.prog i_slices_Contains_Lbool_bool [.slice A es.length c, .bool true] w fun v w2 => v = .bool (decide (true ∈ es)) ∧ Below w.heap.size w w2 := by
 refine ret_of fn_slices_Contains_Lbool_bool rfl rfl ?_
 have H := Hp.start w
 refine cw_seq ?_
 refine cw_region ?_
 refine l1 (asB_r rfl) rfl rfl rfl ?_
 refine lw_nil ?_
 refine cw_seq ?_
 refine cw_region ?_
 refine l1 (mvS_r rfl) rfl rfl rfl ?_
 refine l1 (mvB_r rfl) rfl rfl rfl ?_
 refine cal cb_slices_Index_Lbool_bool (index_true_ok es _ _ _ hr hb) rfl rfl ?_
 rintro _ w1 ⟨⟨n, rfl, hn⟩, hb⟩; replace H := H.later hb; clear hb
 refine l1 (geq_r rfl rfl) rfl rfl rfl ?_
 refine l1 (asB_r rfl) rfl rfl rfl ?_
 refine lw_nil ?_
 refine cw_ret ?_
 exact fin1 (v := .bool (decide (0 ≤ n))) rfl rfl ⟨by rw [decide_eq_decide.2 hn], H.below⟩
end Go.Proofs.Ytemnchkebhclpaa
end

section
namespace Go.Proofs.Ytemnchkebhclpaa
open Go Go.Eng Go.RowKit
set_option linter.unusedSimpArgs false
set_option maxHeartbeats 4000000 in
set_option maxRecDepth 10000 in
theorem pEnds_ok (p : Pa) (i : Nat) (r : Rep) (w : World) (hR : Rd repL 0 w.heap.size p.rA p.reps w) (hr : p.reps[i]? = some r) (hl : r.log.ok w) : Ret Try.prog i_part_ends [p.v, .int .i64 (i : Nat)] w fun v w2 => v = .tuple #[.int .i64 (r.es.length : Nat), .int .i64 (r.s : Nat)] ∧ Below w.heap.size w w2 := by
 refine ret_of fn_part_ends rfl rfl ?_
 obtain ⟨ep, ld, isr, iA, iC, kn, kA, kC, reps, rA, rC, fw, bs⟩ := p
 dsimp only at hR hr
 have H := Hp.startRd hR
 have hil := (getE hr).1
 show CW _ _ _ _ (args [.agg #[.int .i64 (ep), .int .i64 (ld), .slice iA isr.length iC, .slice kA kn.length kC, .slice rA reps.length rC, .int .i64 (fw), .int .i64 (bs)], .int .i64 (((i : Nat) : Int))]) w
 refine cw_seq ?_
 refine cw_region ?_
 refine bxA H rfl rfl ?_; intro w1 b2 H
 refine l1 (asI_r rfl) rfl rfl rfl ?_
 refine l1 (asI_r rfl) rfl rfl rfl ?_
 refine lw_nil ?_
 refine cw_seq ?_
 refine cw_region ?_
 refine l1 (fad_r fd_Part_4 rfl) rfl rfl rfl ?_
 refine l1 (ld_r one_LReplica rfl (cellE (H.ent (i := 0) rfl) rfl)) rfl rfl rfl ?_
 refine l1 (mvI_r rfl) rfl rfl rfl ?_
 refine ixF H 0 rfl sl_LReplica rfl rfl (by omega) (by omega) rfl ?_; intro b2 o2 x2 e2
 obtain rfl : x2 = r := by have := e2.at_; rw [hr] at this; exact (Option.some.inj this).symm
 refine l1 (fad_r fd_Replica_1 rfl) rfl rfl rfl ?_
 refine l1 (ldA_r (xs := [.slice x2.A ((flat x2.es).length) x2.cap, .int .i64 (((lsz x2.es x2.s : Nat) : Int))]) agg_Log rfl rfl (cl_sub e2.cl 1 rfl)) rfl rfl rfl ?_
 refine cal cb_seg_Entries (segEntries_at x2.A x2.cap x2.es x2.s _ ⟨hl.gl, hl.cap, hl.rd.below H.below |>.mono (Nat.le_refl _) H.size⟩) rfl rfl ?_
 rintro _ w3 ⟨Aen, cen, rfl, hren, hcen, hben⟩; replace H := H.learnRd hben hren; clear hren hben
 refine l1 (mvU_r rfl) rfl rfl rfl ?_
 refine l1 (exS_r rfl rfl) rfl rfl rfl ?_
 refine l1 (exI_r rfl rfl) rfl rfl rfl ?_
 refine l1 (exI_r rfl rfl) rfl rfl rfl ?_
 refine l1 (asS_r rfl) rfl rfl rfl ?_
 refine l1 (asI_r rfl) rfl rfl rfl ?_
 refine l1 (asI_r rfl) rfl rfl rfl ?_
 refine lw_nil ?_
 refine cw_seq ?_
 refine cw_region ?_
 refine l1 (mvS_r rfl) rfl rfl rfl ?_
 refine l1 (lenS_r len_LEntry rfl) rfl rfl rfl ?_
 refine l1 (mvI_r rfl) rfl rfl rfl ?_
 refine l1 (asI_r rfl) rfl rfl rfl ?_
 refine l1 (asI_r rfl) rfl rfl rfl ?_
 refine lw_nil ?_
 refine cw_ret ?_
 exact fin2 rfl rfl rfl ⟨rfl, H.below⟩
end Go.Proofs.Ytemnchkebhclpaa
end

section
namespace Go.Proofs.Ytemnchkebhclpaa
open Go Go.Eng Go.RowKit
set_option linter.unusedSimpArgs false
theorem Pa.facts {p : Pa} (h : p.a.ok) : 1 ≤ p.reps.length ∧ p.reps.length ≤ 5 ∧ p.isr.length = p.reps.length ∧ p.known.length = p.reps.length ∧ 1 ≤ p.few ∧ p.few ≤ p.reps.length ∧ 0 ≤ p.epoch ∧ p.epoch ≤ 1073741824 ∧ -1 ≤ p.leader ∧ p.leader < p.reps.length ∧ 0 ≤ p.base ∧ p.base ≤ 400 ∧ true ∈ p.isr := by
 have h1 := h.n1; have h2 := h.n2; have h3 := h.isrl; have h4 := h.knownl; have h6 := h.few2; have h7 := h.ld1
 simp only [Pa.a, List.length_map] at h1 h2 h3 h4 h6 h7
 exact ⟨h1, h2, h3, h4, h.few1, h6, h.ep0, h.ep1, h.ld0, h7, h.base0, h.base1, h.some_⟩
theorem Pa.repOk {p : Pa} (h : p.a.ok) {i : Nat} {r : Rep} (hr : p.reps[i]? = some r) : GL r.es r.s ∧ 0 ≤ r.high ∧ r.high ≤ r.es.length := by
 have h1 := h.reps r.a (List.mem_map_of_mem (List.mem_of_getElem? hr))
 exact ⟨h1.gl, h1.high0, h1.high1⟩
theorem Pa.leads {p : Pa} (h : p.a.ok) {l : Nat} {r : Rep} (hl : p.leader = l) (hr : p.reps[l]? = some r) : p.isr[l]? = some true ∧ r.up = true :=
 h.lead l r.a hl (by simp [Pa.a, hr])
theorem Pa.log {p : Pa} {w : World} (hd : p.rd 0 w.heap.size w) (h : p.a.ok) {i : Nat} {r : Rep} (hr : p.reps[i]? = some r) : r.log.ok w :=
 ⟨(Pa.repOk h hr).1, hd.cap r (List.mem_of_getElem? hr), hd.logs r (List.mem_of_getElem? hr)⟩
/-- a log of a part that a call has made -/
theorem own_log {w0 w : World} {L : List (Nat × Obj)} {F : List Fact} {reps : List Rep} {i : Nat} {r : Rep} (H : Hp w0 w L F) (hF : ∀ f ∈ repsF reps, f ∈ F) (hr : reps[i]? = some r) (hg : GL r.es r.s) (hc : (flat r.es).length ≤ r.cap) : r.log.ok w := by
 obtain ⟨h1, h2, -⟩ := H.facts (repF r) (hF _ (List.mem_map_of_mem (List.mem_of_getElem? hr)))
 exact ⟨hg, hc, Rd.mono h1 (Nat.zero_le _) h2⟩
set_option maxHeartbeats 4000000 in
set_option maxRecDepth 10000 in
theorem pCheck_ok (p : Pa) (w : World) (h : p.rd 0 w.heap.size w) (hok : p.a.ok) : Ret Try.prog i_part_Check [p.v] w fun v w2 => v = .int .i64 0 ∧ Below w.heap.size w w2 := by
 refine ret_of fn_part_Check rfl rfl ?_
 obtain ⟨hn1, hn2, hil, hkl, hf1, hf2, he0, he1, hl0, hl1, hb0, hb1, hsm⟩ := Pa.facts hok
 have hkn := hok.known
 have hiC := h.iC
 have hkC := h.kC
 have hrC := h.rC
 have hfew := h.few
 have H := Hp.startPa h
 obtain ⟨ep, ld, isr, iA, iC, kn, kA, kC, reps, rA, rC, fw, bs⟩ := p
 simp only [Pa.a] at hkn
 dsimp only at H hn1 hn2 hil hkl hf1 hf2 he0 he1 hl0 hl1 hb0 hb1 hsm hiC hkC hrC hfew
 show CW _ _ _ _ (args [.agg #[.int .i64 (ep), .int .i64 (ld), .slice iA isr.length iC, .slice kA kn.length kC, .slice rA reps.length rC, .int .i64 (fw), .int .i64 (bs)]]) w
 refine cw_seq ?_
 refine cw_region ?_
 refine bxA H rfl rfl ?_; intro w1 b1 H
 refine l1 (asI_r rfl) rfl rfl rfl ?_
 refine lw_nil ?_
 refine cw_seq ?_
 refine cw_region ?_
 refine l1 (fad_r fd_Part_4 rfl) rfl rfl rfl ?_
 refine l1 (ld_r one_LReplica rfl (cellE (H.ent (i := 0) rfl) rfl)) rfl rfl rfl ?_
 refine l1 (lenS_r len_LReplica rfl) rfl rfl rfl ?_
 refine l1 (asI_r rfl) rfl rfl rfl ?_
 refine lw_nil ?_
 refine cw_seq ?_
 refine cw_seq ?_
 refine cw_region ?_
 refine l1 (mvI_r rfl) rfl rfl rfl ?_
 refine l1 (lssF_r rfl rfl (by omega)) rfl rfl rfl ?_
 refine l1 (mvB_r rfl) rfl rfl rfl ?_
 refine lwG rfl ?_
 refine l1 (mvI_r rfl) rfl rfl rfl ?_
 refine lwG rfl ?_
 refine l1 (gtrF_r rfl rfl (by omega)) rfl rfl rfl ?_
 refine l1 (pkFB_r rfl rfl) rfl rfl rfl ?_
 refine l1 (mvB_r rfl) rfl rfl rfl ?_
 refine lwG rfl ?_
 refine l1 (fad_r fd_Part_2 rfl) rfl rfl rfl ?_
 refine lwG rfl ?_
 refine l1 (ld_r one_Lbool rfl (cellE (H.ent (i := 0) rfl) rfl)) rfl rfl rfl ?_
 refine lwG rfl ?_
 refine l1 (lenS_r len_Lbool rfl) rfl rfl rfl ?_
 refine lwG rfl ?_
 refine l1 (mvI_r rfl) rfl rfl rfl ?_
 refine lwG rfl ?_
 refine l1 (neqF_r rfl rfl (by omega)) rfl rfl rfl ?_
 refine l1 (pkFB_r rfl rfl) rfl rfl rfl ?_
 refine l1 (mvB_r rfl) rfl rfl rfl ?_
 refine lwG rfl ?_
 refine l1 (fad_r fd_Part_3 rfl) rfl rfl rfl ?_
 refine lwG rfl ?_
 refine l1 (ld_r one_Lint rfl (cellE (H.ent (i := 0) rfl) rfl)) rfl rfl rfl ?_
 refine lwG rfl ?_
 refine l1 (lenS_r len_Lint rfl) rfl rfl rfl ?_
 refine lwG rfl ?_
 refine l1 (mvI_r rfl) rfl rfl rfl ?_
 refine lwG rfl ?_
 refine l1 (neqF_r rfl rfl (by omega)) rfl rfl rfl ?_
 refine l1 (pkFB_r rfl rfl) rfl rfl rfl ?_
 refine l1 (mvB_r rfl) rfl rfl rfl ?_
 refine lwG rfl ?_
 refine l1 (fad_r fd_Part_5 rfl) rfl rfl rfl ?_
 refine lwG rfl ?_
 refine l1 (ld_r one_int rfl (cellE (H.ent (i := 0) rfl) rfl)) rfl rfl rfl ?_
 refine lwG rfl ?_
 refine l1 (lssF_r rfl rfl (by omega)) rfl rfl rfl ?_
 refine l1 (pkFB_r rfl rfl) rfl rfl rfl ?_
 refine l1 (mvB_r rfl) rfl rfl rfl ?_
 refine lwG rfl ?_
 refine l1 (fad_r fd_Part_5 rfl) rfl rfl rfl ?_
 refine lwG rfl ?_
 refine l1 (ld_r one_int rfl (cellE (H.ent (i := 0) rfl) rfl)) rfl rfl rfl ?_
 refine lwG rfl ?_
 refine l1 (mvI_r rfl) rfl rfl rfl ?_
 refine lwG rfl ?_
 refine l1 (gtrF_r rfl rfl (by omega)) rfl rfl rfl ?_
 refine l1 (pkFB_r rfl rfl) rfl rfl rfl ?_
 refine l1 (mvB_r rfl) rfl rfl rfl ?_
 refine lwG rfl ?_
 refine l1 (fad_r fd_Part_0 rfl) rfl rfl rfl ?_
 refine lwG rfl ?_
 refine l1 (ld_r one_int rfl (cellE (H.ent (i := 0) rfl) rfl)) rfl rfl rfl ?_
 refine lwG rfl ?_
 refine l1 (lssF_r rfl rfl (by omega)) rfl rfl rfl ?_
 refine l1 (pkFB_r rfl rfl) rfl rfl rfl ?_
 refine l1 (mvB_r rfl) rfl rfl rfl ?_
 refine lwG rfl ?_
 refine l1 (fad_r fd_Part_0 rfl) rfl rfl rfl ?_
 refine lwG rfl ?_
 refine l1 (ld_r one_int rfl (cellE (H.ent (i := 0) rfl) rfl)) rfl rfl rfl ?_
 refine lwG rfl ?_
 refine l1 (gtrF_r rfl rfl (by omega)) rfl rfl rfl ?_
 refine l1 (pkFB_r rfl rfl) rfl rfl rfl ?_
 refine l1 (mvB_r rfl) rfl rfl rfl ?_
 refine lwG rfl ?_
 refine l1 (fad_r fd_Part_1 rfl) rfl rfl rfl ?_
 refine lwG rfl ?_
 refine l1 (ld_r one_int rfl (cellE (H.ent (i := 0) rfl) rfl)) rfl rfl rfl ?_
 refine lwG rfl ?_
 refine l1 (lssF_r rfl rfl (by omega)) rfl rfl rfl ?_
 refine l1 (pkFB_r rfl rfl) rfl rfl rfl ?_
 refine l1 (mvB_r rfl) rfl rfl rfl ?_
 refine lwG rfl ?_
 refine l1 (fad_r fd_Part_1 rfl) rfl rfl rfl ?_
 refine lwG rfl ?_
 refine l1 (ld_r one_int rfl (cellE (H.ent (i := 0) rfl) rfl)) rfl rfl rfl ?_
 refine lwG rfl ?_
 refine l1 (mvI_r rfl) rfl rfl rfl ?_
 refine lwG rfl ?_
 refine l1 (geqF_r rfl rfl (by omega)) rfl rfl rfl ?_
 refine l1 (pkFB_r rfl rfl) rfl rfl rfl ?_
 refine l1 (mvB_r rfl) rfl rfl rfl ?_
 refine lwG rfl ?_
 refine l1 (fad_r fd_Part_6 rfl) rfl rfl rfl ?_
 refine lwG rfl ?_
 refine l1 (ld_r one_int rfl (cellE (H.ent (i := 0) rfl) rfl)) rfl rfl rfl ?_
 refine lwG rfl ?_
 refine l1 (lssF_r rfl rfl (by omega)) rfl rfl rfl ?_
 refine l1 (pkFB_r rfl rfl) rfl rfl rfl ?_
 refine l1 (mvB_r rfl) rfl rfl rfl ?_
 refine lwG rfl ?_
 refine l1 (fad_r fd_Part_6 rfl) rfl rfl rfl ?_
 refine lwG rfl ?_
 refine l1 (ld_r one_int rfl (cellE (H.ent (i := 0) rfl) rfl)) rfl rfl rfl ?_
 refine lwG rfl ?_
 refine l1 (gtrF_r rfl rfl (by omega)) rfl rfl rfl ?_
 refine l1 (pkFB_r rfl rfl) rfl rfl rfl ?_
 refine lw_nil ?_
 refine cw_false rfl ?_
 refine cw_skip ?_
 refine cw_seq ?_
 refine cw_seq ?_
 refine cw_region ?_
 refine l1 (fad_r fd_Part_2 rfl) rfl rfl rfl ?_
 refine l1 (ld_r one_Lbool rfl (cellE (H.ent (i := 0) rfl) rfl)) rfl rfl rfl ?_
 refine cal cb_slices_Contains_Lbool_bool (contains_true_ok isr iA iC _ (H.rd0 1 rfl) (by omega)) rfl rfl ?_
 rintro _ w2 ⟨rfl, hb⟩; replace H := H.later hb; clear hb
 rw [decide_eq_true hsm]
 refine l1 (not_r rfl) rfl rfl rfl ?_
 refine l1 (mvB_r rfl) rfl rfl rfl ?_
 refine lwG rfl ?_
 refine l1 (fad_r fd_Part_1 rfl) rfl rfl rfl ?_
 refine lwG rfl ?_
 refine l1 (ld_r one_int rfl (cellE (H.ent (i := 0) rfl) rfl)) rfl rfl rfl ?_
 refine lwG rfl ?_
 refine lwD (geq_r rfl rfl) rfl rfl rfl (fun h80 => ?_) (fun h80 => ?_)
 ·
  obtain ⟨l, hld⟩ : ∃ l : Nat, ld = l := ⟨ld.toNat, by omega⟩
  refine lwG rfl ?_
  refine l1 (mvB_r rfl) rfl rfl rfl ?_
  refine lwG rfl ?_
  refine l1 (fad_r fd_Part_2 rfl) rfl rfl rfl ?_
  refine lwG rfl ?_
  refine l1 (ld_r one_Lbool rfl (cellE (H.ent (i := 0) rfl) rfl)) rfl rfl rfl ?_
  refine lwG rfl ?_
  refine l1 (fad_r fd_Part_1 rfl) rfl rfl rfl ?_
  refine lwG rfl ?_
  refine l1 (ld_r one_int rfl (cellE (H.ent (i := 0) rfl) rfl)) rfl rfl rfl ?_
  refine lwG rfl ?_
  refine ixF (k := l) H 1 rfl sl_Lbool rfl (congrArg (Value.int .i64) hld) (by omega) (by omega) rfl ?_; intro b3 o3 x3 e3
  refine lwG rfl ?_
  obtain ⟨hI, -⟩ := Pa.leads hok (l := l) hld (show (Pa.reps ⟨ep, ld, isr, iA, iC, kn, kA, kC, reps, rA, rC, fw, bs⟩)[l]? = _ from List.getElem?_eq_getElem (by show l < reps.length; omega))
  obtain rfl : x3 = true := by have := e3.at_; rw [show isr[l]? = _ from hI] at this; exact (Option.some.inj this).symm
  refine l1 (ld_r (v := .bool true) one_bool rfl (e3.cl 0 _ rfl)) rfl rfl rfl ?_
  refine lwG rfl ?_
  refine l1 (not_r rfl) rfl rfl rfl ?_
  refine lwG rfl ?_
  refine l1 (mvB_r rfl) rfl rfl rfl ?_
  refine lwG rfl ?_
  refine l1 (fad_r fd_Part_4 rfl) rfl rfl rfl ?_
  refine lwG rfl ?_
  refine l1 (ld_r one_LReplica rfl (cellE (H.ent (i := 0) rfl) rfl)) rfl rfl rfl ?_
  refine lwG rfl ?_
  refine l1 (fad_r fd_Part_1 rfl) rfl rfl rfl ?_
  refine lwG rfl ?_
  refine l1 (ld_r one_int rfl (cellE (H.ent (i := 0) rfl) rfl)) rfl rfl rfl ?_
  refine lwG rfl ?_
  refine ixF (k := l) H 3 rfl sl_LReplica rfl (congrArg (Value.int .i64) hld) (by omega) (by omega) rfl ?_; intro b4 o4 x4 e4
  refine lwG rfl ?_
  refine l1 (fad_r fd_Replica_0 rfl) rfl rfl rfl ?_
  refine lwG rfl ?_
  obtain ⟨-, hU⟩ := Pa.leads hok (l := l) hld (show (Pa.reps ⟨ep, ld, isr, iA, iC, kn, kA, kC, reps, rA, rC, fw, bs⟩)[l]? = _ from e4.at_)
  refine l1 (ld_r (v := .bool true) one_bool rfl (e4.cl 0 _ (by rw [← hU]; rfl))) rfl rfl rfl ?_
  refine lwG rfl ?_
  refine l1 (not_r rfl) rfl rfl rfl ?_
  refine lwG rfl ?_
  refine l1 (pkFB_r rfl rfl) rfl rfl rfl ?_
  refine lwG rfl ?_
  refine l1 (pkTB_r rfl rfl) rfl rfl rfl ?_
  refine l1 (pkFB_r rfl rfl) rfl rfl rfl ?_
  refine lw_nil ?_
  refine cw_false rfl ?_
  refine cw_skip ?_
  refine cw_seq ?_
  refine cw_seq ?_
  refine cw_region ?_
  refine l1 (fad_r fd_Part_4 rfl) rfl rfl rfl ?_
  refine l1 (ld_r one_LReplica rfl (cellE (H.ent (i := 0) rfl) rfl)) rfl rfl rfl ?_
  refine l1 (lenS_r len_LReplica rfl) rfl rfl rfl ?_
  refine l1 (mvI_r rfl) rfl rfl rfl ?_
  refine lw_nil ?_
  refine cw_block ?_
  refine cw_loop (τ := Nat) [2, 4, 5, 6, 7, 104, 105, 106, 107, 108, 109, 110, 111, 112, 113, 114, 115, 116, 117, 118, 119, 120, 121, 122, 123, 124, 125, 126, 127, 128, 129, 130, 131, 132, 133, 134, 135, 136, 137, 138, 139, 140, 141, 142, 143, 144, 145, 146] (fun k => [(104, .int .i64 (k : Nat))]) (fun k w' => k ≤ reps.length ∧ Hp w w' [(b1, .cells #[.int .i64 (ep), .int .i64 (ld), .slice iA isr.length iC, .slice kA kn.length kC, .slice rA reps.length rC, .int .i64 (fw), .int .i64 (bs)] T_Part (0, 0))] [FPa 0 w.heap.size ⟨ep, ld, isr, iA, iC, kn, kA, kC, reps, rA, rC, fw, bs⟩, FRd boolL 0 w.heap.size iA isr, FRd intL 0 w.heap.size kA kn, FRd repL 0 w.heap.size rA reps]) (fun k => reps.length - k) 0 ⟨by omega, H⟩ (sl1 rfl) ?_
  rintro k ρ1 w5 ⟨hk, H⟩
  show CW _ _ _ _ (updL (ovr _ _ ρ1) [(104, .int .i64 (k : Nat))]) w5
  refine cw_seq ?_
  refine cw_region ?_
  refine lwD (lss_r rfl rfl) rfl rfl rfl (fun h105 => ?_) (fun h105 => ?_)
  ·
   refine lw_nil ?_
   refine cw_seq ?_
   refine cw_true rfl ?_
   refine cw_skip ?_
   refine cw_seq ?_
   refine cw_block ?_
   refine cw_seq ?_
   refine cw_region ?_
   refine l1 (mvI_r rfl) rfl rfl rfl ?_
   refine ixF H 3 rfl sl_LReplica rfl rfl (by omega) (by omega) rfl ?_; intro b6 o6 x6 e6
   refine l1 (ldA_r (xs := Rep.c x6) agg_Replica rfl rfl e6.cl) rfl rfl rfl ?_
   refine alo H z_Replica rfl ?_; intro w7 b5 H
   refine l1 (asI_r rfl) rfl rfl rfl ?_
   refine stN H 0 (#[.bool (x6.up), .slice x6.A ((flat x6.es).length) x6.cap, .int .i64 (((lsz x6.es x6.s : Nat) : Int)), .int .i64 (x6.high)]) siz_Replica rfl rfl rfl rfl rfl (by kernel_rfl) (by kernel_rfl) ?_; intro w8 H
   refine lw_nil ?_
   refine cw_seq ?_
   refine cw_region ?_
   refine l1 (ldW_r agg_Part rfl (H.ent (i := 1) rfl) rfl) rfl rfl rfl ?_
   refine l1 (mvI_r rfl) rfl rfl rfl ?_
   refine cal cb_part_ends (pEnds_ok ⟨ep, ld, isr, iA, iC, kn, kA, kC, reps, rA, rC, fw, bs⟩ k x6 _ (H.rd0 3 rfl) e6.at_ (Pa.log (Hp.pa H 0 rfl) hok (i := k) e6.at_)) rfl rfl ?_
   rintro _ w9 ⟨rfl, hb⟩; replace H := H.later hb; clear hb
   refine l1 (mvU_r rfl) rfl rfl rfl ?_
   refine l1 (exI_r rfl rfl) rfl rfl rfl ?_
   refine l1 (exI_r rfl rfl) rfl rfl rfl ?_
   refine l1 (asI_r rfl) rfl rfl rfl ?_
   refine l1 (asI_r rfl) rfl rfl rfl ?_
   refine lw_nil ?_
   refine cw_seq ?_
   refine cw_region ?_
   refine l1 (fad_r fd_Replica_1 rfl) rfl rfl rfl ?_
   refine l1 (ldS_r 1 [.slice x6.A ((flat x6.es).length) x6.cap, .int .i64 (((lsz x6.es x6.s : Nat) : Int))] agg_Log rfl rfl (H.ent (i := 0) rfl) rfl) rfl rfl rfl ?_
   refine cal cb_seg_Check (segCheck_at x6.A x6.cap x6.es x6.s _ (Pa.log (Hp.pa H 0 rfl) hok (i := k) e6.at_)) rfl rfl ?_
   rintro _ w10 ⟨rfl, hb⟩; replace H := H.later hb; clear hb
   refine l1 (neqF_r rfl rfl rfl) rfl rfl rfl ?_
   refine l1 (mvB_r rfl) rfl rfl rfl ?_
   refine lwG rfl ?_
   refine l1 (fad_r fd_Replica_2 rfl) rfl rfl rfl ?_
   refine lwG rfl ?_
   refine l1 (ld_r one_int rfl (cellE (H.ent (i := 0) rfl) rfl)) rfl rfl rfl ?_
   refine lwG rfl ?_
   refine l1 (lssF_r rfl rfl (by have := (Pa.repOk hok (show (Pa.reps ⟨ep, ld, isr, iA, iC, kn, kA, kC, reps, rA, rC, fw, bs⟩)[k]? = _ from e6.at_)).2.1; omega)) rfl rfl rfl ?_
   refine l1 (pkFB_r rfl rfl) rfl rfl rfl ?_
   refine l1 (mvB_r rfl) rfl rfl rfl ?_
   refine lwG rfl ?_
   refine l1 (fad_r fd_Replica_2 rfl) rfl rfl rfl ?_
   refine lwG rfl ?_
   refine l1 (ld_r one_int rfl (cellE (H.ent (i := 0) rfl) rfl)) rfl rfl rfl ?_
   refine lwG rfl ?_
   refine l1 (mvI_r rfl) rfl rfl rfl ?_
   refine lwG rfl ?_
   refine l1 (gtrF_r rfl rfl (by have := (Pa.repOk hok (show (Pa.reps ⟨ep, ld, isr, iA, iC, kn, kA, kC, reps, rA, rC, fw, bs⟩)[k]? = _ from e6.at_)).2.2; omega)) rfl rfl rfl ?_
   refine l1 (pkFB_r rfl rfl) rfl rfl rfl ?_
   refine l1 (mvB_r rfl) rfl rfl rfl ?_
   refine lwG rfl ?_
   refine l1 (fad_r fd_Part_3 rfl) rfl rfl rfl ?_
   refine lwG rfl ?_
   refine l1 (ld_r one_Lint rfl (cellE (H.ent (i := 1) rfl) rfl)) rfl rfl rfl ?_
   refine lwG rfl ?_
   refine l1 (mvI_r rfl) rfl rfl rfl ?_
   refine lwG rfl ?_
   refine ixF H 2 rfl sl_Lint rfl rfl (by omega) (by omega) rfl ?_; intro b11 o11 x11 e11
   refine lwG rfl ?_
   refine l1 (ld_r one_int rfl (e11.cl 0 _ rfl)) rfl rfl rfl ?_
   refine lwG rfl ?_
   refine l1 (lssF_r rfl rfl (by have := (hkn _ (List.mem_of_getElem? e11.at_)).1; omega)) rfl rfl rfl ?_
   refine l1 (pkFB_r rfl rfl) rfl rfl rfl ?_
   refine l1 (mvB_r rfl) rfl rfl rfl ?_
   refine lwG rfl ?_
   refine l1 (fad_r fd_Part_3 rfl) rfl rfl rfl ?_
   refine lwG rfl ?_
   refine l1 (ld_r one_Lint rfl (cellE (H.ent (i := 1) rfl) rfl)) rfl rfl rfl ?_
   refine lwG rfl ?_
   refine l1 (mvI_r rfl) rfl rfl rfl ?_
   refine lwG rfl ?_
   refine ixF H 2 rfl sl_Lint rfl rfl (by omega) (by omega) rfl ?_; intro b12 o12 x12 e12
   refine lwG rfl ?_
   refine l1 (ld_r one_int rfl (e12.cl 0 _ rfl)) rfl rfl rfl ?_
   refine lwG rfl ?_
   refine l1 (gtrF_r rfl rfl (by have := (hkn _ (List.mem_of_getElem? e12.at_)).2; omega)) rfl rfl rfl ?_
   refine l1 (pkFB_r rfl rfl) rfl rfl rfl ?_
   refine lw_nil ?_
   refine cw_false rfl ?_
   refine cw_skip ?_
   refine cw_region ?_
   refine l1 (add_r rfl rfl (by omega) (by omega)) rfl rfl rfl ?_
   refine l1 (mvI_r rfl) rfl rfl rfl ?_
   refine lw_nil ?_
   refine ⟨k + 1, ⟨by omega, H.forget (.cons _ (List.Sublist.refl _)) (fun _ h => h)⟩, sl1 rfl, by repeat (first | exact Agr.refl _ _ | exact agr_ovr | refine agr_upd rfl ?_ | refine agr_updL _ rfl ?_ | refine agr_ovr2 rfl ?_), by show reps.length - (k + 1) < reps.length - k; omega⟩
  ·
   refine lw_nil ?_
   refine cw_seq ?_
   refine cw_false rfl ?_
   refine cw_exit ?_
   refine cw_seq ?_
   refine cw_region ?_
   refine l1 (asI_r rfl) rfl rfl rfl ?_
   refine lw_nil ?_
   refine cw_ret ?_
   exact fin1 rfl rfl ⟨rfl, H.below⟩
 ·
  refine lwG rfl ?_
  refine l1 (mvB_r rfl) rfl rfl rfl ?_
  refine lwN rfl rfl rfl ?_
  refine lwN rfl rfl rfl ?_
  refine lwN rfl rfl rfl ?_
  refine lwN rfl rfl rfl ?_
  refine lwN rfl rfl rfl ?_
  refine lwN rfl rfl rfl ?_
  refine lwN rfl rfl rfl ?_
  refine lwN rfl rfl rfl ?_
  refine lwN rfl rfl rfl ?_
  refine lwN rfl rfl rfl ?_
  refine lwN rfl rfl rfl ?_
  refine lwN rfl rfl rfl ?_
  refine lwN rfl rfl rfl ?_
  refine lwN rfl rfl rfl ?_
  refine lwN rfl rfl rfl ?_
  refine lwN rfl rfl rfl ?_
  refine lwN rfl rfl rfl ?_
  refine lwG rfl ?_
  refine l1 (pkFB_r rfl rfl) rfl rfl rfl ?_
  refine l1 (pkFB_r rfl rfl) rfl rfl rfl ?_
  refine lw_nil ?_
  refine cw_false rfl ?_
  refine cw_skip ?_
  refine cw_seq ?_
  refine cw_seq ?_
  refine cw_region ?_
  refine l1 (fad_r fd_Part_4 rfl) rfl rfl rfl ?_
  refine l1 (ld_r one_LReplica rfl (cellE (H.ent (i := 0) rfl) rfl)) rfl rfl rfl ?_
  refine l1 (lenS_r len_LReplica rfl) rfl rfl rfl ?_
  refine l1 (mvI_r rfl) rfl rfl rfl ?_
  refine lw_nil ?_
  refine cw_block ?_
  refine cw_loop (τ := Nat) [2, 4, 5, 6, 7, 104, 105, 106, 107, 108, 109, 110, 111, 112, 113, 114, 115, 116, 117, 118, 119, 120, 121, 122, 123, 124, 125, 126, 127, 128, 129, 130, 131, 132, 133, 134, 135, 136, 137, 138, 139, 140, 141, 142, 143, 144, 145, 146] (fun k => [(104, .int .i64 (k : Nat))]) (fun k w' => k ≤ reps.length ∧ Hp w w' [(b1, .cells #[.int .i64 (ep), .int .i64 (ld), .slice iA isr.length iC, .slice kA kn.length kC, .slice rA reps.length rC, .int .i64 (fw), .int .i64 (bs)] T_Part (0, 0))] [FPa 0 w.heap.size ⟨ep, ld, isr, iA, iC, kn, kA, kC, reps, rA, rC, fw, bs⟩, FRd boolL 0 w.heap.size iA isr, FRd intL 0 w.heap.size kA kn, FRd repL 0 w.heap.size rA reps]) (fun k => reps.length - k) 0 ⟨by omega, H⟩ (sl1 rfl) ?_
  rintro k ρ1 w13 ⟨hk, H⟩
  show CW _ _ _ _ (updL (ovr _ _ ρ1) [(104, .int .i64 (k : Nat))]) w13
  refine cw_seq ?_
  refine cw_region ?_
  refine lwD (lss_r rfl rfl) rfl rfl rfl (fun h105 => ?_) (fun h105 => ?_)
  ·
   refine lw_nil ?_
   refine cw_seq ?_
   refine cw_true rfl ?_
   refine cw_skip ?_
   refine cw_seq ?_
   refine cw_block ?_
   refine cw_seq ?_
   refine cw_region ?_
   refine l1 (mvI_r rfl) rfl rfl rfl ?_
   refine ixF H 3 rfl sl_LReplica rfl rfl (by omega) (by omega) rfl ?_; intro b14 o14 x14 e14
   refine l1 (ldA_r (xs := Rep.c x14) agg_Replica rfl rfl e14.cl) rfl rfl rfl ?_
   refine alo H z_Replica rfl ?_; intro w15 b5 H
   refine l1 (asI_r rfl) rfl rfl rfl ?_
   refine stN H 0 (#[.bool (x14.up), .slice x14.A ((flat x14.es).length) x14.cap, .int .i64 (((lsz x14.es x14.s : Nat) : Int)), .int .i64 (x14.high)]) siz_Replica rfl rfl rfl rfl rfl (by kernel_rfl) (by kernel_rfl) ?_; intro w16 H
   refine lw_nil ?_
   refine cw_seq ?_
   refine cw_region ?_
   refine l1 (ldW_r agg_Part rfl (H.ent (i := 1) rfl) rfl) rfl rfl rfl ?_
   refine l1 (mvI_r rfl) rfl rfl rfl ?_
   refine cal cb_part_ends (pEnds_ok ⟨ep, ld, isr, iA, iC, kn, kA, kC, reps, rA, rC, fw, bs⟩ k x14 _ (H.rd0 3 rfl) e14.at_ (Pa.log (Hp.pa H 0 rfl) hok (i := k) e14.at_)) rfl rfl ?_
   rintro _ w17 ⟨rfl, hb⟩; replace H := H.later hb; clear hb
   refine l1 (mvU_r rfl) rfl rfl rfl ?_
   refine l1 (exI_r rfl rfl) rfl rfl rfl ?_
   refine l1 (exI_r rfl rfl) rfl rfl rfl ?_
   refine l1 (asI_r rfl) rfl rfl rfl ?_
   refine l1 (asI_r rfl) rfl rfl rfl ?_
   refine lw_nil ?_
   refine cw_seq ?_
   refine cw_region ?_
   refine l1 (fad_r fd_Replica_1 rfl) rfl rfl rfl ?_
   refine l1 (ldS_r 1 [.slice x14.A ((flat x14.es).length) x14.cap, .int .i64 (((lsz x14.es x14.s : Nat) : Int))] agg_Log rfl rfl (H.ent (i := 0) rfl) rfl) rfl rfl rfl ?_
   refine cal cb_seg_Check (segCheck_at x14.A x14.cap x14.es x14.s _ (Pa.log (Hp.pa H 0 rfl) hok (i := k) e14.at_)) rfl rfl ?_
   rintro _ w18 ⟨rfl, hb⟩; replace H := H.later hb; clear hb
   refine l1 (neqF_r rfl rfl rfl) rfl rfl rfl ?_
   refine l1 (mvB_r rfl) rfl rfl rfl ?_
   refine lwG rfl ?_
   refine l1 (fad_r fd_Replica_2 rfl) rfl rfl rfl ?_
   refine lwG rfl ?_
   refine l1 (ld_r one_int rfl (cellE (H.ent (i := 0) rfl) rfl)) rfl rfl rfl ?_
   refine lwG rfl ?_
   refine l1 (lssF_r rfl rfl (by have := (Pa.repOk hok (show (Pa.reps ⟨ep, ld, isr, iA, iC, kn, kA, kC, reps, rA, rC, fw, bs⟩)[k]? = _ from e14.at_)).2.1; omega)) rfl rfl rfl ?_
   refine l1 (pkFB_r rfl rfl) rfl rfl rfl ?_
   refine l1 (mvB_r rfl) rfl rfl rfl ?_
   refine lwG rfl ?_
   refine l1 (fad_r fd_Replica_2 rfl) rfl rfl rfl ?_
   refine lwG rfl ?_
   refine l1 (ld_r one_int rfl (cellE (H.ent (i := 0) rfl) rfl)) rfl rfl rfl ?_
   refine lwG rfl ?_
   refine l1 (mvI_r rfl) rfl rfl rfl ?_
   refine lwG rfl ?_
   refine l1 (gtrF_r rfl rfl (by have := (Pa.repOk hok (show (Pa.reps ⟨ep, ld, isr, iA, iC, kn, kA, kC, reps, rA, rC, fw, bs⟩)[k]? = _ from e14.at_)).2.2; omega)) rfl rfl rfl ?_
   refine l1 (pkFB_r rfl rfl) rfl rfl rfl ?_
   refine l1 (mvB_r rfl) rfl rfl rfl ?_
   refine lwG rfl ?_
   refine l1 (fad_r fd_Part_3 rfl) rfl rfl rfl ?_
   refine lwG rfl ?_
   refine l1 (ld_r one_Lint rfl (cellE (H.ent (i := 1) rfl) rfl)) rfl rfl rfl ?_
   refine lwG rfl ?_
   refine l1 (mvI_r rfl) rfl rfl rfl ?_
   refine lwG rfl ?_
   refine ixF H 2 rfl sl_Lint rfl rfl (by omega) (by omega) rfl ?_; intro b19 o19 x19 e19
   refine lwG rfl ?_
   refine l1 (ld_r one_int rfl (e19.cl 0 _ rfl)) rfl rfl rfl ?_
   refine lwG rfl ?_
   refine l1 (lssF_r rfl rfl (by have := (hkn _ (List.mem_of_getElem? e19.at_)).1; omega)) rfl rfl rfl ?_
   refine l1 (pkFB_r rfl rfl) rfl rfl rfl ?_
   refine l1 (mvB_r rfl) rfl rfl rfl ?_
   refine lwG rfl ?_
   refine l1 (fad_r fd_Part_3 rfl) rfl rfl rfl ?_
   refine lwG rfl ?_
   refine l1 (ld_r one_Lint rfl (cellE (H.ent (i := 1) rfl) rfl)) rfl rfl rfl ?_
   refine lwG rfl ?_
   refine l1 (mvI_r rfl) rfl rfl rfl ?_
   refine lwG rfl ?_
   refine ixF H 2 rfl sl_Lint rfl rfl (by omega) (by omega) rfl ?_; intro b20 o20 x20 e20
   refine lwG rfl ?_
   refine l1 (ld_r one_int rfl (e20.cl 0 _ rfl)) rfl rfl rfl ?_
   refine lwG rfl ?_
   refine l1 (gtrF_r rfl rfl (by have := (hkn _ (List.mem_of_getElem? e20.at_)).2; omega)) rfl rfl rfl ?_
   refine l1 (pkFB_r rfl rfl) rfl rfl rfl ?_
   refine lw_nil ?_
   refine cw_false rfl ?_
   refine cw_skip ?_
   refine cw_region ?_
   refine l1 (add_r rfl rfl (by omega) (by omega)) rfl rfl rfl ?_
   refine l1 (mvI_r rfl) rfl rfl rfl ?_
   refine lw_nil ?_
   refine ⟨k + 1, ⟨by omega, H.forget (.cons _ (List.Sublist.refl _)) (fun _ h => h)⟩, sl1 rfl, by repeat (first | exact Agr.refl _ _ | exact agr_ovr | refine agr_upd rfl ?_ | refine agr_updL _ rfl ?_ | refine agr_ovr2 rfl ?_), by show reps.length - (k + 1) < reps.length - k; omega⟩
  ·
   refine lw_nil ?_
   refine cw_seq ?_
   refine cw_false rfl ?_
   refine cw_exit ?_
   refine cw_seq ?_
   refine cw_region ?_
   refine l1 (asI_r rfl) rfl rfl rfl ?_
   refine lw_nil ?_
   refine cw_ret ?_
   exact fin1 rfl rfl ⟨rfl, H.below⟩
end Go.Proofs.Ytemnchkebhclpaa
end

section
namespace Go.Proofs.Ytemnchkebhclpaa
open Go Go.Eng Go.RowKit
set_option linter.unusedSimpArgs false
theorem mem_repsF_snoc {f : Fact} {l : List Rep} {x : Rep} {F : List Fact} (h : f ∈ F ++ repsF (l ++ [x])) : f ∈ repF x :: (F ++ repsF l) := by
 simp only [repsF, List.map_append, List.map_cons, List.map_nil, List.mem_append, List.mem_singleton] at h
 simp only [List.mem_cons, List.mem_append, repsF]
 rcases h with h | h | h
 ·
  exact .inr (.inl h)
 ·
  exact .inr (.inr h)
 ·
  exact .inl h
set_option maxHeartbeats 4000000 in
set_option maxRecDepth 10000 in
theorem pCopy_ok (p : Pa) (w : World) (h : p.rd 0 w.heap.size w) (hok : p.a.ok) : Ret Try.prog i_part_Copy [p.v] w fun v w2 => ∃ (p' : Pa) (g1 g2 g3 : Nat) (c1 c2 c3 : Array Value), v = p'.v ∧ p'.a = p.a ∧ OwnPa w w2 p' g1 g2 g3 c1 c2 c3 := by
 refine ret_of fn_part_Copy rfl rfl ?_
 obtain ⟨hn1, hn2, hil, hkl, hf1, hf2, he0, he1, hl0, hl1, hb0, hb1, hsm⟩ := Pa.facts hok
 have hkn := hok.known
 have hiC := h.iC
 have hkC := h.kC
 have hrC := h.rC
 have hfew := h.few
 have H := Hp.startPa h
 obtain ⟨ep, ld, isr, iA, iC, kn, kA, kC, reps, rA, rC, fw, bs⟩ := p
 simp only [Pa.a] at hkn
 dsimp only at H hn1 hn2 hil hkl hf1 hf2 he0 he1 hl0 hl1 hb0 hb1 hsm hiC hkC hrC hfew
 show CW _ _ _ _ (args [.agg #[.int .i64 (ep), .int .i64 (ld), .slice iA isr.length iC, .slice kA kn.length kC, .slice rA reps.length rC, .int .i64 (fw), .int .i64 (bs)]]) w
 refine cw_seq ?_
 refine cw_region ?_
 refine bxA H rfl rfl ?_; intro w1 b1 H
 refine alo H z_Part rfl ?_; intro w2 b2 H
 refine lw_nil ?_
 refine cw_seq ?_

 refine cw_draw mixed [0, 1, 3, 4, 6, 7, 2, 9, 5, 8] [10, 11, 12, 13, 14] [2, 5, 8] [0, 3, 6, 9] (sp [(2, Sp.orow w2.heap.size boolL T_bool isr), (5, Sp.orow w2.heap.size intL T_int kn), (8, Sp.orow w2.heap.size repL T_Replica reps)]) (by kernel_rfl) (by kernel_rfl) (by kernel_rfl) (by kernel_rfl) (fun _ _ _ h => h) (sp_st _) ?_
 refine aw rfl rfl rfl rfl rfl (fun w' hw' => fad_r fd_Part_2 rfl) ?_
 refine aw rfl rfl rfl rfl rfl (fun w' hw' => ld_r one_Lbool rfl (cellE ((H.later hw').ent (i := 1) rfl) rfl)) ?_
 refine aw rfl rfl rfl rfl rfl (fun w' hw' => fad_r fd_Part_3 rfl) ?_
 refine aw rfl rfl rfl rfl rfl (fun w' hw' => ld_r one_Lint rfl (cellE ((H.later hw').ent (i := 1) rfl) rfl)) ?_
 refine aw rfl rfl rfl rfl rfl (fun w' hw' => fad_r fd_Part_4 rfl) ?_
 refine aw rfl rfl rfl rfl rfl (fun w' hw' => ld_r one_LReplica rfl (cellE ((H.later hw').ent (i := 1) rfl) rfl)) ?_
 refine awORow cb_slices_Clone_Lbool_bool rfl rfl rfl rfl rfl (fun w' hw' => hw'.size) (fun w' hw' => clone_bool_ok isr _ _ w' ((H.later hw').rd0 1 rfl) (by omega)) rfl ?_; intro A6 c6 hc6
 refine aw rfl rfl rfl rfl rfl (fun w' hw' => fad_r fd_Part_2 rfl) ?_
 refine awORow cb_slices_Clone_Lint_int rfl rfl rfl rfl rfl (fun w' hw' => hw'.size) (fun w' hw' => clone_int_ok kn _ _ w' ((H.later hw').rd0 2 rfl) (by omega)) rfl ?_; intro A9 c9 hc9
 refine awORow cb_slices_Clone_LReplica_Replica rfl rfl rfl rfl rfl (fun w' hw' => hw'.size) (fun w' hw' => clone_Replica_ok reps _ _ w' ((H.later hw').rd0 3 rfl) (by omega)) rfl ?_; intro A12 c12 hc12
 refine aw_nil ?_
 intro w3 hw' hF
 obtain ⟨hF, Aq, cq, L12, eq, hcq, hm12, ho12, he12, hn12⟩ := hF; cases eq; clear hcq
 obtain ⟨hF, Aq, cq, L9, eq, hcq, hm9, ho9, he9, hn9⟩ := hF; cases eq; clear hcq
 obtain ⟨hF, Aq, cq, L6, eq, hcq, hm6, ho6, he6, hn6⟩ := hF; cases eq; clear hcq
 obtain ⟨g1, cur1, rfl, rfl, row1⟩ := ho6.row (by omega)
 obtain ⟨g2, cur2, rfl, rfl, row2⟩ := ho9.row (by omega)
 obtain ⟨g3, cur3, rfl, rfl, row3⟩ := ho12.row (by omega)
 have e6 := he6 _ (List.mem_singleton_self _)
 have e9 := he9 _ (List.mem_singleton_self _)
 have e12 := he12 _ (List.mem_singleton_self _)
 replace H := H.adopt3 hw' e6 e9 e12 (cells_ne e6.1 e9.1 rfl) (cells_ne e6.1 e12.1 rfl) (cells_ne e9.1 e12.1 rfl)
 clear hw' hF
 refine stN H 4 (#[.int .i64 (ep), .int .i64 (ld), .slice (some ⟨g1, 0, none⟩) isr.length c6, .slice kA kn.length kC, .slice rA reps.length rC, .int .i64 (fw), .int .i64 (bs)]) siz_Lbool rfl rfl rfl rfl rfl (by kernel_rfl) (by kernel_rfl) ?_; intro w4 H
 refine l1 (fad_r fd_Part_3 rfl) rfl rfl rfl ?_
 refine stN H 4 (#[.int .i64 (ep), .int .i64 (ld), .slice (some ⟨g1, 0, none⟩) isr.length c6, .slice (some ⟨g2, 0, none⟩) kn.length c9, .slice rA reps.length rC, .int .i64 (fw), .int .i64 (bs)]) siz_Lint rfl rfl rfl rfl rfl (by kernel_rfl) (by kernel_rfl) ?_; intro w5 H
 refine l1 (fad_r fd_Part_4 rfl) rfl rfl rfl ?_
 refine stN H 4 (#[.int .i64 (ep), .int .i64 (ld), .slice (some ⟨g1, 0, none⟩) isr.length c6, .slice (some ⟨g2, 0, none⟩) kn.length c9, .slice (some ⟨g3, 0, none⟩) reps.length c12, .int .i64 (fw), .int .i64 (bs)]) siz_LReplica rfl rfl rfl rfl rfl (by kernel_rfl) (by kernel_rfl) ?_; intro w6 H
 refine lw_nil ?_
 refine cw_seq ?_
 refine cw_seq ?_
 refine cw_region ?_
 refine l1 (fad_r fd_Part_4 rfl) rfl rfl rfl ?_
 refine l1 (ld_r one_LReplica rfl (cellE (H.ent (i := 4) rfl) rfl)) rfl rfl rfl ?_
 refine l1 (lenS_r len_LReplica rfl) rfl rfl rfl ?_
 refine l1 (mvI_r rfl) rfl rfl rfl ?_
 refine lw_nil ?_
 refine cw_block ?_
 refine cw_loop (τ := Nat × List Rep × Array Value) [3, 19, 20, 21, 22, 23, 24, 25, 26, 27, 28, 29, 30, 31, 32, 33, 34, 35, 36] (fun (k, _) => [(19, .int .i64 (k : Nat))]) (fun (k, rs, c3) w' => k ≤ rs.length ∧ rs.length = reps.length ∧ rs.map Rep.a = reps.map Rep.a ∧ rs.drop k = reps.drop k ∧ (∀ r ∈ rs.take k, (flat r.es).length ≤ r.cap ∧ w.heap.size ≤ r.lo) ∧ Row repL rs c12 c3 ∧ Hp w w' [(g1, .cells cur1 T_bool (0, 0)), (g2, .cells cur2 T_int (0, 0)), (g3, .cells c3 T_Replica (0, 0)), (b2, .cells #[.int .i64 0, .int .i64 0, .slice none 0 0, .slice none 0 0, .slice none 0 0, .int .i64 0, .int .i64 0] T_Part (0, 0)), (b1, .cells #[.int .i64 ep, .int .i64 ld, .slice (some ⟨g1, 0, none⟩) isr.length c6, .slice (some ⟨g2, 0, none⟩) kn.length c9, .slice (some ⟨g3, 0, none⟩) reps.length c12, .int .i64 fw, .int .i64 bs] T_Part (0, 0))] ([FPa 0 w.heap.size ⟨ep, ld, isr, iA, iC, kn, kA, kC, reps, rA, rC, fw, bs⟩, FRd boolL 0 w.heap.size iA isr, FRd intL 0 w.heap.size kA kn, FRd repL 0 w.heap.size rA reps] ++ repsF (rs.take k))) (fun (k, rs, _) => rs.length - k) (0, reps, cur3) ⟨by omega, rfl, rfl, rfl, by simp, row3, H⟩ (sl1 rfl) ?_
 rintro ⟨k, rs, c3⟩ ρ1 w7 ⟨hk, hrl, hma, hdr, hcp, row, H⟩
 show CW _ _ _ _ (updL (ovr _ _ ρ1) [(19, .int .i64 (k : Nat))]) w7
 refine cw_seq ?_
 refine cw_region ?_
 refine lwD (lss_r rfl rfl) rfl rfl rfl (fun h20 => ?_) (fun h20 => ?_)
 ·
  refine lw_nil ?_
  refine cw_seq ?_
  refine cw_true rfl ?_
  refine cw_skip ?_
  refine cw_seq ?_
  refine cw_block ?_
  refine cw_seq ?_
  obtain ⟨x, hx⟩ : ∃ x, rs[k]? = some x := ⟨_, List.getElem?_eq_getElem (by omega)⟩
  have hxt := drop_at hdr hx
  have hsz := (Pa.repOk hok (show (Pa.reps ⟨ep, ld, isr, iA, iC, kn, kA, kC, reps, rA, rC, fw, bs⟩)[k]? = _ from hxt)).1.sz
  refine cw_region ?_
  refine l1 (mvI_r rfl) rfl rfl rfl ?_
  refine l1 (asI_r rfl) rfl rfl rfl ?_
  refine lw_nil ?_
 
  have hlo := H.size
  refine cw_draw mixed [0, 1, 2, 3, 4, 5, 6, 7, 8, 9, 10, 11, 12, 13] [14] [10] [0, 2, 3, 5, 6, 7, 8, 11, 12, 13] (sp [(10, Sp.row w7.heap.size byteL (flat x.es))]) (by kernel_rfl) (by kernel_rfl) (by kernel_rfl) (by kernel_rfl) (fun _ _ _ h => h) (sp_st _) ?_
  refine aw rfl rfl rfl rfl rfl (fun w' hw' => fad_r fd_Part_4 rfl) ?_
  refine aw rfl rfl rfl rfl rfl (fun w' hw' => ld_r one_LReplica rfl (cellE ((H.later hw').ent (i := 4) rfl) rfl)) ?_
  refine aw rfl rfl rfl rfl rfl (fun w' hw' => mvI_r rfl) ?_
  refine aw rfl rfl rfl rfl rfl (fun w' hw' => fad_r fd_Part_4 rfl) ?_
  refine aw rfl rfl rfl rfl rfl (fun w' hw' => ld_r one_LReplica rfl (cellE ((H.later hw').ent (i := 4) rfl) rfl)) ?_
  refine aw rfl rfl rfl rfl rfl (fun w' hw' => mvI_r rfl) ?_
  refine aw rfl rfl rfl rfl rfl (fun w' hw' => ixR_r sl_LReplica rfl rfl (by first | omega | (simp only [List.length_set]; omega))) ?_
  refine aw rfl rfl rfl rfl rfl (fun w' hw' => fad_r fd_Replica_1 rfl) ?_
  refine aw rfl rfl rfl rfl rfl (fun w' hw' => fad_r fd_Log_0 rfl) ?_
  refine aw rfl rfl rfl rfl rfl (fun w' hw' => ldR_r one_Lbyte row hx 1 rfl ((H.later hw').ent (i := 2) rfl) rfl) ?_
  refine awRow cb_slices_Clone_Lbyte_byte rfl rfl rfl rfl rfl (fun w' hw' => hw'.size) (fun w' hw' => clone_byte_rd (flat x.es) _ _ w' ((Hp.pa (H.later hw') 0 rfl).logs x (List.mem_of_getElem? hxt)) (by omega)) rfl ?_; intro A32 c32 hc32
  refine aw rfl rfl rfl rfl rfl (fun w' hw' => ixR_r sl_LReplica rfl rfl (by first | omega | (simp only [List.length_set]; omega))) ?_
  refine aw rfl rfl rfl rfl rfl (fun w' hw' => fad_r fd_Replica_1 rfl) ?_
  refine aw rfl rfl rfl rfl rfl (fun w' hw' => fad_r fd_Log_0 rfl) ?_
  refine aw_nil ?_
  intro w8 hw' hF
  obtain ⟨hF, Aq, cq, eq, hcq, hrw32⟩ := hF; cases eq; clear hcq
  replace H := H.learnRd hw' hrw32
  clear hw' hF
  refine stR H 2 ({ x with A := A32, cap := c32, lo := w7.heap.size, hi := w8.heap.size }) siz_Lbyte row hx 1 rfl rfl rfl rfl rfl rfl (by kernel_rfl) ?_; intro w10 cur9 row9 H
  refine lw_nil ?_
  refine cw_region ?_
  refine l1 (add_r rfl rfl (by omega) (by omega)) rfl rfl rfl ?_
  refine l1 (mvI_r rfl) rfl rfl rfl ?_
  refine lw_nil ?_
  obtain ⟨z1, z2, z3⟩ := copyG (x' := { x with A := A32, cap := c32, lo := w7.heap.size, hi := w8.heap.size }) hx hma hdr rfl
  refine ⟨(k + 1, rs.set k { x with A := A32, cap := c32, lo := w7.heap.size, hi := w8.heap.size }, cur9), ⟨by rw [List.length_set]; omega, by rw [List.length_set]; exact hrl, z1, z2, ?_, row9, H.forget (List.Sublist.refl _) (fun f hf => by rw [z3] at hf; exact mem_repsF_snoc hf)⟩, sl1 rfl, by repeat (first | exact Agr.refl _ _ | exact agr_ovr | refine agr_upd rfl ?_ | refine agr_updL _ rfl ?_ | refine agr_ovr2 rfl ?_), by show (rs.set k _).length - (k + 1) < rs.length - k; rw [List.length_set]; omega⟩
  rw [z3]; intro t ht; rcases List.mem_append.1 ht with ht | ht; exact hcp t ht; rw [List.mem_singleton.1 ht]; exact ⟨hc32, hlo⟩
 ·
  refine lw_nil ?_
  refine cw_seq ?_
  refine cw_false rfl ?_
  refine cw_exit ?_
  refine cw_seq ?_
  refine cw_region ?_
  refine l1 (ldW_r agg_Part rfl (H.ent (i := 4) rfl) rfl) rfl rfl rfl ?_
  refine stN H 3 (#[.int .i64 (ep), .int .i64 (ld), .slice (some ⟨g1, 0, none⟩) isr.length c6, .slice (some ⟨g2, 0, none⟩) kn.length c9, .slice (some ⟨g3, 0, none⟩) reps.length c12, .int .i64 (fw), .int .i64 (bs)]) siz_Part rfl rfl rfl rfl rfl (by kernel_rfl) (by kernel_rfl) ?_; intro w11 H
  refine lw_nil ?_
  refine cw_ret ?_
  have hke : k = rs.length := by omega
  rw [hke, List.take_length] at H hcp
  exact finC (cs0 := #[.int .i64 ep, .int .i64 ld, .slice (some ⟨g1, 0, none⟩) isr.length c6, .slice (some ⟨g2, 0, none⟩) kn.length c9, .slice (some ⟨g3, 0, none⟩) reps.length c12, .int .i64 fw, .int .i64 bs]) rfl agg_Part rfl (H.ent (i := 3) rfl) rfl ⟨⟨ep, ld, isr, some ⟨g1, 0, none⟩, c6, kn, some ⟨g2, 0, none⟩, c9, rs, some ⟨g3, 0, none⟩, c12, fw, bs⟩, g1, g2, g3, cur1, cur2, c3, by unfold Pa.v Pa.c; dsimp only; rw [hrl], by unfold Pa.a; dsimp only; rw [hma], ⟨rfl, rfl, rfl, row1, row2, row, fun r hr => (hcp r hr).1, fun r hr => (hcp r hr).2, by dsimp only; omega, H.forget (.cons_cons _ (.cons_cons _ (.cons_cons _ (List.nil_sublist _)))) (fun f hf => List.mem_append_right _ hf)⟩⟩
end Go.Proofs.Ytemnchkebhclpaa
end

section
namespace Go.Proofs.Ytemnchkebhclpaa
open Go Go.Eng Go.RowKit
set_option linter.unusedSimpArgs false
/-- the least of what is known of those that keep up -/
def leastA : List Bool → List Int → Int → Int
 | b :: bs, n :: ns, m => leastA bs ns (if b then min m n else m)
 | _, _, m => m
theorem least_step {isr : List Bool} {kn : List Int} {k : Nat} {b : Bool} {n m : Int} (hb : isr[k]? = some b) (hn : kn[k]? = some n) : leastA (isr.drop k) (kn.drop k) m = leastA (isr.drop (k + 1)) (kn.drop (k + 1)) (if b then min m n else m) := by
 rw [take_drop_step hb, take_drop_step hn]
 rfl
theorem own_log1 {w0 w : World} {L : List (Nat × Obj)} {F : List Fact} {r : Rep} (H : Hp w0 w L F) (hF : repF r ∈ F) (hg : GL r.es r.s) (hc : (flat r.es).length ≤ r.cap) : r.log.ok w := by
 obtain ⟨h1, h2, -⟩ := H.facts (repF r) hF
 exact ⟨hg, hc, Rd.mono h1 (Nat.zero_le _) h2⟩
theorem repF_mem {reps : List Rep} {F : List Fact} {i : Nat} {r : Rep} (hr : reps[i]? = some r) : repF r ∈ F ++ repsF reps := List.mem_append_right _ (List.mem_map_of_mem (List.mem_of_getElem? hr))
set_option maxHeartbeats 4000000 in
set_option maxRecDepth 10000 in
theorem pAt_none (p : Pa) (r : Int) (w : World) (h : p.rd 0 w.heap.size w) (hok : p.a.ok) (hr : r < 0 ∨ p.reps.length ≤ r) : Ret Try.prog i_part_at [p.v, .int .i64 r] w fun v w2 => v = .tuple #[.agg #[.int .i64 0, .int .i64 0, .slice none 0 0, .slice none 0 0, .slice none 0 0, .int .i64 0, .int .i64 0], .int .i64 5] ∧ Below w.heap.size w w2 := by
 refine ret_of fn_part_at rfl rfl ?_
 obtain ⟨hn1, hn2, hil, hkl, hf1, hf2, he0, he1, hl0, hl1, hb0, hb1, hsm⟩ := Pa.facts hok
 have hkn := hok.known
 have hiC := h.iC
 have hkC := h.kC
 have hrC := h.rC
 have hfew := h.few
 have H := Hp.startPa h
 obtain ⟨ep, ld, isr, iA, iC, kn, kA, kC, reps, rA, rC, fw, bs⟩ := p
 simp only [Pa.a] at hkn
 dsimp only at H hn1 hn2 hil hkl hf1 hf2 he0 he1 hl0 hl1 hb0 hb1 hsm hiC hkC hrC hfew
 dsimp only at hr
 show CW _ _ _ _ (args [.agg #[.int .i64 (ep), .int .i64 (ld), .slice iA isr.length iC, .slice kA kn.length kC, .slice rA reps.length rC, .int .i64 (fw), .int .i64 (bs)], .int .i64 (r)]) w
 refine cw_seq ?_
 refine cw_region ?_
 refine bxA H rfl rfl ?_; intro w1 b2 H
 refine alo H z_Part rfl ?_; intro w2 b4 H
 refine l1 (asI_r rfl) rfl rfl rfl ?_
 refine lw_nil ?_
 refine cw_seq ?_
 refine cw_seq ?_
 refine cw_region ?_
 refine l1 (ldW_r agg_Part rfl (H.ent (i := 1) rfl) rfl) rfl rfl rfl ?_
 refine cal cb_part_Check (pCheck_ok ⟨ep, ld, isr, iA, iC, kn, kA, kC, reps, rA, rC, fw, bs⟩ _ (Hp.pa H 0 rfl) hok) rfl rfl ?_
 rintro _ w3 ⟨rfl, hb⟩; replace H := H.later hb; clear hb
 refine l1 (asI_r rfl) rfl rfl rfl ?_
 refine lw_nil ?_
 refine cw_seq ?_
 refine cw_region ?_
 refine l1 (mvI_r rfl) rfl rfl rfl ?_
 refine l1 (neqF_r rfl rfl rfl) rfl rfl rfl ?_
 refine lw_nil ?_
 refine cw_false rfl ?_
 refine cw_skip ?_
 refine cw_seq ?_
 refine cw_seq ?_
 refine cw_region ?_
 refine l1 (mvI_r rfl) rfl rfl rfl ?_
 refine lwD (lss_r rfl rfl) rfl rfl rfl (fun h14 => ?_) (fun h14 => ?_)
 ·
  refine l1 (mvB_r rfl) rfl rfl rfl ?_
  refine lwN rfl rfl rfl ?_
  refine lwN rfl rfl rfl ?_
  refine lwN rfl rfl rfl ?_
  refine lwN rfl rfl rfl ?_
  refine lwN rfl rfl rfl ?_
  refine l1 (pkTB_r rfl rfl) rfl rfl rfl ?_
  refine lw_nil ?_
  refine cw_true rfl ?_
  refine cw_seq ?_
  refine cw_region ?_
  refine l1 (bld_r (cs := #[.int .i64 (0), .int .i64 (0), .slice none 0 0, .slice none 0 0, .slice none 0 0, .int .i64 (0), .int .i64 (0)]) st_Part z_Part (by kernel_rfl)) rfl rfl rfl ?_
  refine stN H 0 (#[.int .i64 (0), .int .i64 (0), .slice none 0 0, .slice none 0 0, .slice none 0 0, .int .i64 (0), .int .i64 (0)]) siz_Part rfl rfl rfl rfl rfl (by kernel_rfl) (by kernel_rfl) ?_; intro w4 H
  refine l1 (asI_r rfl) rfl rfl rfl ?_
  refine lw_nil ?_
  refine cw_ret ?_
  exact finCTn (cs0 := #[.int .i64 0, .int .i64 0, .slice none 0 0, .slice none 0 0, .slice none 0 0, .int .i64 0, .int .i64 0]) (v1 := .int .i64 5) rfl agg_Part rfl (H.ent (i := 0) rfl) rfl rfl ⟨rfl, H.below⟩
 ·
  refine l1 (mvB_r rfl) rfl rfl rfl ?_
  refine lwG rfl ?_
  refine l1 (mvI_r rfl) rfl rfl rfl ?_
  refine lwG rfl ?_
  refine l1 (fad_r fd_Part_4 rfl) rfl rfl rfl ?_
  refine lwG rfl ?_
  refine l1 (ld_r one_LReplica rfl (cellE (H.ent (i := 1) rfl) rfl)) rfl rfl rfl ?_
  refine lwG rfl ?_
  refine l1 (lenS_r len_LReplica rfl) rfl rfl rfl ?_
  refine lwG rfl ?_
  refine lwD (geq_r rfl rfl) rfl rfl rfl (fun h20 => ?_) (fun h20 => ?_)
  ·
   refine l1 (pkFB_r rfl rfl) rfl rfl rfl ?_
   refine lw_nil ?_
   refine cw_true rfl ?_
   refine cw_seq ?_
   refine cw_region ?_
   refine l1 (bld_r (cs := #[.int .i64 (0), .int .i64 (0), .slice none 0 0, .slice none 0 0, .slice none 0 0, .int .i64 (0), .int .i64 (0)]) st_Part z_Part (by kernel_rfl)) rfl rfl rfl ?_
   refine stN H 0 (#[.int .i64 (0), .int .i64 (0), .slice none 0 0, .slice none 0 0, .slice none 0 0, .int .i64 (0), .int .i64 (0)]) siz_Part rfl rfl rfl rfl rfl (by kernel_rfl) (by kernel_rfl) ?_; intro w5 H
   refine l1 (asI_r rfl) rfl rfl rfl ?_
   refine lw_nil ?_
   refine cw_ret ?_
   exact finCTn (cs0 := #[.int .i64 0, .int .i64 0, .slice none 0 0, .slice none 0 0, .slice none 0 0, .int .i64 0, .int .i64 0]) (v1 := .int .i64 5) rfl agg_Part rfl (H.ent (i := 0) rfl) rfl rfl ⟨rfl, H.below⟩
  ·
   exfalso; omega
set_option maxHeartbeats 4000000 in
set_option maxRecDepth 10000 in
theorem pAt_ok (p : Pa) (r : Nat) (w : World) (h : p.rd 0 w.heap.size w) (hok : p.a.ok) (hr : r < p.reps.length) : Ret Try.prog i_part_at [p.v, .int .i64 (r : Nat)] w fun v w2 => ∃ (p' : Pa) (g1 g2 g3 : Nat) (c1 c2 c3 : Array Value), v = .tuple #[p'.v, .int .i64 0] ∧ p'.a = p.a ∧ OwnPa w w2 p' g1 g2 g3 c1 c2 c3 := by
 refine ret_of fn_part_at rfl rfl ?_
 obtain ⟨hn1, hn2, hil, hkl, hf1, hf2, he0, he1, hl0, hl1, hb0, hb1, hsm⟩ := Pa.facts hok
 have hkn := hok.known
 have hiC := h.iC
 have hkC := h.kC
 have hrC := h.rC
 have hfew := h.few
 have H := Hp.startPa h
 obtain ⟨ep, ld, isr, iA, iC, kn, kA, kC, reps, rA, rC, fw, bs⟩ := p
 simp only [Pa.a] at hkn
 dsimp only at H hn1 hn2 hil hkl hf1 hf2 he0 he1 hl0 hl1 hb0 hb1 hsm hiC hkC hrC hfew
 dsimp only at hr
 show CW _ _ _ _ (args [.agg #[.int .i64 (ep), .int .i64 (ld), .slice iA isr.length iC, .slice kA kn.length kC, .slice rA reps.length rC, .int .i64 (fw), .int .i64 (bs)], .int .i64 (((r : Nat) : Int))]) w
 refine cw_seq ?_
 refine cw_region ?_
 refine bxA H rfl rfl ?_; intro w1 b2 H
 refine alo H z_Part rfl ?_; intro w2 b4 H
 refine l1 (asI_r rfl) rfl rfl rfl ?_
 refine lw_nil ?_
 refine cw_seq ?_
 refine cw_seq ?_
 refine cw_region ?_
 refine l1 (ldW_r agg_Part rfl (H.ent (i := 1) rfl) rfl) rfl rfl rfl ?_
 refine cal cb_part_Check (pCheck_ok ⟨ep, ld, isr, iA, iC, kn, kA, kC, reps, rA, rC, fw, bs⟩ _ (Hp.pa H 0 rfl) hok) rfl rfl ?_
 rintro _ w3 ⟨rfl, hb⟩; replace H := H.later hb; clear hb
 refine l1 (asI_r rfl) rfl rfl rfl ?_
 refine lw_nil ?_
 refine cw_seq ?_
 refine cw_region ?_
 refine l1 (mvI_r rfl) rfl rfl rfl ?_
 refine l1 (neqF_r rfl rfl rfl) rfl rfl rfl ?_
 refine lw_nil ?_
 refine cw_false rfl ?_
 refine cw_skip ?_
 refine cw_seq ?_
 refine cw_seq ?_
 refine cw_region ?_
 refine l1 (mvI_r rfl) rfl rfl rfl ?_
 refine l1 (lssF_r rfl rfl (by omega)) rfl rfl rfl ?_
 refine l1 (mvB_r rfl) rfl rfl rfl ?_
 refine lwG rfl ?_
 refine l1 (mvI_r rfl) rfl rfl rfl ?_
 refine lwG rfl ?_
 refine l1 (fad_r fd_Part_4 rfl) rfl rfl rfl ?_
 refine lwG rfl ?_
 refine l1 (ld_r one_LReplica rfl (cellE (H.ent (i := 1) rfl) rfl)) rfl rfl rfl ?_
 refine lwG rfl ?_
 refine l1 (lenS_r len_LReplica rfl) rfl rfl rfl ?_
 refine lwG rfl ?_
 refine l1 (geqF_r rfl rfl (by omega)) rfl rfl rfl ?_
 refine l1 (pkFB_r rfl rfl) rfl rfl rfl ?_
 refine lw_nil ?_
 refine cw_false rfl ?_
 refine cw_skip ?_
 refine cw_seq ?_
 refine cw_region ?_
 refine l1 (ldW_r agg_Part rfl (H.ent (i := 1) rfl) rfl) rfl rfl rfl ?_
 refine cal cb_part_Copy (pCopy_ok ⟨ep, ld, isr, iA, iC, kn, kA, kC, reps, rA, rC, fw, bs⟩ _ (Hp.pa H 0 rfl) hok) rfl rfl ?_
 rintro _ w4 ⟨⟨ep2, ld2, is2, iA2, c1, kn2, kA2, c2, rs, rA2, c3, fw2, bs2⟩, g1, g2, g3, u1, u2, u3, rfl, ha2, ho⟩
 simp only [Pa.a, PaA.mk.injEq] at ha2
 obtain ⟨e1, e2, e3, e4, hma, e6, e7⟩ := ha2
 obtain rfl : ep = ep2 := e1.symm
 obtain rfl : ld = ld2 := e2.symm
 obtain rfl : isr = is2 := e3.symm
 obtain rfl : kn = kn2 := e4.symm
 obtain rfl : fw = fw2 := e6.symm
 obtain rfl : bs = bs2 := e7.symm
 have hrl : rs.length = reps.length := by have := congrArg List.length hma; simpa using this
 obtain ⟨i1, i2, i3, row1, row2, row3, hcp, hlos, -, hjn⟩ := ho
 dsimp only at i1 i2 i3 row1 row2 row3 hcp hlos hjn
 subst i1; subst i2; subst i3
 have hlo0 := H.size
 replace H := H.joinF hjn (by intro f hf; obtain ⟨r, hr, rfl⟩ := List.mem_map.1 hf; exact hlos r hr)
 replace hlos : ∀ r ∈ rs, w.heap.size ≤ r.lo := fun r hr => Nat.le_trans hlo0 (hlos r hr)
 clear hjn
 refine stN H 3 (#[.int .i64 (ep), .int .i64 (ld), .slice (some ⟨g1, 0, none⟩) isr.length c1, .slice (some ⟨g2, 0, none⟩) kn.length c2, .slice (some ⟨g3, 0, none⟩) rs.length c3, .int .i64 (fw), .int .i64 (bs)]) siz_Part rfl rfl rfl rfl rfl (by kernel_rfl) (by kernel_rfl) ?_; intro w5 H
 refine l1 (asI_r rfl) rfl rfl rfl ?_
 refine lw_nil ?_
 refine cw_ret ?_
 exact finCTn (cs0 := #[.int .i64 (ep), .int .i64 (ld), .slice (some ⟨g1, 0, none⟩) isr.length c1, .slice (some ⟨g2, 0, none⟩) kn.length c2, .slice (some ⟨g3, 0, none⟩) rs.length c3, .int .i64 (fw), .int .i64 (bs)]) (v1 := .int .i64 0) rfl agg_Part rfl (H.ent (i := 3) rfl) rfl rfl ⟨⟨ep, ld, isr, _, c1, kn, _, c2, rs, _, c3, fw, bs⟩, g1, g2, g3, u1, u2, u3, rfl, by simp only [Pa.a, hma], ⟨rfl, rfl, rfl, row1, row2, row3, hcp, hlos, by dsimp only; omega, H.forget (.cons_cons _ (.cons_cons _ (.cons_cons _ (List.nil_sublist _)))) (fun f hf => List.mem_append_right _ hf)⟩⟩
set_option maxHeartbeats 4000000 in
set_option maxRecDepth 10000 in
theorem pLed_ok (p : Pa) (r : Nat) (w : World) (h : p.rd 0 w.heap.size w) (hok : p.a.ok) (hr : r < p.reps.length) (hl : 0 ≤ p.leader) (hne : p.leader ≠ r) : Ret Try.prog i_part_led [p.v, .int .i64 (r : Nat)] w fun v w2 => ∃ (p' : Pa) (g1 g2 g3 : Nat) (c1 c2 c3 : Array Value), v = .tuple #[p'.v, .int .i64 0] ∧ p'.a = p.a ∧ OwnPa w w2 p' g1 g2 g3 c1 c2 c3 := by
 refine ret_of fn_part_led rfl rfl ?_
 obtain ⟨hn1, hn2, hil, hkl, hf1, hf2, he0, he1, hl0, hl1, hb0, hb1, hsm⟩ := Pa.facts hok
 have hkn := hok.known
 have hiC := h.iC
 have hkC := h.kC
 have hrC := h.rC
 have hfew := h.few
 have H := Hp.startPa h
 obtain ⟨ep, ld, isr, iA, iC, kn, kA, kC, reps, rA, rC, fw, bs⟩ := p
 simp only [Pa.a] at hkn
 dsimp only at H hn1 hn2 hil hkl hf1 hf2 he0 he1 hl0 hl1 hb0 hb1 hsm hiC hkC hrC hfew
 dsimp only at hr hl hne
 show CW _ _ _ _ (args [.agg #[.int .i64 (ep), .int .i64 (ld), .slice iA isr.length iC, .slice kA kn.length kC, .slice rA reps.length rC, .int .i64 (fw), .int .i64 (bs)], .int .i64 (((r : Nat) : Int))]) w
 refine cw_seq ?_
 refine cw_region ?_
 refine bxA H rfl rfl ?_; intro w1 b2 H
 refine alo H z_Part rfl ?_; intro w2 b4 H
 refine l1 (asI_r rfl) rfl rfl rfl ?_
 refine lw_nil ?_
 refine cw_seq ?_
 refine cw_region ?_
 refine l1 (ldW_r agg_Part rfl (H.ent (i := 1) rfl) rfl) rfl rfl rfl ?_
 refine l1 (mvI_r rfl) rfl rfl rfl ?_
 refine cal cb_part_at (pAt_ok ⟨ep, ld, isr, iA, iC, kn, kA, kC, reps, rA, rC, fw, bs⟩ r _ (Hp.pa H 0 rfl) hok hr) rfl rfl ?_
 rintro _ w3 ⟨⟨ep2, ld2, is2, iA2, c1, kn2, kA2, c2, rs, rA2, c3, fw2, bs2⟩, g1, g2, g3, u1, u2, u3, rfl, ha2, ho⟩
 simp only [Pa.a, PaA.mk.injEq] at ha2
 obtain ⟨e1, e2, e3, e4, hma, e6, e7⟩ := ha2
 obtain rfl : ep = ep2 := e1.symm
 obtain rfl : ld = ld2 := e2.symm
 obtain rfl : isr = is2 := e3.symm
 obtain rfl : kn = kn2 := e4.symm
 obtain rfl : fw = fw2 := e6.symm
 obtain rfl : bs = bs2 := e7.symm
 have hrl : rs.length = reps.length := by have := congrArg List.length hma; simpa using this
 obtain ⟨i1, i2, i3, row1, row2, row3, hcp, hlos, -, hjn⟩ := ho
 dsimp only at i1 i2 i3 row1 row2 row3 hcp hlos hjn
 subst i1; subst i2; subst i3
 have hlo0 := H.size
 replace H := H.joinF hjn (by intro f hf; obtain ⟨r, hr, rfl⟩ := List.mem_map.1 hf; exact hlos r hr)
 replace hlos : ∀ r ∈ rs, w.heap.size ≤ r.lo := fun r hr => Nat.le_trans hlo0 (hlos r hr)
 clear hjn
 refine l1 (mvU_r rfl) rfl rfl rfl ?_
 refine l1 (exA_r rfl rfl) rfl rfl rfl ?_
 refine l1 (exI_r rfl rfl) rfl rfl rfl ?_
 refine stN H 4 (#[.int .i64 (ep), .int .i64 (ld), .slice (some ⟨g1, 0, none⟩) isr.length c1, .slice (some ⟨g2, 0, none⟩) kn.length c2, .slice (some ⟨g3, 0, none⟩) rs.length c3, .int .i64 (fw), .int .i64 (bs)]) siz_Part rfl rfl rfl rfl rfl (by kernel_rfl) (by kernel_rfl) ?_; intro w4 H
 refine l1 (asI_r rfl) rfl rfl rfl ?_
 refine lw_nil ?_
 refine cw_seq ?_
 refine cw_seq ?_
 refine cw_region ?_
 refine l1 (mvI_r rfl) rfl rfl rfl ?_
 refine l1 (neqF_r rfl rfl rfl) rfl rfl rfl ?_
 refine lw_nil ?_
 refine cw_false rfl ?_
 refine cw_skip ?_
 refine cw_seq ?_
 refine cw_seq ?_
 refine cw_region ?_
 refine l1 (fad_r fd_Part_1 rfl) rfl rfl rfl ?_
 refine l1 (ld_r one_int rfl (cellE (H.ent (i := 4) rfl) rfl)) rfl rfl rfl ?_
 refine l1 (lssF_r rfl rfl (by omega)) rfl rfl rfl ?_
 refine l1 (mvB_r rfl) rfl rfl rfl ?_
 refine lwG rfl ?_
 refine l1 (fad_r fd_Part_1 rfl) rfl rfl rfl ?_
 refine lwG rfl ?_
 refine l1 (ld_r one_int rfl (cellE (H.ent (i := 4) rfl) rfl)) rfl rfl rfl ?_
 refine lwG rfl ?_
 refine l1 (mvI_r rfl) rfl rfl rfl ?_
 refine lwG rfl ?_
 refine l1 (eqlF_r rfl rfl hne) rfl rfl rfl ?_
 refine l1 (pkFB_r rfl rfl) rfl rfl rfl ?_
 refine lw_nil ?_
 refine cw_false rfl ?_
 refine cw_skip ?_
 refine cw_seq ?_
 refine cw_region ?_
 refine l1 (ldW_r agg_Part rfl (H.ent (i := 4) rfl) rfl) rfl rfl rfl ?_
 refine stN H 3 (#[.int .i64 (ep), .int .i64 (ld), .slice (some ⟨g1, 0, none⟩) isr.length c1, .slice (some ⟨g2, 0, none⟩) kn.length c2, .slice (some ⟨g3, 0, none⟩) rs.length c3, .int .i64 (fw), .int .i64 (bs)]) siz_Part rfl rfl rfl rfl rfl (by kernel_rfl) (by kernel_rfl) ?_; intro w5 H
 refine l1 (asI_r rfl) rfl rfl rfl ?_
 refine lw_nil ?_
 refine cw_ret ?_
 exact finCTn (cs0 := #[.int .i64 (ep), .int .i64 (ld), .slice (some ⟨g1, 0, none⟩) isr.length c1, .slice (some ⟨g2, 0, none⟩) kn.length c2, .slice (some ⟨g3, 0, none⟩) rs.length c3, .int .i64 (fw), .int .i64 (bs)]) (v1 := .int .i64 0) rfl agg_Part rfl (H.ent (i := 3) rfl) rfl rfl ⟨⟨ep, ld, isr, _, c1, kn, _, c2, rs, _, c3, fw, bs⟩, g1, g2, g3, u1, u2, u3, rfl, by simp only [Pa.a, hma], ⟨rfl, rfl, rfl, row1, row2, row3, hcp, hlos, by dsimp only; omega, H.forget (.cons_cons _ (.cons_cons _ (.cons_cons _ (List.nil_sublist _)))) (fun f hf => List.mem_append_right _ hf)⟩⟩
set_option maxHeartbeats 4000000 in
set_option maxRecDepth 10000 in
theorem pLed_bad (p : Pa) (r : Nat) (w : World) (h : p.rd 0 w.heap.size w) (hok : p.a.ok) (hr : r < p.reps.length) (hl : p.leader < 0 ∨ p.leader = r) : Ret Try.prog i_part_led [p.v, .int .i64 (r : Nat)] w fun v w2 => v = .tuple #[.agg #[.int .i64 0, .int .i64 0, .slice none 0 0, .slice none 0 0, .slice none 0 0, .int .i64 0, .int .i64 0], .int .i64 8] ∧ Below w.heap.size w w2 := by
 refine ret_of fn_part_led rfl rfl ?_
 obtain ⟨hn1, hn2, hil, hkl, hf1, hf2, he0, he1, hl0, hl1, hb0, hb1, hsm⟩ := Pa.facts hok
 have hkn := hok.known
 have hiC := h.iC
 have hkC := h.kC
 have hrC := h.rC
 have hfew := h.few
 have H := Hp.startPa h
 obtain ⟨ep, ld, isr, iA, iC, kn, kA, kC, reps, rA, rC, fw, bs⟩ := p
 simp only [Pa.a] at hkn
 dsimp only at H hn1 hn2 hil hkl hf1 hf2 he0 he1 hl0 hl1 hb0 hb1 hsm hiC hkC hrC hfew
 dsimp only at hr hl
 show CW _ _ _ _ (args [.agg #[.int .i64 (ep), .int .i64 (ld), .slice iA isr.length iC, .slice kA kn.length kC, .slice rA reps.length rC, .int .i64 (fw), .int .i64 (bs)], .int .i64 (((r : Nat) : Int))]) w
 refine cw_seq ?_
 refine cw_region ?_
 refine bxA H rfl rfl ?_; intro w1 b2 H
 refine alo H z_Part rfl ?_; intro w2 b4 H
 refine l1 (asI_r rfl) rfl rfl rfl ?_
 refine lw_nil ?_
 refine cw_seq ?_
 refine cw_region ?_
 refine l1 (ldW_r agg_Part rfl (H.ent (i := 1) rfl) rfl) rfl rfl rfl ?_
 refine l1 (mvI_r rfl) rfl rfl rfl ?_
 refine cal cb_part_at (pAt_ok ⟨ep, ld, isr, iA, iC, kn, kA, kC, reps, rA, rC, fw, bs⟩ r _ (Hp.pa H 0 rfl) hok hr) rfl rfl ?_
 rintro _ w3 ⟨⟨ep2, ld2, is2, iA2, c1, kn2, kA2, c2, rs, rA2, c3, fw2, bs2⟩, g1, g2, g3, u1, u2, u3, rfl, ha2, ho⟩
 simp only [Pa.a, PaA.mk.injEq] at ha2
 obtain ⟨e1, e2, e3, e4, hma, e6, e7⟩ := ha2
 obtain rfl : ep = ep2 := e1.symm
 obtain rfl : ld = ld2 := e2.symm
 obtain rfl : isr = is2 := e3.symm
 obtain rfl : kn = kn2 := e4.symm
 obtain rfl : fw = fw2 := e6.symm
 obtain rfl : bs = bs2 := e7.symm
 have hrl : rs.length = reps.length := by have := congrArg List.length hma; simpa using this
 obtain ⟨i1, i2, i3, row1, row2, row3, hcp, hlos, -, hjn⟩ := ho
 dsimp only at i1 i2 i3 row1 row2 row3 hcp hlos hjn
 subst i1; subst i2; subst i3
 have hlo0 := H.size
 replace H := H.joinF hjn (by intro f hf; obtain ⟨r, hr, rfl⟩ := List.mem_map.1 hf; exact hlos r hr)
 replace hlos : ∀ r ∈ rs, w.heap.size ≤ r.lo := fun r hr => Nat.le_trans hlo0 (hlos r hr)
 clear hjn
 refine l1 (mvU_r rfl) rfl rfl rfl ?_
 refine l1 (exA_r rfl rfl) rfl rfl rfl ?_
 refine l1 (exI_r rfl rfl) rfl rfl rfl ?_
 refine stN H 4 (#[.int .i64 (ep), .int .i64 (ld), .slice (some ⟨g1, 0, none⟩) isr.length c1, .slice (some ⟨g2, 0, none⟩) kn.length c2, .slice (some ⟨g3, 0, none⟩) rs.length c3, .int .i64 (fw), .int .i64 (bs)]) siz_Part rfl rfl rfl rfl rfl (by kernel_rfl) (by kernel_rfl) ?_; intro w4 H
 refine l1 (asI_r rfl) rfl rfl rfl ?_
 refine lw_nil ?_
 refine cw_seq ?_
 refine cw_seq ?_
 refine cw_region ?_
 refine l1 (mvI_r rfl) rfl rfl rfl ?_
 refine l1 (neqF_r rfl rfl rfl) rfl rfl rfl ?_
 refine lw_nil ?_
 refine cw_false rfl ?_
 refine cw_skip ?_
 refine cw_seq ?_
 refine cw_seq ?_
 refine cw_region ?_
 refine l1 (fad_r fd_Part_1 rfl) rfl rfl rfl ?_
 refine l1 (ld_r one_int rfl (cellE (H.ent (i := 4) rfl) rfl)) rfl rfl rfl ?_
 refine lwD (lss_r rfl rfl) rfl rfl rfl (fun h19 => ?_) (fun h19 => ?_)
 ·
  refine l1 (mvB_r rfl) rfl rfl rfl ?_
  refine lwN rfl rfl rfl ?_
  refine lwN rfl rfl rfl ?_
  refine lwN rfl rfl rfl ?_
  refine lwN rfl rfl rfl ?_
  refine l1 (pkTB_r rfl rfl) rfl rfl rfl ?_
  refine lw_nil ?_
  refine cw_true rfl ?_
  refine cw_seq ?_
  refine cw_region ?_
  refine l1 (bld_r (cs := #[.int .i64 (0), .int .i64 (0), .slice none 0 0, .slice none 0 0, .slice none 0 0, .int .i64 (0), .int .i64 (0)]) st_Part z_Part (by kernel_rfl)) rfl rfl rfl ?_
  refine stN H 3 (#[.int .i64 (0), .int .i64 (0), .slice none 0 0, .slice none 0 0, .slice none 0 0, .int .i64 (0), .int .i64 (0)]) siz_Part rfl rfl rfl rfl rfl (by kernel_rfl) (by kernel_rfl) ?_; intro w5 H
  refine l1 (asI_r rfl) rfl rfl rfl ?_
  refine lw_nil ?_
  refine cw_ret ?_
  exact finCTn (cs0 := #[.int .i64 0, .int .i64 0, .slice none 0 0, .slice none 0 0, .slice none 0 0, .int .i64 0, .int .i64 0]) (v1 := .int .i64 8) rfl agg_Part rfl (H.ent (i := 3) rfl) rfl rfl ⟨rfl, H.below⟩
 ·
  refine l1 (mvB_r rfl) rfl rfl rfl ?_
  refine lwG rfl ?_
  refine l1 (fad_r fd_Part_1 rfl) rfl rfl rfl ?_
  refine lwG rfl ?_
  refine l1 (ld_r one_int rfl (cellE (H.ent (i := 4) rfl) rfl)) rfl rfl rfl ?_
  refine lwG rfl ?_
  refine l1 (mvI_r rfl) rfl rfl rfl ?_
  refine lwG rfl ?_
  refine lwD (eql_r rfl rfl) rfl rfl rfl (fun h24 => ?_) (fun h24 => ?_)
  ·
   refine l1 (pkFB_r rfl rfl) rfl rfl rfl ?_
   refine lw_nil ?_
   refine cw_true rfl ?_
   refine cw_seq ?_
   refine cw_region ?_
   refine l1 (bld_r (cs := #[.int .i64 (0), .int .i64 (0), .slice none 0 0, .slice none 0 0, .slice none 0 0, .int .i64 (0), .int .i64 (0)]) st_Part z_Part (by kernel_rfl)) rfl rfl rfl ?_
   refine stN H 3 (#[.int .i64 (0), .int .i64 (0), .slice none 0 0, .slice none 0 0, .slice none 0 0, .int .i64 (0), .int .i64 (0)]) siz_Part rfl rfl rfl rfl rfl (by kernel_rfl) (by kernel_rfl) ?_; intro w6 H
   refine l1 (asI_r rfl) rfl rfl rfl ?_
   refine lw_nil ?_
   refine cw_ret ?_
   exact finCTn (cs0 := #[.int .i64 0, .int .i64 0, .slice none 0 0, .slice none 0 0, .slice none 0 0, .int .i64 0, .int .i64 0]) (v1 := .int .i64 8) rfl agg_Part rfl (H.ent (i := 3) rfl) rfl rfl ⟨rfl, H.below⟩
  ·
   exfalso; omega
set_option maxHeartbeats 4000000 in
set_option maxRecDepth 10000 in
theorem pAdv_ok {w0 w : World} {M : List (Nat × Obj)} {F : List Fact} {g1 g2 g3 : Nat} {u1 u2 u3 : Array Value} (ep ld : Int) (isr : List Bool) (iC : Nat) (kn : List Int) (kC : Nat) (reps : List Rep) (rC : Nat) (fw bs : Int) (l : Nat) (r : Rep)
  (H : Hp w0 w ((g1, .cells u1 T_bool (0, 0)) :: (g2, .cells u2 T_int (0, 0)) :: (g3, .cells u3 T_Replica (0, 0)) :: M) F) (row1 : Row boolL isr iC u1) (row2 : Row intL kn kC u2) (row3 : Row repL reps rC u3) (hil : isr.length = reps.length) (hkl : kn.length = reps.length) (hn : reps.length ≤ 5) (hld : ld = l) (hr : reps[l]? = some r) (hF : repF r ∈ F) (hg : GL r.es r.s) (hc : (flat r.es).length ≤ r.cap) :
  Ret Try.prog i_part_advance [.agg #[.int .i64 (ep), .int .i64 (ld), .slice (some ⟨g1, 0, none⟩) isr.length iC, .slice (some ⟨g2, 0, none⟩) kn.length kC, .slice (some ⟨g3, 0, none⟩) reps.length rC, .int .i64 (fw), .int .i64 (bs)]] w fun v w2 => ∃ u4, v = .agg #[.int .i64 (ep), .int .i64 (ld), .slice (some ⟨g1, 0, none⟩) isr.length iC, .slice (some ⟨g2, 0, none⟩) kn.length kC, .slice (some ⟨g3, 0, none⟩) reps.length rC, .int .i64 (fw), .int .i64 (bs)] ∧ Row repL (reps.set l { r with high := max r.high (min (leastA isr kn 400) (r.es.length : Nat)) }) rC u4 ∧ Hp w0 w2 ((g1, .cells u1 T_bool (0, 0)) :: (g2, .cells u2 T_int (0, 0)) :: (g3, .cells u4 T_Replica (0, 0)) :: M) F := by
 refine ret_of fn_part_advance rfl rfl ?_
 have hll := (getE hr).1
 refine cw_seq ?_
 refine cw_region ?_
 refine bxA H rfl rfl ?_; intro w1 b1 H
 refine alo H z_Part rfl ?_; intro w2 b2 H
 refine lw_nil ?_
 refine cw_seq ?_
 refine cw_seq ?_
 refine cw_region ?_
 refine l1 (fad_r fd_Part_1 rfl) rfl rfl rfl ?_
 refine l1 (ld_r one_int rfl (cellE (H.ent (i := 1) rfl) rfl)) rfl rfl rfl ?_
 refine l1 (lssF_r rfl rfl (by omega)) rfl rfl rfl ?_
 refine lw_nil ?_
 refine cw_false rfl ?_
 refine cw_skip ?_
 refine cw_seq ?_
 refine cw_region ?_
 refine l1 (asI_r rfl) rfl rfl rfl ?_
 refine lw_nil ?_
 refine cw_seq ?_
 refine cw_seq ?_
 refine cw_region ?_
 refine l1 (fad_r fd_Part_3 rfl) rfl rfl rfl ?_
 refine l1 (ld_r one_Lint rfl (cellE (H.ent (i := 1) rfl) rfl)) rfl rfl rfl ?_
 refine l1 (lenS_r len_Lint rfl) rfl rfl rfl ?_
 refine l1 (mvI_r rfl) rfl rfl rfl ?_
 refine lw_nil ?_
 refine cw_block ?_
 refine cw_loop (τ := Nat × Int) [3, 4, 5, 16, 17, 18, 19, 20, 21, 22, 23, 24, 25, 26, 27, 28, 29] (fun (k, m) => [(16, .int .i64 (k : Nat)), (3, .int .i64 m)]) (fun (k, m) w' => k ≤ kn.length ∧ leastA (isr.drop k) (kn.drop k) m = leastA isr kn 400 ∧ Hp w0 w' ((b2, .cells #[.int .i64 0, .int .i64 0, .slice none 0 0, .slice none 0 0, .slice none 0 0, .int .i64 0, .int .i64 0] T_Part (0, 0)) :: (b1, .cells #[.int .i64 (ep), .int .i64 (ld), .slice (some ⟨g1, 0, none⟩) isr.length iC, .slice (some ⟨g2, 0, none⟩) kn.length kC, .slice (some ⟨g3, 0, none⟩) reps.length rC, .int .i64 (fw), .int .i64 (bs)] T_Part (0, 0)) :: (g1, .cells u1 T_bool (0, 0)) :: (g2, .cells u2 T_int (0, 0)) :: (g3, .cells u3 T_Replica (0, 0)) :: M) F) (fun (k, _) => kn.length - k) (0, 400) ⟨by omega, rfl, H⟩ (sl2 rfl rfl) ?_
 rintro ⟨k, m⟩ ρ1 w3 ⟨hk, hm, H⟩
 show CW _ _ _ _ (updL (ovr _ _ ρ1) [(16, .int .i64 (k : Nat)), (3, .int .i64 m)]) w3
 refine cw_seq ?_
 refine cw_region ?_
 refine lwD (lss_r rfl rfl) rfl rfl rfl (fun h17 => ?_) (fun h17 => ?_)
 ·
  refine lw_nil ?_
  refine cw_seq ?_
  refine cw_true rfl ?_
  refine cw_skip ?_
  refine cw_seq ?_
  refine cw_block ?_
  refine cw_seq ?_
  obtain ⟨n, hn_⟩ : ∃ n, kn[k]? = some n := ⟨_, List.getElem?_eq_getElem (by omega)⟩
  obtain ⟨b, hb_⟩ : ∃ b, isr[k]? = some b := ⟨_, List.getElem?_eq_getElem (by omega)⟩
  refine cw_region ?_
  refine l1 (mvI_r rfl) rfl rfl rfl ?_
  refine l1 (ixR_r sl_Lint rfl rfl (by first | omega | (simp only [List.length_set]; omega))) rfl rfl rfl ?_
  refine l1 (ldR_r one_int row2 hn_ 0 rfl (H.ent (i := 3) rfl) rfl) rfl rfl rfl ?_
  refine l1 (asI_r rfl) rfl rfl rfl ?_
  refine l1 (asI_r rfl) rfl rfl rfl ?_
  refine lw_nil ?_
  refine cw_seq ?_
  refine cw_region ?_
  refine l1 (fad_r fd_Part_2 rfl) rfl rfl rfl ?_
  refine l1 (ld_r one_Lbool rfl (cellE (H.ent (i := 1) rfl) rfl)) rfl rfl rfl ?_
  refine l1 (mvI_r rfl) rfl rfl rfl ?_
  refine l1 (ixR_r sl_Lbool rfl rfl (by first | omega | (simp only [List.length_set]; omega))) rfl rfl rfl ?_
  refine lwB (ldR_r one_bool row1 hb_ 0 rfl (H.ent (i := 2) rfl) rfl) rfl rfl rfl (fun h25 => ?_) (fun h25 => ?_)
  ·
   refine lw_nil ?_
   refine cw_true rfl ?_
   refine cw_region ?_
   refine l1 (mvI_r rfl) rfl rfl rfl ?_
   refine l1 (mvI_r rfl) rfl rfl rfl ?_
   refine l1 (minI_r rfl rfl) rfl rfl rfl ?_
   refine l1 (asI_r rfl) rfl rfl rfl ?_
   refine lw_nil ?_
   refine cw_region ?_
   refine l1 (add_r rfl rfl (by omega) (by omega)) rfl rfl rfl ?_
   refine l1 (mvI_r rfl) rfl rfl rfl ?_
   refine lw_nil ?_
   refine ⟨(k + 1, min m n), ⟨by omega, by rw [← hm, least_step hb_ hn_]; rw [if_pos h25], H⟩, sl2 rfl rfl, by repeat (first | exact Agr.refl _ _ | exact agr_ovr | refine agr_upd rfl ?_ | refine agr_updL _ rfl ?_ | refine agr_ovr2 rfl ?_), by show kn.length - (k + 1) < kn.length - k; omega⟩
  ·
   refine lw_nil ?_
   refine cw_false rfl ?_
   refine cw_skip ?_
   refine cw_region ?_
   refine l1 (add_r rfl rfl (by omega) (by omega)) rfl rfl rfl ?_
   refine l1 (mvI_r rfl) rfl rfl rfl ?_
   refine lw_nil ?_
   refine ⟨(k + 1, m), ⟨by omega, by rw [← hm, least_step hb_ hn_]; rw [if_neg (by simp [h25])], H⟩, sl2 rfl rfl, by repeat (first | exact Agr.refl _ _ | exact agr_ovr | refine agr_upd rfl ?_ | refine agr_updL _ rfl ?_ | refine agr_ovr2 rfl ?_), by show kn.length - (k + 1) < kn.length - k; omega⟩
 ·
  have hke : k = kn.length := by omega
  have hm2 : m = leastA isr kn 400 := by rw [← hm, hke, List.drop_length]; cases (isr.drop kn.length) <;> rfl
  refine lw_nil ?_
  refine cw_seq ?_
  refine cw_false rfl ?_
  refine cw_exit ?_
  refine cw_seq ?_
  refine cw_region ?_
  refine l1 (ldW_r agg_Part rfl (H.ent (i := 1) rfl) rfl) rfl rfl rfl ?_
  refine l1 (fad_r fd_Part_1 rfl) rfl rfl rfl ?_
  refine l1 (ld_r one_int rfl (cellE (H.ent (i := 1) rfl) rfl)) rfl rfl rfl ?_
  refine cal cb_part_ends (by have hE := pEnds_ok ⟨ep, ld, isr, some ⟨g1, 0, none⟩, iC, kn, some ⟨g2, 0, none⟩, kC, reps, some ⟨g3, 0, none⟩, rC, fw, bs⟩ l r _ (row3.rd0 (H.ent (i := 4) rfl)) hr (own_log1 H hF hg hc); rw [← hld] at hE; exact hE) rfl rfl ?_
  rintro _ w4 ⟨rfl, hb⟩; replace H := H.later hb; clear hb
  refine l1 (mvU_r rfl) rfl rfl rfl ?_
  refine l1 (exI_r rfl rfl) rfl rfl rfl ?_
  refine l1 (exI_r rfl rfl) rfl rfl rfl ?_
  refine l1 (asI_r rfl) rfl rfl rfl ?_
  refine l1 (asI_r rfl) rfl rfl rfl ?_
  refine lw_nil ?_
  refine cw_seq ?_
  refine cw_region ?_
  refine l1 (fad_r fd_Part_4 rfl) rfl rfl rfl ?_
  refine l1 (ld_r one_LReplica rfl (cellE (H.ent (i := 1) rfl) rfl)) rfl rfl rfl ?_
  refine l1 (fad_r fd_Part_1 rfl) rfl rfl rfl ?_
  refine l1 (ld_r one_int rfl (cellE (H.ent (i := 1) rfl) rfl)) rfl rfl rfl ?_
  refine l1 (ixR_r (k := l) sl_LReplica rfl (congrArg (Value.int .i64) hld) (by first | omega | (simp only [List.length_set]; omega))) rfl rfl rfl ?_
  refine l1 (asP_r rfl) rfl rfl rfl ?_
  refine lw_nil ?_
  refine cw_seq ?_
  refine cw_region ?_
  refine l1 (mvP_r rfl) rfl rfl rfl ?_
  refine l1 (mvP_r rfl) rfl rfl rfl ?_
  refine l1 (nck_r rfl) rfl rfl rfl ?_
  refine l1 (fad_r fd_Replica_2 rfl) rfl rfl rfl ?_
  refine l1 (ldR_r one_int row3 hr 3 rfl (H.ent (i := 4) rfl) rfl) rfl rfl rfl ?_
  refine l1 (mvI_r rfl) rfl rfl rfl ?_
  refine l1 (mvI_r rfl) rfl rfl rfl ?_
  refine l1 (minI_r rfl rfl) rfl rfl rfl ?_
  refine l1 (maxI_r rfl rfl) rfl rfl rfl ?_
  refine l1 (nck_r rfl) rfl rfl rfl ?_
  refine l1 (fad_r fd_Replica_2 rfl) rfl rfl rfl ?_
  refine stR H 4 ({ r with high := max r.high (min m (r.es.length : Nat)) }) siz_int row3 hr 3 rfl rfl rfl rfl rfl rfl (by kernel_rfl) ?_; intro w6 cur5 row5 H
  have hs7 : (reps.set l ({ r with high := max r.high (min m (r.es.length : Nat)) }))[l]? = some ({ r with high := max r.high (min m (r.es.length : Nat)) }) := List.getElem?_set_self (getE hr).1
  refine lw_nil ?_
  refine cw_seq ?_
  refine cw_region ?_
  refine l1 (ldW_r agg_Part rfl (H.ent (i := 1) rfl) rfl) rfl rfl rfl ?_
  refine stN H 0 (#[.int .i64 (ep), .int .i64 (ld), .slice (some ⟨g1, 0, none⟩) isr.length iC, .slice (some ⟨g2, 0, none⟩) kn.length kC, .slice (some ⟨g3, 0, none⟩) reps.length rC, .int .i64 (fw), .int .i64 (bs)]) siz_Part rfl rfl rfl rfl rfl (by kernel_rfl) (by kernel_rfl) ?_; intro w8 H
  refine lw_nil ?_
  refine cw_ret ?_
  exact finC (cs0 := #[.int .i64 (ep), .int .i64 (ld), .slice (some ⟨g1, 0, none⟩) isr.length iC, .slice (some ⟨g2, 0, none⟩) kn.length kC, .slice (some ⟨g3, 0, none⟩) reps.length rC, .int .i64 (fw), .int .i64 (bs)]) rfl agg_Part rfl (H.ent (i := 0) rfl) rfl ⟨_, rfl, hm2 ▸ row5, H.forget (.cons _ (.cons _ (List.Sublist.refl _))) (fun _ h => h)⟩
end Go.Proofs.Ytemnchkebhclpaa
end
