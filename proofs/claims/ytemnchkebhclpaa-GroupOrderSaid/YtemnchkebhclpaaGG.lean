/- GG: a part of the proofs over this seat: what stands in its theorems holds for every input that they name. -/
import Derived.Test.YtemnchkebhclpaaGF
import Derived.Test.YtemnchkebhclpaaGU
import Derived.Test.YtemnchkebhclpaaGS
import Derived.Test.YtemnchkebhclpaaEngZ
open Go.Eng renaming lw_nil → Zn, cw_seq → Zs, cw_region → Zr, cw_skip → Zk, cw_ret → Zt, cw_block → Zb, cw_exit → Zx, mvI_r → Yi, mvB_r → Yb, mvS_r → Ys, mvP_r → Yp, mvT_r → Yt, mvU_r → Yu, mvA_r → Ya, asI_r → Wi, asB_r → Wb, asS_r → Ws, asP_r → Wp, asT_r → Wt, fad_r → Zf, exI_r → Xi, exA_r → Xa, exB_r → Xb, exS_r → Xs, pkTB_r → Kt, pkFB_r → Kf, cw_true → ZT, cw_false → ZF
section
namespace Go.Proofs.Ytemnchkebhclpaa
open Go Go.Eng Go.RowKit
set_option linter.unusedSimpArgs false
/-- a member, and where its parts lie -/
structure Mem where
 name : ByteArray
 heard : Int
 parts : List Int
 A : Option Addr
 cap : Nat
 lo : Nat
 hi : Nat
def Mem.c (m : Mem) : List Value := [.string m.name, .int .i64 m.heard, .slice m.A m.parts.length m.cap]
def memL : Lay Mem := ⟨Mem.c, 3, fun _ => rfl, by decide, fun a u hu => by
 simp only [Mem.c, List.mem_cons, List.mem_nil_iff, or_false] at hu
 rcases hu with h | h | h <;> subst h <;> rfl⟩
structure Off where
 part : Int
 at_ : Int
def Off.c (o : Off) : List Value := [.int .i64 o.part, .int .i64 o.at_]
def offL : Lay Off := ⟨Off.c, 2, fun _ => rfl, by decide, fun a u hu => by
 simp only [Off.c, List.mem_cons, List.mem_nil_iff, or_false] at hu
 rcases hu with h | h <;> subst h <;> rfl⟩
structure Gr where
 clock : Int
 wait : Int
 gen : Int
 ms : List Mem
 mA : Option Addr
 mC : Nat
 os : List Off
 oA : Option Addr
 oC : Nat
def Gr.c (g : Gr) : List Value := [.int .i64 g.clock, .int .i64 g.wait, .int .i64 g.gen, .slice g.mA g.ms.length g.mC, .slice g.oA g.os.length g.oC]
abbrev Gr.v (g : Gr) : Value := .agg g.c.toArray
def Mem.a (m : Mem) : Mem := { m with A := none, cap := 0, lo := 0, hi := 0 }
abbrev memF (m : Mem) : Fact := FRd intL m.lo m.hi m.A m.parts
def Gr.a (g : Gr) : Gr := { g with ms := g.ms.map Mem.a, mA := none, mC := 0, oA := none, oC := 0 }
/-- P6.3: of one member -/
def memOk (ck : Int) (m : Mem) : Bool := nameOk m.name && decide (0 ≤ m.heard) && decide (m.heard ≤ ck) && partsOk (-1) m.parts
def sameMem (m p : Mem) : Bool := decide (p.name = m.name)
def memsOk (ck : Int) : List Mem → List Mem → Bool
 | _, [] => true
 | pre, m :: l => memOk ck m && !(pre.any (sameMem m)) && memsOk ck (pre ++ [m]) l
def offsOk : Int → List Off → Bool
 | _, [] => true
 | last, o :: l => decide (last < o.part) && decide (o.part < 4) && decide (0 ≤ o.at_) && decide (o.at_ ≤ 400) && offsOk o.part l
def grOk (g : Gr) : Bool := inNum g.clock && decide (1 ≤ g.wait) && decide (g.wait ≤ 1000) && inNum g.gen && decide ((g.ms.length : Int) ≤ 6) && decide ((g.os.length : Int) ≤ 4) && memsOk g.clock [] g.ms && offsOk (-1) g.os
theorem grOk_iff {g : Gr} : grOk g = true ↔ inNum g.clock = true ∧ 1 ≤ g.wait ∧ g.wait ≤ 1000 ∧ inNum g.gen = true ∧ (g.ms.length : Int) ≤ 6 ∧ (g.os.length : Int) ≤ 4 ∧ memsOk g.clock [] g.ms = true ∧ offsOk (-1) g.os = true := by
 unfold grOk
 simp only [Bool.and_eq_true, decide_eq_true_eq, and_assoc]
theorem memOk_iff {ck : Int} {m : Mem} : memOk ck m = true ↔ nameOk m.name = true ∧ 0 ≤ m.heard ∧ m.heard ≤ ck ∧ partsOk (-1) m.parts = true := by
 unfold memOk
 simp only [Bool.and_eq_true, decide_eq_true_eq, and_assoc]
/-- the parts of each member, to be read -/
def FMp (lo hi : Nat) (ms : List Mem) : Fact := ⟨lo, hi, fun w => ∀ m ∈ ms, Rd intL lo hi m.A m.parts w, fun _ _ hk h m hm => (h m hm).st hk⟩
theorem mp0 {w0 w : World} {L : List (Nat × Obj)} {F : List Fact} {lo hi : Nat} {ms : List Mem} (H : Hp w0 w L F) (i : Nat) (hF : F[i]? = some (FMp lo hi ms)) {m : Mem} (hm : m ∈ ms) : Rd intL 0 w.heap.size m.A m.parts w :=
 Rd.mono ((H.fact hF) m hm) (Nat.zero_le _) (H.facts _ (List.mem_of_getElem? hF)).2.1
/-- one member's parts -/
theorem Hp.mpRow {w0 w : World} {L : List (Nat × Obj)} {F : List Fact} {lo hi : Nat} {ms : List Mem} (H : Hp w0 w L F) (i : Nat) (hF : F[i]? = some (FMp lo hi ms)) {m : Mem} (hm : m ∈ ms) : Hp w0 w L (FRd intL lo hi m.A m.parts :: F) := by
 refine ⟨H.below, H.ents, H.nodup, fun f hf => ?_⟩
 rcases List.mem_cons.1 hf with rfl | hf
 ·
  obtain ⟨h1, h2, h3⟩ := H.facts _ (List.mem_of_getElem? hF)
  exact ⟨h1 m hm, h2, h3⟩
 ·
  exact H.facts f hf
/-- what a group needs of the memory -/
structure Gr.rd (g : Gr) (lo hi : Nat) (w : World) : Prop where
 row : Rd memL lo hi g.mA g.ms w
 parts : ∀ m ∈ g.ms, Rd intL lo hi m.A m.parts w
 offs : Rd offL lo hi g.oA g.os w
 mC : g.ms.length ≤ g.mC
 oC : g.os.length ≤ g.oC
 few : g.ms.length ≤ 1000000 ∧ g.os.length ≤ 1000000
 fewP : ∀ m ∈ g.ms, m.parts.length ≤ 1000000 ∧ m.parts.length ≤ m.cap
theorem Gr.rd.st {g : Gr} {lo hi : Nat} {w w' : World} (hk : ∀ k, lo ≤ k → k < hi → w'.heap[k]? = w.heap[k]?) (h : g.rd lo hi w) : g.rd lo hi w' :=
 ⟨h.row.st hk, fun m hm => (h.parts m hm).st hk, h.offs.st hk, h.mC, h.oC, h.few, h.fewP⟩
theorem Gr.rd.mono {g : Gr} {lo hi lo' hi' : Nat} {w : World} (h : g.rd lo hi w) (hl : lo' ≤ lo) (hh : hi ≤ hi') : g.rd lo' hi' w :=
 ⟨h.row.mono hl hh, fun m hm => (h.parts m hm).mono hl hh, h.offs.mono hl hh, h.mC, h.oC, h.few, h.fewP⟩
def FGr (lo hi : Nat) (g : Gr) : Fact := ⟨lo, hi, g.rd lo hi, fun _ _ hk h => h.st hk⟩
theorem Hp.gr {w0 w : World} {L : List (Nat × Obj)} {F : List Fact} {lo hi : Nat} {g : Gr} (H : Hp w0 w L F) (i : Nat) (hF : F[i]? = some (FGr lo hi g)) : g.rd 0 w.heap.size w :=
 Gr.rd.mono (H.fact hF) (Nat.zero_le _) (H.facts _ (List.mem_of_getElem? hF)).2.1
theorem Hp.startGr {g : Gr} {w : World} (h : g.rd 0 w.heap.size w) : Hp w w [] [FRd memL 0 w.heap.size g.mA g.ms, FMp 0 w.heap.size g.ms, FRd offL 0 w.heap.size g.oA g.os] :=
 (((Hp.start w).learnOld (FRd offL 0 w.heap.size g.oA g.os) h.offs (Nat.le_refl _)).learnOld (FMp 0 w.heap.size g.ms) h.parts (Nat.le_refl _)).learnOld (FRd memL 0 w.heap.size g.mA g.ms) h.row (Nat.le_refl _)
/-- a group that a call has made, to be read -/
def NewGr (w w2 : World) (g : Gr) : Prop := g.rd w.heap.size w2.heap.size w2 ∧ Below w.heap.size w w2
def zGr : Gr := ⟨0, 0, 0, [], none, 0, [], none, 0⟩
theorem zGr_new {w w2 : World} (h : Below w.heap.size w w2) : NewGr w w2 zGr := ⟨⟨Rd.nil, by simp [zGr], Rd.nil, by simp [zGr], by simp [zGr], by simp [zGr], by simp [zGr]⟩, h⟩
/-- a group that a call has made, its rows the caller's own -/
def OwnGr (w w2 : World) (ga g' : Gr) (Lm Lo : List (Nat × Obj)) : Prop := g'.a = ga ∧ Own memL (.slice g'.mA g'.ms.length g'.mC) T_Member g'.ms Lm ∧ Own offL (.slice g'.oA g'.os.length g'.oC) T_Offset g'.os Lo ∧ g'.ms.length ≤ g'.mC ∧ g'.os.length ≤ g'.oC ∧ (∀ m ∈ g'.ms, m.parts.length ≤ m.cap ∧ w.heap.size ≤ m.lo) ∧ Hp w w2 (Lm ++ Lo) (g'.ms.map memF)
theorem OwnGr.new {w w2 : World} {ga g' : Gr} {Lm Lo : List (Nat × Obj)} (h : OwnGr w w2 ga g' Lm Lo) (h1 : g'.ms.length ≤ 6) (h2 : g'.os.length ≤ 1000000) (h3 : ∀ m ∈ g'.ms, m.parts.length ≤ 4) : NewGr w w2 g' := by
 obtain ⟨_, a2, a3, a4, a5, a6, a8⟩ := h
 have h0 : Hp w w2 (Lm ++ Lo) [] := a8.forget (List.Sublist.refl _) (by simp)
 refine ⟨⟨a2.rd (K := []) (M := Lo) (by simpa using h0), fun m hm => ?_, a3.rd (K := Lm) (M := []) (by simpa using h0), a4, a5, by omega, fun m hm => ⟨by have := h3 m hm; omega, (a6 m hm).1⟩⟩, a8.below⟩
 obtain ⟨f1, f2, -⟩ := a8.facts (memF m) (List.mem_map_of_mem hm)
 exact Rd.mono f1 (a6 m hm).2 f2
theorem own_type {α : Type} {Y : Lay α} {v : Value} {e : TypeId} {es : List α} {L : List (Nat × Obj)} (h : Own Y v e es L) : ∀ x ∈ L, ∃ cur, x.2 = .cells cur e (0, 0) := by
 rcases h.2 with ⟨rfl, _⟩ | ⟨g, cap, cur, rfl, _⟩
 ·
  intro x hx; cases hx
 ·
  intro x hx; rw [List.mem_singleton.1 hx]; exact ⟨cur, rfl⟩
/-- two rows that two calls have made, in whatever order -/
theorem Hp.join2 {α β : Type} {Y1 : Lay α} {Y2 : Lay β} {v1 v2 : Value} {T1 T2 : TypeId} {es1 : List α} {es2 : List β} {w0 w w' : World} {L L1 L2 : List (Nat × Obj)} {F : List Fact} (H : Hp w0 w L F) (H1 : Hp w w' L1 []) (H2 : Hp w w' L2 []) (o1 : Own Y1 v1 T1 es1 L1) (o2 : Own Y2 v2 T2 es2 L2) (hT : Nat.beq T1 T2 = false) : Hp w0 w' (L ++ L1 ++ L2) F := by
 have HJ := H.joinR H1
 rw [List.append_nil] at HJ
 refine ⟨HJ.below, fun e he => ?_, ?_, fun f hf => ?_⟩
 ·
  rcases List.mem_append.1 he with he | he
  ·
   exact HJ.ents e he
  ·
   obtain ⟨h1, h2⟩ := H2.ents e he
   exact ⟨h1, Nat.le_trans H.size h2⟩
 ·
  rw [List.map_append, List.nodup_append]
  refine ⟨HJ.nodup, H2.nodup, fun a ha b hb hab => ?_⟩
  obtain ⟨x, hx, rfl⟩ := List.mem_map.1 ha
  obtain ⟨y, hy, rfl⟩ := List.mem_map.1 hb
  have hy2 := H2.ents y hy
  rcases List.mem_append.1 hx with hx | hx
  ·
   have := H.ltAll x hx; omega
  ·
   have hx2 := H1.ents x hx
   obtain ⟨c1, e1⟩ := own_type o1 x hx
   obtain ⟨c2, e2⟩ := own_type o2 y hy
   rw [e1] at hx2
   rw [e2] at hy2
   exact cells_ne hx2.1 hy2.1 hT hab
 ·
  obtain ⟨h1, h2, h3⟩ := HJ.facts f hf
  refine ⟨h1, h2, fun e he => ?_⟩
  rcases List.mem_append.1 he with he | he
  ·
   exact h3 e he
  ·
   have := (H.facts f hf).2.1
   have := (H2.ents e he).2
   exact .inr (by omega)
theorem mem_memsF_snoc {F : List Fact} {l : List Mem} {m : Mem} {f : Fact} (h : f ∈ F ++ (l ++ [m]).map memF) : f ∈ memF m :: (F ++ l.map memF) := by
 simp only [List.map_append, List.map_cons, List.map_nil, List.mem_append, List.mem_cons, List.mem_nil_iff, or_false] at h ⊢
 grind
end Go.Proofs.Ytemnchkebhclpaa
end

section
namespace Go.Proofs.Ytemnchkebhclpaa
open Go Go.Eng Go.RowKit
set_option linter.unusedSimpArgs false
set_option maxHeartbeats 4000000 in
set_option maxRecDepth 10000 in
theorem gname_c1_ok (c : UInt8) (w : World) : Ret Try.prog i_group_name_c1 [.int .u8 (c.toNat : Nat)] w fun v w2 => v = .bool (!inAZ c) ∧ Below w.heap.size w w2 := by
 refine ret_of fn_group_name_c1 rfl rfl ?_
 have H := Hp.start w
 refine Zs<|Zr<|Zl (Wb rfl)<|Zn<|Zs<|Zr<|Zl (Yi rfl) ?_
 refine lwD (lss_r rfl rfl) rfl rfl rfl (fun h4 => ?_) (fun h4 => ?_)
 ·
  refine Zl (Yb rfl)<|ZN<|ZN<|Zl (Kt rfl rfl)<|Zl (Wb rfl)<|Zn<|Zt ?_
  have hv : (!inAZ c) = true := by unfold inAZ; simp; omega
  exact fin1 (v := .bool true) rfl rfl ⟨by rw [hv], H.below⟩
 ·
  refine Zl (Yb rfl)<|ZG<|Zl (Yi rfl)<|ZG ?_
  refine lwD (gtr_r rfl rfl) rfl rfl rfl (fun h7 => ?_) (fun h7 => ?_)
  ·
   refine Zl (Kf rfl rfl)<|Zl (Wb rfl)<|Zn<|Zt ?_
   have hv : (!inAZ c) = true := by unfold inAZ; simp; omega
   exact fin1 (v := .bool true) rfl rfl ⟨by rw [hv], H.below⟩
  ·
   refine Zl (Kf rfl rfl)<|Zl (Wb rfl)<|Zn<|Zt ?_
   have hv : (!inAZ c) = false := by unfold inAZ; simp; omega
   exact fin1 (v := .bool false) rfl rfl ⟨by rw [hv], H.below⟩
set_option maxHeartbeats 4000000 in
set_option maxRecDepth 10000 in
theorem gname_ok (s : ByteArray) (w : World) : Ret Try.prog i_group_name [.string s] w fun v w2 => v = .bool (nameOk s) ∧ Below w.heap.size w w2 := by
 refine ret_of fn_group_name rfl rfl ?_
 have H := Hp.start w
 refine Zs<|Zr<|Zl (Wb rfl)<|Zn<|Zs<|Zs<|Zr<|Zl (Yt rfl) ?_
 refine lwD (seql_r rfl rfl) rfl rfl rfl (fun h4 => ?_) (fun h4 => ?_)
 ·
  refine Zl (Yb rfl)<|ZN<|ZN<|ZN<|Zl (Kt rfl rfl)<|Zn<|ZT rfl<|Zs<|Zr<|Zl (Wb rfl)<|Zn<|Zt ?_
  have hv : nameOk s = false := by unfold nameOk; simp; simp [h4]
  exact fin1 (v := .bool false) rfl rfl ⟨by rw [hv], H.below⟩
 ·
  refine Zl (Yb rfl)<|ZG<|Zl (Yt rfl)<|ZG<|Zl (lenT_r str_string rfl)<|ZG ?_
  refine lwD (gtr_r rfl rfl) rfl rfl rfl (fun h8 => ?_) (fun h8 => ?_)
  ·
   refine Zl (Kf rfl rfl)<|Zn<|ZT rfl<|Zs<|Zr<|Zl (Wb rfl)<|Zn<|Zt ?_
   have hv : nameOk s = false := by unfold nameOk; simp; omega
   exact fin1 (v := .bool false) rfl rfl ⟨by rw [hv], H.below⟩
  ·
   refine Zl (Kf rfl rfl)<|Zn<|ZF rfl<|Zk<|Zs<|Zr<|Zl (Yt rfl)<|cvTB (Y := byteL) H str_string sl_Lbyte int_byte rfl (fun _ => rfl) rfl rfl fun w1 A11 c11 hc11 H => ?_
   have hlen : s.data.toList.length = s.size := by rw [Array.length_toList]; rfl
   refine cal cb_slices_ContainsFunc_Lbyte_byte (containsFunc_byte_ok s.data.toList _ _ _ (H.rd0 0 rfl) (by omega) i_group_name_c1 [] cb_group_name_c1 (fun c => !inAZ c) (fun e w2 _ _ => gname_c1_ok e w2)) rfl rfl ?_
   rintro _ w2 ⟨rfl, hb⟩; replace H := H.later hb; clear hb
   refine Zl (not_r rfl)<|Zl (Wb rfl)<|Zn<|Zt ?_
   have h8b : decide ((s.size : Int) ≤ 8) = true := decide_eq_true (by omega)
   have hv : nameOk s = !(s.data.toList.any fun c => !inAZ c) := by unfold nameOk; rw [decide_eq_true h4, h8b, Bool.true_and, Bool.true_and, List.all_eq_not_any_not]
   exact fin1 (v := .bool (!(s.data.toList.any fun c => !inAZ c))) rfl rfl ⟨by rw [hv], H.below⟩
end Go.Proofs.Ytemnchkebhclpaa
end

section
namespace Go.Proofs.Ytemnchkebhclpaa
open Go Go.Eng Go.RowKit
set_option linter.unusedSimpArgs false
set_option maxHeartbeats 4000000 in
set_option maxRecDepth 10000 in
theorem indexFunc_Member_ok (es : List Mem) (A : Option Addr) (c : Nat) (w : World) (hr : Rd memL 0 w.heap.size A es w) (hb : es.length ≤ 1000000) (f : FuncId) (cap : List Value) (hf : callB Try.prog f = true) (pred : Mem → Bool)
  (hp : ∀ e w', e ∈ es → Below w.heap.size w w' → Ret Try.prog f (.agg (memL.f e).toArray :: cap) w' fun v w2 => v = .bool (pred e) ∧ Below w'.heap.size w' w2) :
  Ret Try.prog i_slices_IndexFunc_LMember_Member [.slice A es.length c, .func (.func f) #[] cap.toArray] w fun v w2 => v = .int .i64 (idxI (es.findIdx? pred)) ∧ Below w.heap.size w w2 := by
 refine ret_of fn_slices_IndexFunc_LMember_Member rfl rfl ?_
 have H := Hp.startRd hr
 refine Zs<|Zr<|Zl (Wi rfl)<|Zn<|Zs<|Zs<|Zr<|Zl (Ys rfl)<|Zl (lenS_r len_LMember rfl)<|Zl (Yi rfl)<|Zn<|Zb ?_
 refine cw_loop (τ := Nat) [4, 5, 8, 9, 10, 11, 12, 13, 14, 15, 16, 17, 18] (fun k => [(8, .int .i64 (k : Nat))]) (fun k w' => k ≤ es.length ∧ (∀ j e, j < k → es[j]? = some e → pred e = false) ∧ Hp w w' [] [FRd memL 0 w.heap.size A es]) (fun k => es.length - k) 0 ⟨by omega, by intro j e hj; omega, H⟩ (sl1 rfl) ?_
 rintro k ρ1 w1 ⟨hk, hno, H⟩
 show CW _ _ _ _ (updL (ovr _ _ ρ1) [(8, .int .i64 (k : Nat))]) w1
 refine Zs<|Zr ?_
 refine lwD (lss_r rfl rfl) rfl rfl rfl (fun h9 => ?_) (fun h9 => ?_)
 ·
  refine Zn<|Zs<|ZT rfl<|Zk<|Zs<|Zb<|Zs<|Zr<|Zl (Yi rfl)<|Zl (Wi rfl)<|Zn<|Zs<|Zr<|Zl (mvF_r rfl) ?_
  refine Zl (Ys rfl)<|Zl (Yi rfl)<|ixF H 0 rfl sl_LMember rfl rfl (by omega) (by omega) rfl fun b2 o2 x2 e2 =>Zl (ldA_r (xs := memL.f x2) agg_Member rfl rfl e2.cl) ?_
  refine calF hf rfl (hp x2 _ (List.mem_of_getElem? e2.at_) H.below) rfl rfl ?_; rintro _ w3 ⟨rfl, hb2⟩; replace H := H.later hb2; clear hb2
  refine lwCase 16 rfl (fun h16 => ?_) (fun h16 => ?_)
  ·
   refine Zn<|ZT rfl<|Zs<|Zr<|Zl (Yi rfl)<|Zl (Wi rfl)<|Zn<|Zt ?_
   have hi : es.findIdx? pred = some k := by
    rw [List.findIdx?_eq_some_iff_getElem]
    obtain ⟨hl, hx⟩ := getE e2.at_
    exact ⟨hl, by rw [hx]; exact h16, fun j hj => by rw [hno j _ hj (List.getElem?_eq_getElem (by omega))]; simp⟩
   exact fin1 (v := .int .i64 (k : Nat)) rfl rfl ⟨by rw [hi]; rfl, H.below⟩
  ·
   refine Zn<|ZF rfl<|Zk<|Zr<|Zl (add_r rfl rfl (by omega) (by omega))<|Zl (Yi rfl)<|Zn ?_
   refine ⟨k + 1, ⟨by omega, fun j e hj he => ?_, H⟩, sl1 rfl, by repeat (first | exact Agr.refl _ _ | exact agr_ovr | refine agr_upd rfl ?_ | refine agr_updL _ rfl ?_ | refine agr_ovr2 rfl ?_), by show es.length - (k + 1) < es.length - k; omega⟩
   by_cases hji : j < k
   ·
    exact hno j e hji he
   ·
    have : j = k := by omega
    subst this; have he2 := e2.at_; rw [he] at he2; injection he2 with he2; subst he2; exact h16
 ·
  refine Zn<|Zs<|ZF rfl<|Zx<|Zs<|Zr<|Zl (Wi rfl)<|Zn<|Zt ?_
  have hi : es.findIdx? pred = none := by
   rw [List.findIdx?_eq_none_iff]
   intro e he
   obtain ⟨j, hj⟩ := List.mem_iff_getElem?.1 he
   exact hno j e (by have := (getE hj).1; omega) hj
  exact fin1 (v := .int .i64 (-1)) rfl rfl ⟨by rw [hi]; rfl, H.below⟩
set_option maxHeartbeats 4000000 in
set_option maxRecDepth 10000 in
theorem containsFunc_Member_ok (es : List Mem) (A : Option Addr) (c : Nat) (w : World) (hr : Rd memL 0 w.heap.size A es w) (hb : es.length ≤ 1000000) (f : FuncId) (cap : List Value) (hf : callB Try.prog f = true) (pred : Mem → Bool)
  (hp : ∀ e w', e ∈ es → Below w.heap.size w w' → Ret Try.prog f (.agg (memL.f e).toArray :: cap) w' fun v w2 => v = .bool (pred e) ∧ Below w'.heap.size w' w2) :
  Ret Try.prog i_slices_ContainsFunc_LMember_Member [.slice A es.length c, .func (.func f) #[] cap.toArray] w fun v w2 => v = .bool (es.any pred) ∧ Below w.heap.size w w2 := by
 refine ret_of fn_slices_ContainsFunc_LMember_Member rfl rfl ?_
 have H := Hp.start w
 refine Zs<|Zr<|Zl (Wb rfl)<|Zn<|Zs<|Zr<|Zl (Ys rfl)<|Zl (mvF_r rfl)<|cal cb_slices_IndexFunc_LMember_Member (indexFunc_Member_ok es _ _ _ hr hb f cap hf pred hp) rfl rfl ?_
 rintro _ w1 ⟨rfl, hb⟩; replace H := H.later hb; clear hb
 refine Zl (geq_r rfl rfl)<|Zl (Wb rfl)<|Zn<|Zt ?_
 have hv : decide (0 ≤ idxI (es.findIdx? pred)) = es.any pred := by
  cases hi : es.findIdx? pred with
  | none => rw [List.findIdx?_eq_none_iff] at hi; simp [idxI]; exact fun a h => hi a h
  | some i =>
   obtain ⟨hl, h1, -⟩ := List.findIdx?_eq_some_iff_getElem.1 hi
   have : es.any pred = true := List.any_eq_true.2 ⟨_, List.getElem_mem hl, h1⟩
   rw [this]; simp [idxI]
 exact fin1 (v := .bool (decide (0 ≤ idxI (es.findIdx? pred)))) rfl rfl ⟨by rw [hv], H.below⟩
set_option maxHeartbeats 4000000 in
set_option maxRecDepth 10000 in
theorem clone_Member_ok (es : List Mem) (A : Option Addr) (c : Nat) (w : World) (hr : Rd memL 0 w.heap.size A es w) (hb : es.length * 48 ≤ 140737488355328) :
  Ret Try.prog i_slices_Clone_LMember_Member [.slice A es.length c] w fun v w2 => ∃ A' c' L', v = .slice A' es.length c' ∧ es.length ≤ c' ∧ c' ≤ maxLen ∧ Own memL (.slice A' es.length c') T_Member es L' ∧ Hp w w2 L' [] := by
 refine ret_of fn_slices_Clone_LMember_Member rfl rfl ?_
 have H := Hp.startRd hr
 refine Zs<|Zr<|Zl (Ws rfl)<|Zn<|Zs<|Zs<|Zr<|Zl (Ys rfl) ?_
 refine lwB (slnil_r len_LMember rfl) rfl rfl rfl (fun h4 => ?_) (fun h4 => ?_)
 ·
  refine Zn<|ZT rfl<|Zs<|Zr<|Zl (Ws rfl)<|Zn<|Zt ?_
  have he : es = [] := by
   cases es with
   | nil => rfl
   | cons e es => obtain ⟨b, o, hA, _⟩ := hr (by simp); subst hA; cases h4
  subst he
  exact fin1 rfl rfl ⟨none, 0, [], rfl, by simp, by decide, Own.nil, H.forget (by simp) (by simp)⟩
 ·
  refine Zn<|ZF rfl<|Zk<|Zs<|Zr<|bs0 H sl_LMember rfl fun w1 b5 H =>Zl (Ys rfl)<|apO (Y := memL) ap_LMember (K := []) (L := [(b5, _)]) (M := []) H (OwnE.lit (by decide) (by rfl)) (es := []) (news := es) rfl rfl rfl (Rd.src (H.fact (i := 0) rfl)) (by simpa using hb) rfl ?_
  intro A3 c3 w3 L3 h3a h3b ho3 H
  refine Zl (Ws rfl)<|Zn<|Zt ?_
  exact fin1 rfl rfl ⟨A3, c3, L3, rfl, h3a, h3b, ho3, H.forget (by simp) (by simp)⟩
set_option maxHeartbeats 4000000 in
set_option maxRecDepth 10000 in
theorem clone_Offset_ok (es : List Off) (A : Option Addr) (c : Nat) (w : World) (hr : Rd offL 0 w.heap.size A es w) (hb : es.length * 16 ≤ 140737488355328) :
  Ret Try.prog i_slices_Clone_LOffset_Offset [.slice A es.length c] w fun v w2 => ∃ A' c' L', v = .slice A' es.length c' ∧ es.length ≤ c' ∧ c' ≤ maxLen ∧ Own offL (.slice A' es.length c') T_Offset es L' ∧ Hp w w2 L' [] := by
 refine ret_of fn_slices_Clone_LOffset_Offset rfl rfl ?_
 have H := Hp.startRd hr
 refine Zs<|Zr<|Zl (Ws rfl)<|Zn<|Zs<|Zs<|Zr<|Zl (Ys rfl) ?_
 refine lwB (slnil_r len_LOffset rfl) rfl rfl rfl (fun h4 => ?_) (fun h4 => ?_)
 ·
  refine Zn<|ZT rfl<|Zs<|Zr<|Zl (Ws rfl)<|Zn<|Zt ?_
  have he : es = [] := by
   cases es with
   | nil => rfl
   | cons e es => obtain ⟨b, o, hA, _⟩ := hr (by simp); subst hA; cases h4
  subst he
  exact fin1 rfl rfl ⟨none, 0, [], rfl, by simp, by decide, Own.nil, H.forget (by simp) (by simp)⟩
 ·
  refine Zn<|ZF rfl<|Zk<|Zs<|Zr<|bs0 H sl_LOffset rfl fun w1 b5 H =>Zl (Ys rfl)<|apO (Y := offL) ap_LOffset (K := []) (L := [(b5, _)]) (M := []) H (OwnE.lit (by decide) (by rfl)) (es := []) (news := es) rfl rfl rfl (Rd.src (H.fact (i := 0) rfl)) (by simpa using hb) rfl ?_
  intro A3 c3 w3 L3 h3a h3b ho3 H
  refine Zl (Ws rfl)<|Zn<|Zt ?_
  exact fin1 rfl rfl ⟨A3, c3, L3, rfl, h3a, h3b, ho3, H.forget (by simp) (by simp)⟩
end Go.Proofs.Ytemnchkebhclpaa
end

section
namespace Go.Proofs.Ytemnchkebhclpaa
open Go Go.Eng Go.RowKit
set_option linter.unusedSimpArgs false
theorem memsOk_iff {ck : Int} : ∀ {l pre : List Mem}, memsOk ck pre l = true ↔ (∀ m ∈ l, memOk ck m = true) ∧ (∀ m ∈ l, ∀ p ∈ pre, sameMem m p = false) ∧ l.Pairwise (fun p m => sameMem m p = false)
 | [], pre => by simp [memsOk]
 | t :: l, pre => by
  unfold memsOk
  rw [Bool.and_eq_true, Bool.and_eq_true, memsOk_iff, List.pairwise_cons]
  simp only [List.mem_cons, List.mem_append, List.mem_singleton, forall_eq_or_imp, Bool.not_eq_true', List.any_eq_false]
  constructor
  ·
   rintro ⟨⟨h1, h2⟩, h3, h4, h5⟩
   exact ⟨⟨h1, h3⟩, ⟨fun p hp => by simpa using h2 p hp, fun a ha p hp => h4 a ha p (.inl hp)⟩, fun a ha => h4 a ha t (by simp), h5⟩
  ·
   rintro ⟨⟨h1, h3⟩, ⟨h2, h4⟩, h5, h6⟩
   exact ⟨⟨h1, fun p hp => by simpa using h2 p hp⟩, h3, fun a ha p hp => hp.elim (h4 a ha p) (fun h => by have := h5 a ha; simp at h; rwa [h]), h6⟩
/-- no two of one name -/
def ApartM (l : List Mem) : Prop := (l.map Mem.name).Pairwise (· ≠ ·)
theorem apartM_iff {l : List Mem} : ApartM l ↔ l.Pairwise (fun p m => sameMem m p = false) := by
 unfold ApartM
 rw [List.pairwise_map]
 constructor <;> intro h <;> refine h.imp fun {a b} hab => ?_
 ·
  simpa [sameMem] using hab
 ·
  simpa [sameMem] using hab
theorem offsOk_iff : ∀ {l : List Off} {last : Int}, offsOk last l = true ↔ (∀ o ∈ l, last < o.part ∧ o.part < 4 ∧ 0 ≤ o.at_ ∧ o.at_ ≤ 400) ∧ l.Pairwise (fun a b => a.part < b.part)
 | [], _ => by simp [offsOk]
 | o :: l, last => by
  unfold offsOk
  simp only [Bool.and_eq_true, decide_eq_true_eq, offsOk_iff, List.pairwise_cons, List.mem_cons, forall_eq_or_imp]
  constructor
  ·
   rintro ⟨⟨⟨⟨h1, h2⟩, h3⟩, h4⟩, h5, h6⟩
   exact ⟨⟨⟨h1, h2, h3, h4⟩, fun a ha => by have := h5 a ha; omega⟩, fun a ha => (h5 a ha).1, h6⟩
  ·
   rintro ⟨⟨⟨h1, h2, h3, h4⟩, h5⟩, h6, h7⟩
   exact ⟨⟨⟨⟨h1, h2⟩, h3⟩, h4⟩, fun a ha => by have := h5 a ha; have := h6 a ha; omega, h7⟩
theorem grOk_iff2 {g : Gr} : grOk g = true ↔ ((0 ≤ g.clock ∧ g.clock ≤ 1073741824) ∧ 1 ≤ g.wait ∧ g.wait ≤ 1000 ∧ (0 ≤ g.gen ∧ g.gen ≤ 1073741824) ∧ (g.ms.length : Int) ≤ 6 ∧ (g.os.length : Int) ≤ 4) ∧ ((∀ m ∈ g.ms, memOk g.clock m = true) ∧ ApartM g.ms) ∧ (∀ o ∈ g.os, 0 ≤ o.part ∧ o.part < 4 ∧ 0 ≤ o.at_ ∧ o.at_ ≤ 400) ∧ g.os.Pairwise (fun a b => a.part < b.part) := by
 rw [grOk_iff, memsOk_iff, apartM_iff, offsOk_iff]
 unfold inNum
 simp only [Bool.and_eq_true, decide_eq_true_eq]
 constructor
 ·
  rintro ⟨h1, h2, h3, h4, h5, h6, ⟨h7, _, h9⟩, h10, h11⟩; exact ⟨⟨h1, h2, h3, h4, h5, h6⟩, ⟨h7, h9⟩, fun o ho => by have := h10 o ho; omega, h11⟩
 ·
  rintro ⟨⟨h1, h2, h3, h4, h5, h6⟩, ⟨h7, h9⟩, h10, h11⟩; exact ⟨h1, h2, h3, h4, h5, h6, ⟨h7, by simp, h9⟩, fun o ho => by have := h10 o ho; omega, h11⟩
theorem rise_at {α : Type} {f : α → Int} {l : List α} (h : l.Pairwise (fun a b => f a < f b)) {i : Nat} {a b : α} (ha : l[i]? = some a) (hb : l[i + 1]? = some b) : f a < f b := by
 obtain ⟨h1, rfl⟩ := getE ha
 obtain ⟨h2, rfl⟩ := getE hb
 exact List.pairwise_iff_getElem.1 h i (i + 1) h1 h2 (by omega)
theorem apart_take {l : List Mem} (h : ApartM l) {k : Nat} {x : Mem} (hx : l[k]? = some x) : (l.take k).any (sameMem x) = false := by
 rw [List.any_eq_false]
 intro p hp
 obtain ⟨j, hj⟩ := List.mem_iff_getElem?.1 hp
 rw [List.getElem?_take] at hj
 split at hj
 ·
  rename_i hjk
  rw [apartM_iff] at h
  obtain ⟨h1, rfl⟩ := getE hj
  obtain ⟨h2, rfl⟩ := getE hx
  have := List.pairwise_iff_getElem.1 h j k h1 h2 hjk
  rw [this]; decide
 ·
  cases hj
set_option maxHeartbeats 4000000 in
set_option maxRecDepth 10000 in
theorem gcheck_c1_ok (p t : Mem) (b : Nat) (w : World) (hx : w.heap[b]? = some (.cells t.c.toArray T_Member (0, 0))) :
  Ret Try.prog i_group_Check_c1 [.agg p.c.toArray, .pointer (some ⟨b, 0, none⟩)] w fun v w2 => v = .bool (sameMem t p) ∧ Below w.heap.size w w2 := by
 refine ret_of fn_group_Check_c1 rfl rfl ?_
 have H := Hp.start w
 have hb := lt_of_heap hx
 refine Zs<|Zr<|bxA H rfl rfl fun w1 b2 H =>Zl (Wb rfl)<|Zn<|Zs<|Zr<|Zl (Zf fd_Member_0 rfl)<|Zl (Zd one_string H 0 rfl rfl rfl)<|Zl (Zf fd_Member_0 rfl)<|Zl (ld_r one_string rfl ((H.below.cell (p := ⟨b, _, none⟩) hb).trans (cellE (j := 0) hx rfl)))<|Zl (seql_r rfl rfl)<|Zl (Wb rfl)<|Zn ?_
 refine Zt ?_
 exact fin1 rfl rfl ⟨rfl, H.below⟩
set_option maxHeartbeats 4000000 in
set_option maxRecDepth 10000 in
theorem gfind_c1_ok (p : Mem) (s : ByteArray) (b : Nat) (w : World) (hx : w.heap[b]? = some (.cells #[.string s] T_string (0, 0))) :
  Ret Try.prog i_group_find_c1 [.agg p.c.toArray, .pointer (some ⟨b, 0, none⟩)] w fun v w2 => v = .bool (decide (p.name = s)) ∧ Below w.heap.size w w2 := by
 refine ret_of fn_group_find_c1 rfl rfl ?_
 have H := Hp.start w
 have hb := lt_of_heap hx
 refine Zs<|Zr<|bxA H rfl rfl fun w1 b2 H =>Zl (Wb rfl)<|Zn<|Zs<|Zr<|Zl (Zf fd_Member_0 rfl)<|Zl (Zd one_string H 0 rfl rfl rfl)<|Zl (ld_r one_string rfl ((H.below.cell (p := ⟨b, _, none⟩) hb).trans (cellE (j := 0) hx rfl)))<|Zl (seql_r rfl rfl)<|Zl (Wb rfl)<|Zn<|Zt ?_
 exact fin1 rfl rfl ⟨rfl, H.below⟩
set_option maxHeartbeats 4000000 in
set_option maxRecDepth 10000 in
theorem gCheck_zero (w : World) : Ret Try.prog i_group_Check [.agg #[.int .i64 0, .int .i64 0, .int .i64 0, .slice none 0 0, .slice none 0 0]] w fun v w2 => v = .int .i64 12 ∧ Below w.heap.size w w2 := by
 refine ret_of fn_group_Check rfl rfl ?_
 have H := Hp.start w
 refine Zs<|Zr<|bxA H rfl rfl fun w1 b1 H =>Zl (Wi rfl)<|Zn<|Zs<|Zs<|Zr<|Zl (Zf fd_Group_0 rfl)<|Zl (Zd one_int H 0 rfl rfl rfl)<|Zl (lssF_r rfl rfl (by omega))<|Zl (Yb rfl)<|ZG<|Zl (Zf fd_Group_0 rfl) ?_
 refine ZG<|Zl (Zd one_int H 0 rfl rfl rfl)<|ZG<|Zl (gtrF_r rfl rfl (by omega))<|Zl (Kf rfl rfl)<|Zl (Yb rfl)<|ZG<|Zl (Zf fd_Group_1 rfl)<|ZG<|Zl (Zd one_int H 0 rfl rfl rfl)<|ZG<|Zl (lssT_r rfl rfl (by decide))<|Zl (Kf rfl rfl)<|Zl (Yb rfl) ?_
 refine ZN<|ZN<|ZN<|Zl (Kt rfl rfl)<|Zl (Yb rfl)<|ZN<|ZN<|ZN<|Zl (Kt rfl rfl)<|Zl (Yb rfl)<|ZN<|ZN<|ZN<|Zl (Kt rfl rfl) ?_
 refine Zl (Yb rfl)<|ZN<|ZN<|ZN<|ZN<|Zl (Kt rfl rfl)<|Zl (Yb rfl)<|ZN<|ZN<|ZN<|ZN<|Zl (Kt rfl rfl)<|Zn<|ZT rfl ?_
 refine Zs<|Zr<|Zl (Wi rfl)<|Zn<|Zt ?_
 exact fin1 rfl rfl ⟨rfl, H.below⟩
set_option maxHeartbeats 4000000 in
set_option maxRecDepth 10000 in
theorem gCheck_ok (g : Gr) (w : World) (h : g.rd 0 w.heap.size w) (hok : grOk g = true) : Ret Try.prog i_group_Check [g.v] w fun v w2 => v = .int .i64 0 ∧ Below w.heap.size w w2 := by
 refine ret_of fn_group_Check rfl rfl ?_
 have hmC := h.mC
 have hoC := h.oC
 have hfew := h.few
 have hfp := h.fewP
 have H := Hp.startGr h
 obtain ⟨ck, wt, gn, ms, mA, mC, os, oA, oC⟩ := g
 dsimp only at hmC hoC hfew hfp H
 show CW _ _ _ _ (args [.agg #[.int .i64 (ck), .int .i64 (wt), .int .i64 (gn), .slice mA ms.length mC, .slice oA os.length oC]]) w
 obtain ⟨⟨⟨k1, k2⟩, k3, k4, ⟨k5, k6⟩, k7, k8⟩, ⟨hmo, hap⟩, hof, hor⟩ := grOk_iff2.1 hok
 dsimp only at k1 k2 k3 k4 k5 k6 k7 k8 hmo hap hof hor
 refine Zs<|Zr<|bxA H rfl rfl fun w1 b1 H =>Zl (Wi rfl)<|Zn<|Zs<|Zs<|Zr<|Zl (Zf fd_Group_0 rfl)<|Zl (Zd one_int H 0 rfl rfl rfl)<|Zl (lssF_r rfl rfl (by omega))<|Zl (Yb rfl)<|ZG<|Zl (Zf fd_Group_0 rfl) ?_
 refine ZG<|Zl (Zd one_int H 0 rfl rfl rfl)<|ZG<|Zl (gtrF_r rfl rfl (by omega))<|Zl (Kf rfl rfl)<|Zl (Yb rfl)<|ZG<|Zl (Zf fd_Group_1 rfl)<|ZG<|Zl (Zd one_int H 0 rfl rfl rfl)<|ZG<|Zl (lssF_r rfl rfl (by omega))<|Zl (Kf rfl rfl)<|Zl (Yb rfl) ?_
 refine ZG<|Zl (Zf fd_Group_1 rfl)<|ZG<|Zl (Zd one_int H 0 rfl rfl rfl)<|ZG<|Zl (gtrF_r rfl rfl (by omega))<|Zl (Kf rfl rfl)<|Zl (Yb rfl)<|ZG<|Zl (Zf fd_Group_2 rfl)<|ZG<|Zl (Zd one_int H 0 rfl rfl rfl)<|ZG<|Zl (lssF_r rfl rfl (by omega)) ?_
 refine Zl (Kf rfl rfl)<|Zl (Yb rfl)<|ZG<|Zl (Zf fd_Group_2 rfl)<|ZG<|Zl (Zd one_int H 0 rfl rfl rfl)<|ZG<|Zl (gtrF_r rfl rfl (by omega))<|Zl (Kf rfl rfl)<|Zl (Yb rfl)<|ZG<|Zl (Zf fd_Group_3 rfl)<|ZG<|Zl (Zd one_LMember H 0 rfl rfl rfl) ?_
 refine ZG<|Zl (lenS_r len_LMember rfl)<|ZG<|Zl (gtrF_r rfl rfl (by omega))<|Zl (Kf rfl rfl)<|Zl (Yb rfl)<|ZG<|Zl (Zf fd_Group_4 rfl)<|ZG<|Zl (Zd one_LOffset H 0 rfl rfl rfl)<|ZG<|Zl (lenS_r len_LOffset rfl)<|ZG<|Zl (gtrF_r rfl rfl (by omega)) ?_
 refine Zl (Kf rfl rfl)<|Zn<|ZF rfl<|Zk<|Zs<|Zs<|Zr<|Zl (Zf fd_Group_3 rfl)<|Zl (Zd one_LMember H 0 rfl rfl rfl)<|Zl (lenS_r len_LMember rfl)<|Zl (Yi rfl)<|Zn<|Zb ?_
 refine cw_loop (τ := Nat) [2, 3, 4, 5, 6, 52, 53, 54, 55, 56, 57, 58, 59, 60, 61, 62, 63, 64, 65, 66, 67, 68, 69, 70, 71, 72, 73, 74, 75, 76, 77, 78, 79, 80, 81, 82, 83, 84, 85, 86, 87, 88, 89, 90, 91, 92, 93, 94, 95, 96, 97, 98, 99, 100, 101, 102, 103, 104, 105, 106, 107, 108, 109, 110] (fun k => [(52, .int .i64 (k : Nat))]) (fun k w' => k ≤ ms.length ∧ Hp w w' [(b1, .cells #[.int .i64 (ck), .int .i64 (wt), .int .i64 (gn), .slice mA ms.length mC, .slice oA os.length oC] T_Group (0, 0))] [FRd memL 0 w.heap.size mA ms, FMp 0 w.heap.size ms, FRd offL 0 w.heap.size oA os]) (fun k => ms.length - k) 0 ⟨by omega, H⟩ (sl1 rfl) ?_
 rintro k ρ1 w2 ⟨hk, H⟩
 show CW _ _ _ _ (updL (ovr _ _ ρ1) [(52, .int .i64 (k : Nat))]) w2
 refine Zs<|Zr ?_
 refine lwD (lss_r rfl rfl) rfl rfl rfl (fun h53 => ?_) (fun h53 => ?_)
 ·
  refine Zn<|Zs<|ZT rfl<|Zk<|Zs<|Zb<|Zs ?_
  obtain ⟨x, hx⟩ : ∃ x, ms[k]? = some x := ⟨_, List.getElem?_eq_getElem (by omega)⟩
  have hmem := List.mem_of_getElem? hx
  obtain ⟨hxn, hx0, hxc, hxp⟩ := memOk_iff.1 (hmo x hmem)
  have hxl := (hfp x hmem).1
  obtain ⟨hris, hbnd⟩ := partsOk_rise hxp
  refine Zr<|Zl (Yi rfl)<|ixF H 0 rfl sl_LMember rfl rfl (by omega) (by omega) rfl fun bq3 o3 x3 e3 => ?_
  obtain rfl : x = x3 := by have := e3.at_; rw [hx] at this; exact Option.some.inj this
  refine Zl (ldA_r (xs := Mem.c x) agg_Member rfl rfl e3.cl)<|alo H z_Member rfl fun w4 b4 H =>Zl (Wi rfl)<|stN H 0 (#[.string (x.name), .int .i64 (x.heard), .slice x.A x.parts.length x.cap]) siz_Member rfl rfl rfl rfl rfl (by kernel_rfl) (by kernel_rfl) fun w5 H =>Zn<|Zs<|Zs<|Zr<|Zl (Zf fd_Member_0 rfl)<|Zl (Zd one_string H 0 rfl rfl rfl)<|cal cb_group_name (gname_ok x.name _) rfl rfl ?_
  rw [hxn]
  rintro _ w6 ⟨rfl, hb⟩; replace H := H.later hb; clear hb
  refine Zl (not_r rfl)<|Zl (Yb rfl)<|ZG<|Zl (Zf fd_Member_1 rfl)<|ZG<|Zl (Zd one_int H 0 rfl rfl rfl)<|ZG<|Zl (lssF_r rfl rfl (by omega))<|Zl (Kf rfl rfl)<|Zl (Yb rfl)<|ZG<|Zl (Zf fd_Member_1 rfl)<|ZG<|Zl (Zd one_int H 0 rfl rfl rfl) ?_
  refine ZG<|Zl (Zf fd_Group_0 rfl)<|ZG<|Zl (Zd one_int H 1 rfl rfl rfl)<|ZG<|Zl (gtrF_r rfl rfl (by omega))<|Zl (Kf rfl rfl)<|Zl (Yb rfl)<|ZG<|Zl (Zf fd_Group_3 rfl)<|ZG<|Zl (Zd one_LMember H 1 rfl rfl rfl)<|ZG<|Zl (Yi rfl) ?_
  refine ZG<|sliHiF (k := k) H 0 rfl sl_LMember rfl rfl hmC (by omega) rfl fun A77 H => ?_
  have htl : (ms.take k).length = k := by rw [List.length_take]; omega
  refine ZG<|Zl (mkf_r rfl)<|ZG ?_
  have hC := fun q => containsFunc_Member_ok (ms.take k) A77 q _ (H.rd0 0 rfl) (by omega) i_group_Check_c1 [.pointer (some ⟨b4, 0, none⟩)] cb_group_Check_c1 (sameMem x) (fun e w2 _ hw2 => gcheck_c1_ok e x b4 w2 ((hw2.block _ (lt_of_heap (H.ent (i := 0) rfl))).trans (H.ent (i := 0) rfl)))
  rw [htl, apart_take hap hx] at hC
  replace hC := hC mC
  refine cal cb_slices_ContainsFunc_LMember_Member (hC) rfl rfl ?_
  rintro _ w7 ⟨rfl, hb⟩; replace H := H.later hb; clear hb
  refine Zl (Kf rfl rfl)<|Zn<|ZF rfl<|Zk<|Zs ?_
  replace H := Hp.mpRow H 2 rfl hmem
  refine Zr<|Zl (Zf fd_Member_2 rfl)<|Zl (Zd one_Lint H 0 rfl rfl rfl)<|Zl (lenS_r len_Lint rfl)<|Zl (Yi rfl)<|Zn<|Zb ?_
  refine cw_loop (τ := Nat) [2, 5, 6, 84, 85, 86, 87, 88, 89, 90, 91, 92, 93, 94, 95, 96, 97, 98, 99, 100, 101, 102, 103, 104, 105, 106, 107, 108, 109] (fun j => [(84, .int .i64 (j : Nat))]) (fun j w' => j ≤ x.parts.length ∧ Hp w w' [(b4, .cells #[.string (x.name), .int .i64 (x.heard), .slice x.A x.parts.length x.cap] T_Member (0, 0)), (b1, .cells #[.int .i64 (ck), .int .i64 (wt), .int .i64 (gn), .slice mA ms.length mC, .slice oA os.length oC] T_Group (0, 0))] [FRd intL 0 w.heap.size x.A x.parts, FRd memL 0 w.heap.size A77 (ms.take k), FRd memL 0 w.heap.size mA ms, FMp 0 w.heap.size ms, FRd offL 0 w.heap.size oA os]) (fun j => x.parts.length - j) 0 ⟨by omega, H⟩ (sl1 rfl) ?_
  rintro j ρ2 w8 ⟨hj, H⟩
  show CW _ _ _ _ (updL (ovr _ _ ρ2) [(84, .int .i64 (j : Nat))]) w8
  refine Zs<|Zr ?_
  refine lwD (lss_r rfl rfl) rfl rfl rfl (fun h85 => ?_) (fun h85 => ?_)
  ·
   refine Zn<|Zs<|ZT rfl<|Zk<|Zs<|Zb<|Zs ?_
   obtain ⟨p, hp⟩ : ∃ p, x.parts[j]? = some p := ⟨_, List.getElem?_eq_getElem (by omega)⟩
   have hpb := hbnd p (List.mem_of_getElem? hp)
   refine Zr<|Zl (Yi rfl)<|ixF H 0 rfl sl_Lint rfl rfl (by omega) (by omega) rfl fun bq9 o9 x9 e9 => ?_
   obtain rfl : p = x9 := by have := e9.at_; rw [hp] at this; exact Option.some.inj this
   refine Zl (ld_r one_int rfl (e9.cl 0 _ rfl))<|Zl (Wi rfl)<|Zl (Wi rfl)<|Zn<|Zs<|Zr<|Zl (Yi rfl)<|Zl (lssF_r rfl rfl (by omega))<|Zl (Yb rfl)<|ZG<|Zl (Yi rfl)<|ZG<|Zl (geqF_r rfl rfl (by omega))<|Zl (Kf rfl rfl) ?_
   refine Zl (Yb rfl)<|ZG<|Zl (Yi rfl)<|ZG ?_
   refine lwD (gtr_r rfl rfl) rfl rfl rfl (fun h97 => ?_) (fun h97 => ?_)
   ·
    obtain ⟨i, hji⟩ : ∃ i, j = i + 1 := ⟨j - 1, by omega⟩
    obtain ⟨q, hq⟩ : ∃ q, x.parts[i]? = some q := ⟨_, List.getElem?_eq_getElem (by omega)⟩
    have hqp : q < p := rise_at (f := fun a : Int => a) hris hq (hji ▸ hp)
    refine ZG<|Zl (Yb rfl)<|ZG<|Zl (Zf fd_Member_2 rfl)<|ZG<|Zl (Zd one_Lint H 0 rfl rfl rfl)<|ZG<|Zl (Yi rfl)<|ZG<|Zl (subE_r ((i : Nat) : Int) rfl rfl (by omega) (by omega) (by omega))<|ZG<|ixF H 0 rfl sl_Lint rfl rfl (by omega) (by omega) rfl fun bq10 o10 x10 e10 => ?_
    obtain rfl : q = x10 := by have := e10.at_; rw [hq] at this; exact Option.some.inj this
    refine ZG<|Zl (ld_r one_int rfl (e10.cl 0 _ rfl))<|ZG<|Zl (Yi rfl)<|ZG<|Zl (geqF_r rfl rfl (by omega))<|ZG<|Zl (Kt rfl rfl)<|Zl (Kf rfl rfl)<|Zn<|ZF rfl<|Zk<|Zr<|Zl (add_r rfl rfl (by omega) (by omega)) ?_
    refine Zl (Yi rfl)<|Zn ?_
    exact ⟨j + 1, ⟨by omega, H⟩, sl1 rfl, by repeat (first | exact Agr.refl _ _ | exact agr_ovr | refine agr_upd rfl ?_ | refine agr_updL _ rfl ?_ | refine agr_ovr2 rfl ?_), by show x.parts.length - (j + 1) < x.parts.length - j; omega⟩
   ·
    refine ZG<|Zl (Yb rfl)<|ZN<|ZN<|ZN<|ZN<|ZN<|ZN<|ZN<|ZN<|ZG<|Zl (Kf rfl rfl)<|Zl (Kf rfl rfl)<|Zn ?_
    refine ZF rfl<|Zk<|Zr<|Zl (add_r rfl rfl (by omega) (by omega))<|Zl (Yi rfl)<|Zn ?_
    exact ⟨j + 1, ⟨by omega, H⟩, sl1 rfl, by repeat (first | exact Agr.refl _ _ | exact agr_ovr | refine agr_upd rfl ?_ | refine agr_updL _ rfl ?_ | refine agr_ovr2 rfl ?_), by show x.parts.length - (j + 1) < x.parts.length - j; omega⟩
  ·
   refine Zn<|Zs<|ZF rfl<|Zx<|Zr<|Zl (add_r rfl rfl (by omega) (by omega))<|Zl (Yi rfl)<|Zn ?_
   exact ⟨k + 1, ⟨by omega, H.forget (.cons _ (List.Sublist.refl _)) (fun f hf => by simp only [List.mem_cons] at hf ⊢; grind)⟩, sl1 rfl, by repeat (first | exact Agr.refl _ _ | exact agr_ovr | refine agr_upd rfl ?_ | refine agr_updL _ rfl ?_ | refine agr_ovr2 rfl ?_), by show ms.length - (k + 1) < ms.length - k; omega⟩
 ·
  refine Zn<|Zs<|ZF rfl<|Zx<|Zs<|Zs<|Zr<|Zl (Zf fd_Group_4 rfl)<|Zl (Zd one_LOffset H 0 rfl rfl rfl)<|Zl (lenS_r len_LOffset rfl)<|Zl (Yi rfl)<|Zn<|Zb ?_
  refine cw_loop (τ := Nat) [2, 7, 8, 114, 115, 116, 117, 118, 119, 120, 121, 122, 123, 124, 125, 126, 127, 128, 129, 130, 131, 132, 133, 134, 135, 136, 137, 138, 139, 140, 141, 142, 143, 144, 145, 146, 147, 148, 149, 150, 151, 152, 153] (fun n => [(114, .int .i64 (n : Nat))]) (fun n w' => n ≤ os.length ∧ Hp w w' [(b1, .cells #[.int .i64 (ck), .int .i64 (wt), .int .i64 (gn), .slice mA ms.length mC, .slice oA os.length oC] T_Group (0, 0))] [FRd memL 0 w.heap.size mA ms, FMp 0 w.heap.size ms, FRd offL 0 w.heap.size oA os]) (fun n => os.length - n) 0 ⟨by omega, H⟩ (sl1 rfl) ?_
  rintro n ρ3 w11 ⟨hn, H⟩
  show CW _ _ _ _ (updL (ovr _ _ ρ3) [(114, .int .i64 (n : Nat))]) w11
  refine Zs<|Zr ?_
  refine lwD (lss_r rfl rfl) rfl rfl rfl (fun h115 => ?_) (fun h115 => ?_)
  ·
   refine Zn<|Zs<|ZT rfl<|Zk<|Zs<|Zb<|Zs ?_
   obtain ⟨o, ho⟩ : ∃ o, os[n]? = some o := ⟨_, List.getElem?_eq_getElem (by omega)⟩
   have hob := hof o (List.mem_of_getElem? ho)
   refine Zr<|Zl (Yi rfl)<|ixF H 2 rfl sl_LOffset rfl rfl (by omega) (by omega) rfl fun bq12 o12 x12 e12 => ?_
   obtain rfl : o = x12 := by have := e12.at_; rw [ho] at this; exact Option.some.inj this
   refine Zl (ldA_r (xs := Off.c o) agg_Offset rfl rfl e12.cl)<|alo H z_Offset rfl fun w13 b8 H =>Zl (Wi rfl)<|stN H 0 (#[.int .i64 (o.part), .int .i64 (o.at_)]) siz_Offset rfl rfl rfl rfl rfl (by kernel_rfl) (by kernel_rfl) fun w14 H =>Zn<|Zs ?_
     
   refine cw_draw mixed [0, 1, 2, 3, 4, 5, 6, 7, 8, 9, 10, 11, 12, 13, 14, 15, 16, 17, 18, 19, 20, 21, 22, 23, 24, 25, 26, 27, 28, 29, 30, 31, 32, 33] [] [] [0, 2, 3, 4, 6, 7, 8, 9, 11, 12, 13, 14, 16, 17, 18, 19, 20, 21, 22, 24, 25, 26, 27, 29, 31, 32, 33] (sp []) (by kernel_rfl) (by kernel_rfl) (by kernel_rfl) (by kernel_rfl) (fun _ _ _ h => h) (sp_st _) ?_
   refine aw rfl rfl rfl rfl rfl (fun w' hw' => Zf fd_Offset_0 rfl)<|aw rfl rfl rfl rfl rfl (fun w' hw' => ld_r one_int rfl (cellE ((H.later hw').ent (i := 0) rfl) rfl))<|aw rfl rfl rfl rfl rfl (fun w' hw' => lssF_r rfl rfl (by omega))<|aw rfl rfl rfl rfl rfl (fun w' hw' => Yb rfl)<|aw rfl rfl rfl rfl rfl (fun w' hw' => Zf fd_Offset_0 rfl)<|aw rfl rfl rfl rfl rfl (fun w' hw' => ld_r one_int rfl (cellE ((H.later hw').ent (i := 0) rfl) rfl))<|aw rfl rfl rfl rfl rfl (fun w' hw' => geqF_r rfl rfl (by omega))<|aw rfl rfl rfl rfl rfl (fun w' hw' => Kf rfl rfl)<|aw rfl rfl rfl rfl rfl (fun w' hw' => Yb rfl)<|aw rfl rfl rfl rfl rfl (fun w' hw' => Zf fd_Offset_1 rfl)<|aw rfl rfl rfl rfl rfl (fun w' hw' => ld_r one_int rfl (cellE ((H.later hw').ent (i := 0) rfl) rfl))<|aw rfl rfl rfl rfl rfl (fun w' hw' => lssF_r rfl rfl (by omega))<|aw rfl rfl rfl rfl rfl (fun w' hw' => Kf rfl rfl)<|aw rfl rfl rfl rfl rfl (fun w' hw' => Yb rfl) ?_
   refine aw rfl rfl rfl rfl rfl (fun w' hw' => Zf fd_Offset_1 rfl)<|aw rfl rfl rfl rfl rfl (fun w' hw' => ld_r one_int rfl (cellE ((H.later hw').ent (i := 0) rfl) rfl))<|aw rfl rfl rfl rfl rfl (fun w' hw' => gtrF_r rfl rfl (by omega))<|aw rfl rfl rfl rfl rfl (fun w' hw' => Kf rfl rfl)<|aw rfl rfl rfl rfl rfl (fun w' hw' => Yb rfl)<|aw rfl rfl rfl rfl rfl (fun w' hw' => Yi rfl) ?_
   refine awD rfl rfl rfl rfl rfl (fun w' hw' => gtr_r rfl rfl) (fun h139 => ?_) (fun h139 => ?_)
   ·
    obtain ⟨i, hni⟩ : ∃ i, n = i + 1 := ⟨n - 1, by omega⟩
    obtain ⟨q, hq⟩ : ∃ q, os[i]? = some q := ⟨_, List.getElem?_eq_getElem (by omega)⟩
    have hqp : q.part < o.part := rise_at (f := Off.part) hor hq (hni ▸ ho)
    refine aw rfl rfl rfl rfl rfl (fun w' hw' => Yb rfl)<|aw rfl rfl rfl rfl rfl (fun w' hw' => Zf fd_Group_4 rfl)<|aw rfl rfl rfl rfl rfl (fun w' hw' => ld_r one_LOffset rfl (cellE ((H.later hw').ent (i := 1) rfl) rfl))<|aw rfl rfl rfl rfl rfl (fun w' hw' => Yi rfl)<|aw rfl rfl rfl rfl rfl (fun w' hw' => subE_r ((i : Nat) : Int) rfl rfl (by omega) (by omega) (by omega))<|awIxF H 2 rfl rfl rfl rfl rfl sl_LOffset rfl rfl (by omega) (by omega) fun bq15 o15 x15 e15 => ?_
    obtain rfl : q = x15 := by have := e15.at_; rw [hq] at this; exact Option.some.inj this
    refine aw rfl rfl rfl rfl rfl (fun w' hw' => Zf fd_Offset_0 rfl)<|aw rfl rfl rfl rfl rfl (fun w' hw' => ld_r one_int rfl (e15.later hw' 0 _ rfl))<|aw rfl rfl rfl rfl rfl (fun w' hw' => Zf fd_Offset_0 rfl)<|aw rfl rfl rfl rfl rfl (fun w' hw' => ld_r one_int rfl (cellE ((H.later hw').ent (i := 0) rfl) rfl))<|aw rfl rfl rfl rfl rfl (fun w' hw' => geqF_r rfl rfl (by omega))<|aw rfl rfl rfl rfl rfl (fun w' hw' => Kt rfl rfl)<|aw rfl rfl rfl rfl rfl (fun w' hw' => Kf rfl rfl)<|aw_nil ?_
    intro w16 hw' hF
    replace H := H.later hw'; clear hw' hF
    refine Zn<|ZF rfl<|Zk<|Zr<|Zl (add_r rfl rfl (by omega) (by omega))<|Zl (Yi rfl)<|Zn ?_
    exact ⟨n + 1, ⟨by omega, H.forget (.cons _ (List.Sublist.refl _)) (fun _ h => h)⟩, sl1 rfl, by repeat (first | exact Agr.refl _ _ | exact agr_ovr | refine agr_upd rfl ?_ | refine agr_updL _ rfl ?_ | refine agr_ovr2 rfl ?_), by show os.length - (n + 1) < os.length - n; omega⟩
   ·
    refine aw rfl rfl rfl rfl rfl (fun w' hw' => Yb rfl)<|awN rfl rfl rfl rfl<|awN rfl rfl rfl rfl<|awN rfl rfl rfl rfl<|awN rfl rfl rfl rfl<|awN rfl rfl rfl rfl<|awN rfl rfl rfl rfl<|awN rfl rfl rfl rfl<|awN rfl rfl rfl rfl<|awN rfl rfl rfl rfl<|awN rfl rfl rfl rfl<|aw rfl rfl rfl rfl rfl (fun w' hw' => Kf rfl rfl)<|aw rfl rfl rfl rfl rfl (fun w' hw' => Kf rfl rfl)<|aw_nil ?_
    intro w17 hw' hF
    replace H := H.later hw'; clear hw' hF
    refine Zn<|ZF rfl<|Zk<|Zr<|Zl (add_r rfl rfl (by omega) (by omega))<|Zl (Yi rfl)<|Zn ?_
    exact ⟨n + 1, ⟨by omega, H.forget (.cons _ (List.Sublist.refl _)) (fun _ h => h)⟩, sl1 rfl, by repeat (first | exact Agr.refl _ _ | exact agr_ovr | refine agr_upd rfl ?_ | refine agr_updL _ rfl ?_ | refine agr_ovr2 rfl ?_), by show os.length - (n + 1) < os.length - n; omega⟩
  ·
   refine Zn<|Zs<|ZF rfl<|Zx<|Zs<|Zr<|Zl (Wi rfl)<|Zn<|Zt ?_
   exact fin1 rfl rfl ⟨rfl, H.below⟩
end Go.Proofs.Ytemnchkebhclpaa
end

section
namespace Go.Proofs.Ytemnchkebhclpaa
open Go Go.Eng Go.RowKit
set_option linter.unusedSimpArgs false
set_option maxHeartbeats 4000000 in
set_option maxRecDepth 10000 in
theorem gCopy_ok (g : Gr) (w : World) (h : g.rd 0 w.heap.size w) : Ret Try.prog i_group_Copy [g.v] w fun v w2 => ∃ (g' : Gr) (Lm Lo : List (Nat × Obj)), v = g'.v ∧ OwnGr w w2 g.a g' Lm Lo := by
 refine ret_of fn_group_Copy rfl rfl ?_
 have hmC := h.mC
 have hoC := h.oC
 have hfew := h.few
 have hfp := h.fewP
 have H := Hp.startGr h
 obtain ⟨ck, wt, gn, ms, mA, mC, os, oA, oC⟩ := g
 dsimp only at hmC hoC hfew hfp H
 show CW _ _ _ _ (args [.agg #[.int .i64 (ck), .int .i64 (wt), .int .i64 (gn), .slice mA ms.length mC, .slice oA os.length oC]]) w
 refine Zs<|Zr<|bxA H rfl rfl fun w1 b1 H =>alo H z_Group rfl fun w2 b2 H =>Zn<|Zs ?_
 
 refine cw_draw mixed [0, 1, 3, 4, 2, 6, 5] [7, 8, 9] [2, 5] [0, 3, 6] (sp [(2, Sp.orow w2.heap.size memL T_Member ms), (5, Sp.orow w2.heap.size offL T_Offset os)]) (by kernel_rfl) (by kernel_rfl) (by kernel_rfl) (by kernel_rfl) (fun _ _ _ h => h) (sp_st _) ?_
 refine aw rfl rfl rfl rfl rfl (fun w' hw' => Zf fd_Group_3 rfl)<|aw rfl rfl rfl rfl rfl (fun w' hw' => ld_r one_LMember rfl (cellE ((H.later hw').ent (i := 1) rfl) rfl))<|aw rfl rfl rfl rfl rfl (fun w' hw' => Zf fd_Group_4 rfl)<|aw rfl rfl rfl rfl rfl (fun w' hw' => ld_r one_LOffset rfl (cellE ((H.later hw').ent (i := 1) rfl) rfl))<|awORow cb_slices_Clone_LMember_Member rfl rfl rfl rfl rfl (fun w' hw' => hw'.size) (fun w' hw' => clone_Member_ok ms _ _ w' ((H.later hw').rd0 0 rfl) (by omega)) rfl fun A6 c6 hc6 =>aw rfl rfl rfl rfl rfl (fun w' hw' => Zf fd_Group_3 rfl)<|awORow cb_slices_Clone_LOffset_Offset rfl rfl rfl rfl rfl (fun w' hw' => hw'.size) (fun w' hw' => clone_Offset_ok os _ _ w' ((H.later hw').rd0 2 rfl) (by omega)) rfl fun A9 c9 hc9 =>aw_nil ?_
 intro w3 hw' hF
 obtain ⟨hF, Aq, cq, L9, eq, hcq, hm9, ho9, he9, hn9⟩ := hF; cases eq; clear hcq
 obtain ⟨hF, Aq, cq, L6, eq, hcq, hm6, ho6, he6, hn6⟩ := hF; cases eq; clear hcq
 replace H := Hp.join2 H (Hp.ofNew hw' he6 hn6) (Hp.ofNew hw' he9 hn9) ho6 ho9 rfl
 clear hw' hF
 refine stN H 1 (#[.int .i64 (ck), .int .i64 (wt), .int .i64 (gn), .slice A6 ms.length c6, .slice oA os.length oC]) siz_LMember rfl rfl rfl rfl rfl (by kernel_rfl) (by kernel_rfl) fun w4 H =>Zl (Zf fd_Group_4 rfl)<|stN H 1 (#[.int .i64 (ck), .int .i64 (wt), .int .i64 (gn), .slice A6 ms.length c6, .slice A9 os.length c9]) siz_LOffset rfl rfl rfl rfl rfl (by kernel_rfl) (by kernel_rfl) fun w5 H =>Zn<|Zs<|Zs<|Zr<|Zl (Zf fd_Group_3 rfl)<|Zl (Zd one_LMember H 1 rfl rfl rfl)<|Zl (lenS_r len_LMember rfl)<|Zl (Yi rfl)<|Zn<|Zb ?_
 refine cw_loop (τ := Nat × List Mem × Option Addr) [3, 15, 16, 17, 18, 19, 20, 21, 22, 23, 24, 25, 26, 27, 28, 29, 30] (fun (k, _, _) => [(15, .int .i64 (k : Nat))]) (fun (k, out, A1) w' => k ≤ out.length ∧ out.length = ms.length ∧ out.map Mem.a = ms.map Mem.a ∧ out.drop k = ms.drop k ∧ (∀ m ∈ out.take k, m.parts.length ≤ m.cap ∧ w.heap.size ≤ m.lo) ∧ ∃ Lm, Own memL (.slice A1 out.length c6) T_Member out Lm ∧ Hp w w' ([(b2, .cells #[.int .i64 0, .int .i64 0, .int .i64 0, .slice none 0 0, .slice none 0 0] T_Group (0, 0)), (b1, .cells #[.int .i64 (ck), .int .i64 (wt), .int .i64 (gn), .slice A1 out.length c6, .slice A9 os.length c9] T_Group (0, 0))] ++ Lm ++ L9) ([FRd memL 0 w.heap.size mA ms, FMp 0 w.heap.size ms, FRd offL 0 w.heap.size oA os] ++ (out.take k).map memF)) (fun (k, out, _) => out.length - k) (0, ms, A6) ⟨by omega, rfl, rfl, rfl, by simp, L6, ho6, H⟩ (sl1 rfl) ?_
 rintro ⟨k, out, A1⟩ ρ1 w6 ⟨hk, hol, hma, hdr, hpc, Lm, ho, H⟩
 show CW _ _ _ _ (updL (ovr _ _ ρ1) [(15, .int .i64 (k : Nat))]) w6
 refine Zs<|Zr ?_
 refine lwD (lss_r rfl rfl) rfl rfl rfl (fun h16 => ?_) (fun h16 => ?_)
 ·
  refine Zn<|Zs<|ZT rfl<|Zk<|Zs<|Zb<|Zs ?_
  obtain ⟨x, hx⟩ : ∃ x, out[k]? = some x := ⟨_, List.getElem?_eq_getElem (by omega)⟩
  have hxt := drop_at hdr hx
  have hmem := List.mem_of_getElem? hxt
  have hfx := (hfp x hmem).1
  obtain ⟨g, cur, rfl, rfl, row⟩ := ho.row (by omega)
  refine Zr<|Zl (Yi rfl)<|Zl (Wi rfl)<|Zn ?_
   
  have hlo := H.size
  refine cw_draw mixed [0, 1, 2, 3, 4, 5, 6, 7, 8, 9, 10, 11] [12] [9] [0, 2, 3, 5, 6, 7, 10, 11] (sp [(9, Sp.row w6.heap.size intL x.parts)]) (by kernel_rfl) (by kernel_rfl) (by kernel_rfl) (by kernel_rfl) (fun _ _ _ h => h) (sp_st _) ?_
  refine aw rfl rfl rfl rfl rfl (fun w' hw' => Zf fd_Group_3 rfl)<|aw rfl rfl rfl rfl rfl (fun w' hw' => ld_r one_LMember rfl (cellE ((H.later hw').ent (i := 1) rfl) rfl))<|aw rfl rfl rfl rfl rfl (fun w' hw' => Yi rfl)<|aw rfl rfl rfl rfl rfl (fun w' hw' => Zf fd_Group_3 rfl)<|aw rfl rfl rfl rfl rfl (fun w' hw' => ld_r one_LMember rfl (cellE ((H.later hw').ent (i := 1) rfl) rfl))<|aw rfl rfl rfl rfl rfl (fun w' hw' => Yi rfl)<|aw rfl rfl rfl rfl rfl (fun w' hw' => ixR_r sl_LMember rfl rfl (by first | omega | (simp only [List.length_set]; omega)))<|aw rfl rfl rfl rfl rfl (fun w' hw' => Zf fd_Member_2 rfl)<|aw rfl rfl rfl rfl rfl (fun w' hw' => ldR_r one_Lint row hx 2 rfl ((H.later hw').ent (i := 2) rfl) rfl)<|awRow cb_slices_Clone_Lint_int rfl rfl rfl rfl rfl (fun w' hw' => hw'.size) (fun w' hw' => clone_int_rd x.parts _ _ w' (mp0 (H.later hw') 1 rfl hmem) (by omega)) rfl fun A27 c27 hc27 =>aw rfl rfl rfl rfl rfl (fun w' hw' => ixR_r sl_LMember rfl rfl (by first | omega | (simp only [List.length_set]; omega)))<|aw rfl rfl rfl rfl rfl (fun w' hw' => Zf fd_Member_2 rfl)<|aw_nil ?_
  intro w7 hw' hF
  obtain ⟨hF, Aq, cq, eq, hcq, hrw27⟩ := hF; cases eq; clear hcq
  replace H := H.learnRd hw' hrw27
  clear hw' hF
  refine stR H 2 ({ x with A := A27, cap := c27, lo := w6.heap.size, hi := w7.heap.size }) siz_Lint row hx 2 rfl rfl rfl rfl rfl rfl (by kernel_rfl) fun w9 cur8 row8 H => ?_
  have hs10 : (out.set k ({ x with A := A27, cap := c27, lo := w6.heap.size, hi := w7.heap.size }))[k]? = some ({ x with A := A27, cap := c27, lo := w6.heap.size, hi := w7.heap.size }) := List.getElem?_set_self (getE hx).1
  refine Zn<|Zr<|Zl (add_r rfl rfl (by omega) (by omega))<|Zl (Yi rfl)<|Zn ?_
  obtain ⟨z1, z2, z3⟩ := copyG (x' := { x with A := A27, cap := c27, lo := w6.heap.size, hi := w7.heap.size }) hx hma hdr rfl
  have hown := Row.own (g := g) (e := T_Member) row8
  refine ⟨(k + 1, out.set k { x with A := A27, cap := c27, lo := w6.heap.size, hi := w7.heap.size }, some ⟨g, 0, none⟩), ⟨by rw [List.length_set]; omega, by rw [List.length_set]; exact hol, z1, z2, ?_, _, hown, ?_⟩, sl1 rfl, by repeat (first | exact Agr.refl _ _ | exact agr_ovr | refine agr_upd rfl ?_ | refine agr_updL _ rfl ?_ | refine agr_ovr2 rfl ?_), by show (out.set k _).length - (k + 1) < out.length - k; rw [List.length_set]; omega⟩
  ·
   rw [z3]; intro t ht; rcases List.mem_append.1 ht with ht | ht; exact hpc t ht; rw [List.mem_singleton.1 ht]; exact ⟨hc27, hlo⟩
  ·
   rw [List.length_set]; exact H.forget (List.Sublist.refl _) (fun f hf => by rw [z3] at hf; exact mem_memsF_snoc hf)
 ·
  refine Zn<|Zs<|ZF rfl<|Zx<|Zs<|Zr<|Zl (Zw agg_Group H 1 rfl rfl rfl)<|stN H 0 (#[.int .i64 (ck), .int .i64 (wt), .int .i64 (gn), .slice A1 out.length c6, .slice A9 os.length c9]) siz_Group rfl rfl rfl rfl rfl (by kernel_rfl) (by kernel_rfl) fun w11 H =>Zn<|Zt ?_
  have hke : k = out.length := by omega
  rw [hke, List.take_length] at H hpc
  exact finC (cs0 := #[.int .i64 (ck), .int .i64 (wt), .int .i64 (gn), .slice A1 out.length c6, .slice A9 os.length c9]) rfl agg_Group rfl (H.ent (i := 0) rfl) rfl ⟨⟨ck, wt, gn, out, A1, c6, os, A9, c9⟩, Lm, L9, rfl, by unfold Gr.a; dsimp only; rw [hma], ho, ho9, by dsimp only; omega, hc9, hpc, H.forget (by rw [List.append_assoc]; exact .cons _ (.cons _ (List.Sublist.refl _))) (fun f hf => List.mem_append_right _ hf)⟩
end Go.Proofs.Ytemnchkebhclpaa
end

section
namespace Go.Proofs.Ytemnchkebhclpaa
open Go Go.Eng Go.RowKit
set_option linter.unusedSimpArgs false
theorem Hp.joinG {w0 w w' : World} {L Lm Lo : List (Nat × Obj)} {F : List Fact} {ms : List Mem} (H : Hp w0 w L F) (H' : Hp w w' (Lm ++ Lo) (ms.map memF)) (hlo : ∀ m ∈ ms, w.heap.size ≤ m.lo) : Hp w0 w' (L ++ Lm ++ Lo) (F ++ ms.map memF) := by
 refine (H.joinF H' fun f hf => ?_).perm ?_
 ·
  obtain ⟨m, hm, rfl⟩ := List.mem_map.1 hf
  exact hlo m hm
 ·
  rw [List.append_assoc]; exact List.perm_append_comm
def gIdx (g : Gr) (s : ByteArray) : Int := idxI (g.ms.findIdx? fun p => decide (p.name = s))
theorem gidx_find {g : Gr} {s : ByteArray} {i : Nat} (h : gIdx g s = i) : ∃ t, g.ms[i]? = some t ∧ t.name = s := by
 unfold gIdx at h
 cases hi : g.ms.findIdx? fun p => decide (p.name = s) with
 | none => rw [hi] at h; simp [idxI] at h
 | some j =>
  rw [hi] at h
  obtain ⟨hl, h1, -⟩ := List.findIdx?_eq_some_iff_getElem.1 hi
  have : j = i := by simp [idxI] at h; omega
  subst this
  exact ⟨_, List.getElem?_eq_getElem hl, by simpa using h1⟩
theorem mem_at {l l2 : List Mem} (h : l2.map Mem.a = l.map Mem.a) {i : Nat} {t : Mem} (ht : l[i]? = some t) : ∃ t2, l2[i]? = some t2 ∧ t2.a = t.a := by
 have := congrArg (fun x => x[i]?) h
 simp only [List.getElem?_map, ht, Option.map_some] at this
 exact Option.map_eq_some_iff.1 this
/-- P6.4: may there be so many parts, and a generation more? -/
def countOk (g : Gr) (n : Int) : Bool := decide (0 ≤ n) && decide (n ≤ 4) && decide (g.gen < 1073741824)
set_option maxHeartbeats 4000000 in
set_option maxRecDepth 10000 in
theorem gNew_ok (n : Int) (w : World) (h1 : 1 ≤ n) (h2 : n ≤ 1000) : Ret Try.prog i_group_New [.int .i64 n] w fun v w2 => v = .tuple #[.agg #[.int .i64 0, .int .i64 n, .int .i64 0, .slice none 0 0, .slice none 0 0], .int .i64 0] ∧ Below w.heap.size w w2 := by
 refine ret_of fn_group_New rfl rfl ?_
 have H := Hp.start w
 refine Zs<|Zr<|alo H z_Group rfl fun w1 b2 H =>Zl (Wi rfl)<|Zn<|Zs<|Zs<|Zr<|Zl (Yi rfl)<|Zl (lssF_r rfl rfl (by omega))<|Zl (Yb rfl)<|ZG<|Zl (Yi rfl)<|ZG ?_
 refine Zl (gtrF_r rfl rfl (by omega))<|Zl (Kf rfl rfl)<|Zn<|ZF rfl<|Zk<|Zs<|Zr<|Zl (Yi rfl)<|Zl (bld_r (cs := #[.int .i64 (0), .int .i64 (n), .int .i64 (0), .slice none 0 0, .slice none 0 0]) st_Group z_Group (by kernel_rfl))<|stN H 0 (#[.int .i64 (0), .int .i64 (n), .int .i64 (0), .slice none 0 0, .slice none 0 0]) siz_Group rfl rfl rfl rfl rfl (by kernel_rfl) (by kernel_rfl) fun w2 H =>Zl (Wi rfl)<|Zn<|Zt ?_
 exact finCTn (cs0 := #[.int .i64 0, .int .i64 n, .int .i64 0, .slice none 0 0, .slice none 0 0]) (v1 := .int .i64 0) rfl agg_Group rfl (H.ent (i := 0) rfl) rfl rfl ⟨rfl, H.below⟩
set_option maxHeartbeats 4000000 in
set_option maxRecDepth 10000 in
theorem counted_ok (g : Gr) (n : Int) (w : World) : Ret Try.prog i_group_counted [g.v, .int .i64 n] w fun v w2 => v = .bool (countOk g n) ∧ Below w.heap.size w w2 := by
 refine ret_of fn_group_counted rfl rfl ?_
 have H := Hp.start w
 obtain ⟨ck, wt, gn, ms, mA, mC, os, oA, oC⟩ := g
 show CW _ _ _ _ (args [.agg #[.int .i64 (ck), .int .i64 (wt), .int .i64 (gn), .slice mA ms.length mC, .slice oA os.length oC], .int .i64 (n)]) w
 refine Zs<|Zr<|bxA H rfl rfl fun w1 b2 H =>Zl (Wb rfl)<|Zn<|Zs<|Zr<|Zl (Yi rfl) ?_
 refine lwD (geq_r rfl rfl) rfl rfl rfl (fun h6 => ?_) (fun h6 => ?_)
 ·
  refine Zl (Yb rfl)<|ZG<|Zl (Yi rfl)<|ZG ?_
  refine lwD (leq_r rfl rfl) rfl rfl rfl (fun h9 => ?_) (fun h9 => ?_)
  ·
   refine Zl (Kt rfl rfl)<|Zl (Yb rfl)<|ZG<|Zl (Zf fd_Group_2 rfl)<|ZG<|Zl (Zd one_int H 0 rfl rfl rfl)<|ZG ?_
   refine lwD (lss_r rfl rfl) rfl rfl rfl (fun h14 => ?_) (fun h14 => ?_)
   ·
    refine Zl (Kt rfl rfl)<|Zl (Wb rfl)<|Zn<|Zt ?_
    have hv : countOk ⟨ck, wt, gn, ms, mA, mC, os, oA, oC⟩ n = true := by unfold countOk; simp; omega
    exact fin1 (v := .bool true) rfl rfl ⟨by rw [hv], H.below⟩
   ·
    refine Zl (Kt rfl rfl)<|Zl (Wb rfl)<|Zn<|Zt ?_
    have hv : countOk ⟨ck, wt, gn, ms, mA, mC, os, oA, oC⟩ n = false := by unfold countOk; simp; omega
    exact fin1 (v := .bool false) rfl rfl ⟨by rw [hv], H.below⟩
  ·
   refine Zl (Kt rfl rfl)<|Zl (Yb rfl)<|ZN<|ZN<|ZN<|Zl (Kf rfl rfl)<|Zl (Wb rfl)<|Zn<|Zt ?_
   have hv : countOk ⟨ck, wt, gn, ms, mA, mC, os, oA, oC⟩ n = false := by unfold countOk; simp; omega
   exact fin1 (v := .bool false) rfl rfl ⟨by rw [hv], H.below⟩
 ·
  refine Zl (Yb rfl)<|ZN<|ZN<|Zl (Kf rfl rfl)<|Zl (Yb rfl)<|ZN<|ZN<|ZN<|Zl (Kf rfl rfl)<|Zl (Wb rfl)<|Zn<|Zt ?_
  have hv : countOk ⟨ck, wt, gn, ms, mA, mC, os, oA, oC⟩ n = false := by unfold countOk; simp; omega
  exact fin1 (v := .bool false) rfl rfl ⟨by rw [hv], H.below⟩
set_option maxHeartbeats 4000000 in
set_option maxRecDepth 10000 in
theorem gfind_ok (g : Gr) (s : ByteArray) (w : World) (h : g.rd 0 w.heap.size w) (hok : grOk g = true) (hn : nameOk s = true) : Ret Try.prog i_group_find [g.v, .string s] w fun v w2 => ∃ (g' : Gr) (Lm Lo : List (Nat × Obj)), v = .tuple #[g'.v, .int .i64 (gIdx g s), .int .i64 0] ∧ OwnGr w w2 g.a g' Lm Lo := by
 refine ret_of fn_group_find rfl rfl ?_
 have hmC := h.mC
 have hoC := h.oC
 have hfew := h.few
 have hfp := h.fewP
 have H := Hp.startGr h
 obtain ⟨ck, wt, gn, ms, mA, mC, os, oA, oC⟩ := g
 dsimp only at hmC hoC hfew hfp H
 show CW _ _ _ _ (args [.agg #[.int .i64 (ck), .int .i64 (wt), .int .i64 (gn), .slice mA ms.length mC, .slice oA os.length oC], .string (s)]) w
 refine Zs<|Zr<|bxA H rfl rfl fun w1 b2 H =>bxT H rfl rfl fun w2 b3 H =>alo H z_Group rfl fun w3 b4 H =>Zl (Wi rfl)<|Zl (Wi rfl)<|Zn<|Zs<|Zs<|Zr<|Zl (Zw agg_Group H 2 rfl rfl rfl)<|cal cb_group_Check (gCheck_ok ⟨ck, wt, gn, ms, mA, mC, os, oA, oC⟩ _ ⟨H.rd0 0 rfl, fun m hm => mp0 H 1 rfl hm, H.rd0 2 rfl, hmC, hoC, hfew, hfp⟩ hok) rfl rfl ?_
 rintro _ w4 ⟨rfl, hb⟩; replace H := H.later hb; clear hb
 refine Zl (Wi rfl)<|Zn<|Zs<|Zr<|Zl (Yi rfl)<|Zl (neqF_r rfl rfl rfl)<|Zn<|ZF rfl<|Zk<|Zs<|Zs<|Zr<|Zl (Zd one_string H 1 rfl rfl rfl)<|cal cb_group_name (gname_ok s _) rfl rfl ?_
 rw [hn]
 rintro _ w5 ⟨rfl, hb⟩; replace H := H.later hb; clear hb
 refine Zl (not_r rfl)<|Zn<|ZF rfl<|Zk<|Zs ?_
 
 refine cw_tree mixed [2, 4] [0, 1, 3, 5, 6, 7, 8] [2, 4] 7 (by kernel_rfl) (by kernel_rfl) (by kernel_rfl) (fun _ _ _ h => h) ?_
 refine aw rfl rfl rfl rfl rfl (fun w' hw' => Zf fd_Group_3 rfl)<|aw rfl rfl rfl rfl rfl (fun w' hw' => mkf_r rfl)<|aw_nil ?_
 intro w6 hw'; replace H := H.later hw'; clear hw'
 refine xw2 0 3 (by kernel_rfl) rfl rfl ?_ ?_ 
 ·
  refine Zl (Zw agg_Group H 2 rfl rfl rfl)<|Zn ?_
  refine xw2 1 3 (by kernel_rfl) rfl rfl ?_ ?_ 
  ·
   refine cal cb_group_Copy (gCopy_ok ⟨ck, wt, gn, ms, mA, mC, os, oA, oC⟩ _ ⟨H.rd0 0 rfl, fun m hm => mp0 H 1 rfl hm, H.rd0 2 rfl, hmC, hoC, hfew, hfp⟩) rfl rfl ?_
   rintro _ w7 ⟨⟨ck2, wt2, gn2, ms2, mA2, mC2, os2, oA2, oC2⟩, Lm, Lo, rfl, ha2, ho2, hoo2, hmc2, hoc2, hpc2, hj2⟩
   have hlo2 := H.size
   replace H := Hp.joinG H hj2 (fun m hm => (hpc2 m hm).2); clear hj2
   simp only [Gr.a, Gr.mk.injEq] at ha2
   obtain ⟨e1, e2, e3, hma, -, -, e4, -, -⟩ := ha2
   obtain rfl : ck = ck2 := e1.symm
   obtain rfl : wt = wt2 := e2.symm
   obtain rfl : gn = gn2 := e3.symm
   obtain rfl : os = os2 := e4.symm
   dsimp only at ho2 hoo2 hmc2 hoc2 hpc2 H
   replace hpc2 : ∀ m ∈ ms2, m.parts.length ≤ m.cap ∧ w.heap.size ≤ m.lo := fun m hm => ⟨(hpc2 m hm).1, Nat.le_trans hlo2 (hpc2 m hm).2⟩
   have hml2 : ms2.length = ms.length := by have := congrArg List.length hma; simpa using this
   refine Zn<|xw1 3 (by kernel_rfl) rfl<|Zl (Zd one_LMember H 2 rfl rfl rfl)<|Zn<|xw1 5 (by kernel_rfl) rfl<|cal cb_slices_IndexFunc_LMember_Member (indexFunc_Member_ok ms mA mC _ (H.rd0 0 rfl) (by omega) i_group_find_c1 [.pointer (some ⟨b3, 0, none⟩)] cb_group_find_c1 (fun p => decide (p.name = s)) (fun e w2 _ hw2 => gfind_c1_ok e s b3 w2 ((hw2.block _ (lt_of_heap (H.ent (i := 1) rfl))).trans (H.ent (i := 1) rfl)))) rfl rfl ?_
   rintro _ w8 ⟨rfl, hb⟩; replace H := H.later hb; clear hb
   refine Zn<|xw1 6 (by kernel_rfl) rfl<|stN H 0 (#[.int .i64 (ck), .int .i64 (wt), .int .i64 (gn), .slice mA2 ms2.length mC2, .slice oA2 os.length oC2]) siz_Group rfl rfl rfl rfl rfl (by kernel_rfl) (by kernel_rfl) fun w9 H =>Zn<|xw1 7 (by kernel_rfl) rfl<|Zl (Wi rfl)<|Zn<|xw1 8 (by kernel_rfl) rfl<|Zl (Wi rfl)<|Zn<|xw_end (by kernel_rfl)<|Zt ?_
   exact finCTT (cs0 := #[.int .i64 (ck), .int .i64 (wt), .int .i64 (gn), .slice mA2 ms2.length mC2, .slice oA2 os.length oC2]) (v1 := .int .i64 (idxI (ms.findIdx? fun p => decide (p.name = s)))) (v2 := .int .i64 0) rfl agg_Group rfl (H.ent (i := 0) rfl) rfl rfl rfl ⟨⟨ck, wt, gn, ms2, mA2, mC2, os, oA2, oC2⟩, Lm, Lo, rfl, by unfold Gr.a; dsimp only; rw [hma], ho2, hoo2, hmc2, hoc2, hpc2, H.forget (by rw [List.append_assoc]; exact .cons _ (.cons _ (.cons _ (List.Sublist.refl _)))) (fun f hf => by simp only [List.mem_cons, List.mem_append]; grind)⟩
  ·
   refine Zl (Zd one_LMember H 2 rfl rfl rfl)<|Zn<|xw1 1 (by kernel_rfl) rfl<|cal cb_group_Copy (gCopy_ok ⟨ck, wt, gn, ms, mA, mC, os, oA, oC⟩ _ ⟨H.rd0 0 rfl, fun m hm => mp0 H 1 rfl hm, H.rd0 2 rfl, hmC, hoC, hfew, hfp⟩) rfl rfl ?_
   rintro _ w10 ⟨⟨ck2, wt2, gn2, ms2, mA2, mC2, os2, oA2, oC2⟩, Lm, Lo, rfl, ha2, ho2, hoo2, hmc2, hoc2, hpc2, hj2⟩
   have hlo2 := H.size
   replace H := Hp.joinG H hj2 (fun m hm => (hpc2 m hm).2); clear hj2
   simp only [Gr.a, Gr.mk.injEq] at ha2
   obtain ⟨e1, e2, e3, hma, -, -, e4, -, -⟩ := ha2
   obtain rfl : ck = ck2 := e1.symm
   obtain rfl : wt = wt2 := e2.symm
   obtain rfl : gn = gn2 := e3.symm
   obtain rfl : os = os2 := e4.symm
   dsimp only at ho2 hoo2 hmc2 hoc2 hpc2 H
   replace hpc2 : ∀ m ∈ ms2, m.parts.length ≤ m.cap ∧ w.heap.size ≤ m.lo := fun m hm => ⟨(hpc2 m hm).1, Nat.le_trans hlo2 (hpc2 m hm).2⟩
   have hml2 : ms2.length = ms.length := by have := congrArg List.length hma; simpa using this
   refine Zn<|xw1 5 (by kernel_rfl) rfl<|cal cb_slices_IndexFunc_LMember_Member (indexFunc_Member_ok ms mA mC _ (H.rd0 0 rfl) (by omega) i_group_find_c1 [.pointer (some ⟨b3, 0, none⟩)] cb_group_find_c1 (fun p => decide (p.name = s)) (fun e w2 _ hw2 => gfind_c1_ok e s b3 w2 ((hw2.block _ (lt_of_heap (H.ent (i := 1) rfl))).trans (H.ent (i := 1) rfl)))) rfl rfl ?_
   rintro _ w11 ⟨rfl, hb⟩; replace H := H.later hb; clear hb
   refine Zn<|xw1 6 (by kernel_rfl) rfl<|stN H 0 (#[.int .i64 (ck), .int .i64 (wt), .int .i64 (gn), .slice mA2 ms2.length mC2, .slice oA2 os.length oC2]) siz_Group rfl rfl rfl rfl rfl (by kernel_rfl) (by kernel_rfl) fun w12 H =>Zn<|xw1 7 (by kernel_rfl) rfl<|Zl (Wi rfl)<|Zn<|xw1 8 (by kernel_rfl) rfl<|Zl (Wi rfl)<|Zn<|xw_end (by kernel_rfl)<|Zt ?_
   exact finCTT (cs0 := #[.int .i64 (ck), .int .i64 (wt), .int .i64 (gn), .slice mA2 ms2.length mC2, .slice oA2 os.length oC2]) (v1 := .int .i64 (idxI (ms.findIdx? fun p => decide (p.name = s)))) (v2 := .int .i64 0) rfl agg_Group rfl (H.ent (i := 0) rfl) rfl rfl rfl ⟨⟨ck, wt, gn, ms2, mA2, mC2, os, oA2, oC2⟩, Lm, Lo, rfl, by unfold Gr.a; dsimp only; rw [hma], ho2, hoo2, hmc2, hoc2, hpc2, H.forget (by rw [List.append_assoc]; exact .cons _ (.cons _ (.cons _ (List.Sublist.refl _)))) (fun f hf => by simp only [List.mem_cons, List.mem_append]; grind)⟩
 ·
  refine Zl (Zd one_LMember H 2 rfl rfl rfl)<|Zn<|xw1 0 (by kernel_rfl) rfl<|Zl (Zw agg_Group H 2 rfl rfl rfl)<|Zn<|xw1 1 (by kernel_rfl) rfl<|cal cb_group_Copy (gCopy_ok ⟨ck, wt, gn, ms, mA, mC, os, oA, oC⟩ _ ⟨H.rd0 0 rfl, fun m hm => mp0 H 1 rfl hm, H.rd0 2 rfl, hmC, hoC, hfew, hfp⟩) rfl rfl ?_
  rintro _ w13 ⟨⟨ck2, wt2, gn2, ms2, mA2, mC2, os2, oA2, oC2⟩, Lm, Lo, rfl, ha2, ho2, hoo2, hmc2, hoc2, hpc2, hj2⟩
  have hlo2 := H.size
  replace H := Hp.joinG H hj2 (fun m hm => (hpc2 m hm).2); clear hj2
  simp only [Gr.a, Gr.mk.injEq] at ha2
  obtain ⟨e1, e2, e3, hma, -, -, e4, -, -⟩ := ha2
  obtain rfl : ck = ck2 := e1.symm
  obtain rfl : wt = wt2 := e2.symm
  obtain rfl : gn = gn2 := e3.symm
  obtain rfl : os = os2 := e4.symm
  dsimp only at ho2 hoo2 hmc2 hoc2 hpc2 H
  replace hpc2 : ∀ m ∈ ms2, m.parts.length ≤ m.cap ∧ w.heap.size ≤ m.lo := fun m hm => ⟨(hpc2 m hm).1, Nat.le_trans hlo2 (hpc2 m hm).2⟩
  have hml2 : ms2.length = ms.length := by have := congrArg List.length hma; simpa using this
  refine Zn<|xw1 5 (by kernel_rfl) rfl<|cal cb_slices_IndexFunc_LMember_Member (indexFunc_Member_ok ms mA mC _ (H.rd0 0 rfl) (by omega) i_group_find_c1 [.pointer (some ⟨b3, 0, none⟩)] cb_group_find_c1 (fun p => decide (p.name = s)) (fun e w2 _ hw2 => gfind_c1_ok e s b3 w2 ((hw2.block _ (lt_of_heap (H.ent (i := 1) rfl))).trans (H.ent (i := 1) rfl)))) rfl rfl ?_
  rintro _ w14 ⟨rfl, hb⟩; replace H := H.later hb; clear hb
  refine Zn<|xw1 6 (by kernel_rfl) rfl<|stN H 0 (#[.int .i64 (ck), .int .i64 (wt), .int .i64 (gn), .slice mA2 ms2.length mC2, .slice oA2 os.length oC2]) siz_Group rfl rfl rfl rfl rfl (by kernel_rfl) (by kernel_rfl) fun w15 H =>Zn<|xw1 7 (by kernel_rfl) rfl<|Zl (Wi rfl)<|Zn<|xw1 8 (by kernel_rfl) rfl<|Zl (Wi rfl)<|Zn<|xw_end (by kernel_rfl)<|Zt ?_
  exact finCTT (cs0 := #[.int .i64 (ck), .int .i64 (wt), .int .i64 (gn), .slice mA2 ms2.length mC2, .slice oA2 os.length oC2]) (v1 := .int .i64 (idxI (ms.findIdx? fun p => decide (p.name = s)))) (v2 := .int .i64 0) rfl agg_Group rfl (H.ent (i := 0) rfl) rfl rfl rfl ⟨⟨ck, wt, gn, ms2, mA2, mC2, os, oA2, oC2⟩, Lm, Lo, rfl, by unfold Gr.a; dsimp only; rw [hma], ho2, hoo2, hmc2, hoc2, hpc2, H.forget (by rw [List.append_assoc]; exact .cons _ (.cons _ (.cons _ (List.Sublist.refl _)))) (fun f hf => by simp only [List.mem_cons, List.mem_append]; grind)⟩
set_option maxHeartbeats 4000000 in
set_option maxRecDepth 10000 in
theorem here_none (g : Gr) (s : ByteArray) (gn_ : Int) (w : World) (h : g.rd 0 w.heap.size w) (hok : grOk g = true) (hn : nameOk s = true) (hi : gIdx g s = -1) : Ret Try.prog i_group_here [g.v, .string s, .int .i64 gn_] w fun v w2 => v = .tuple #[.agg #[.int .i64 0, .int .i64 0, .int .i64 0, .slice none 0 0, .slice none 0 0], .int .i64 0, .int .i64 5] ∧ Below w.heap.size w w2 := by
 refine ret_of fn_group_here rfl rfl ?_
 have hmC := h.mC
 have hoC := h.oC
 have hfew := h.few
 have hfp := h.fewP
 have H := Hp.startGr h
 obtain ⟨ck, wt, gn, ms, mA, mC, os, oA, oC⟩ := g
 dsimp only at hmC hoC hfew hfp H
 show CW _ _ _ _ (args [.agg #[.int .i64 (ck), .int .i64 (wt), .int .i64 (gn), .slice mA ms.length mC, .slice oA os.length oC], .string (s), .int .i64 (gn_)]) w
 refine Zs<|Zr<|bxA H rfl rfl fun w1 b3 H =>alo H z_Group rfl fun w2 b6 H =>Zl (Wi rfl)<|Zl (Wi rfl)<|Zn<|Zs<|Zr<|Zl (Zw agg_Group H 1 rfl rfl rfl)<|Zl (Yt rfl)<|cal cb_group_find (gfind_ok ⟨ck, wt, gn, ms, mA, mC, os, oA, oC⟩ s _ ⟨H.rd0 0 rfl, fun m hm => mp0 H 1 rfl hm, H.rd0 2 rfl, hmC, hoC, hfew, hfp⟩ hok hn) rfl rfl ?_
 rintro _ w3 ⟨⟨ck2, wt2, gn2, ms2, mA2, mC2, os2, oA2, oC2⟩, Lm, Lo, rfl, ha2, ho2, hoo2, hmc2, hoc2, hpc2, hj2⟩
 have hlo2 := H.size
 replace H := Hp.joinG H hj2 (fun m hm => (hpc2 m hm).2); clear hj2
 simp only [Gr.a, Gr.mk.injEq] at ha2
 obtain ⟨e1, e2, e3, hma, -, -, e4, -, -⟩ := ha2
 obtain rfl : ck = ck2 := e1.symm
 obtain rfl : wt = wt2 := e2.symm
 obtain rfl : gn = gn2 := e3.symm
 obtain rfl : os = os2 := e4.symm
 dsimp only at ho2 hoo2 hmc2 hoc2 hpc2 H
 replace hpc2 : ∀ m ∈ ms2, m.parts.length ≤ m.cap ∧ w.heap.size ≤ m.lo := fun m hm => ⟨(hpc2 m hm).1, Nat.le_trans hlo2 (hpc2 m hm).2⟩
 have hml2 : ms2.length = ms.length := by have := congrArg List.length hma; simpa using this
 rw [hi]
 refine Zl (Yu rfl)<|Zl (Xa rfl rfl)<|Zl (Xi rfl rfl)<|Zl (Xi rfl rfl)<|stN H 1 (#[.int .i64 (ck), .int .i64 (wt), .int .i64 (gn), .slice mA2 ms2.length mC2, .slice oA2 os.length oC2]) siz_Group rfl rfl rfl rfl rfl (by kernel_rfl) (by kernel_rfl) fun w4 H =>Zl (Wi rfl)<|Zl (Wi rfl)<|Zn<|Zs<|Zb<|Zs<|Zr<|Zl (Yi rfl)<|Zl (neqF_r rfl rfl rfl) ?_
 refine Zl (Wb rfl)<|Zn<|ZF rfl<|Zs<|Zr<|Zl (Yi rfl)<|Zl (lssT_r rfl rfl (by decide))<|Zl (Wb rfl)<|Zn<|ZT rfl<|Zs<|Zr<|Zl (bld_r (cs := #[.int .i64 (0), .int .i64 (0), .int .i64 (0), .slice none 0 0, .slice none 0 0]) st_Group z_Group (by kernel_rfl))<|stN H 0 (#[.int .i64 (0), .int .i64 (0), .int .i64 (0), .slice none 0 0, .slice none 0 0]) siz_Group rfl rfl rfl rfl rfl (by kernel_rfl) (by kernel_rfl) fun w5 H => ?_
 refine Zl (Wi rfl)<|Zl (Wi rfl)<|Zn<|Zt ?_
 exact finCTT (cs0 := #[.int .i64 0, .int .i64 0, .int .i64 0, .slice none 0 0, .slice none 0 0]) (v1 := .int .i64 0) (v2 := .int .i64 5) rfl agg_Group rfl (H.ent (i := 0) rfl) rfl rfl rfl ⟨rfl, H.below⟩
set_option maxHeartbeats 4000000 in
set_option maxRecDepth 10000 in
theorem here_fence (g : Gr) (s : ByteArray) (gn_ : Int) (w : World) (h : g.rd 0 w.heap.size w) (hok : grOk g = true) (hn : nameOk s = true) (i : Nat) (hi : gIdx g s = i) (hg : g.gen ≠ gn_) : Ret Try.prog i_group_here [g.v, .string s, .int .i64 gn_] w fun v w2 => v = .tuple #[.agg #[.int .i64 0, .int .i64 0, .int .i64 0, .slice none 0 0, .slice none 0 0], .int .i64 0, .int .i64 10] ∧ Below w.heap.size w w2 := by
 refine ret_of fn_group_here rfl rfl ?_
 have hmC := h.mC
 have hoC := h.oC
 have hfew := h.few
 have hfp := h.fewP
 have H := Hp.startGr h
 obtain ⟨ck, wt, gn, ms, mA, mC, os, oA, oC⟩ := g
 dsimp only at hmC hoC hfew hfp H
 show CW _ _ _ _ (args [.agg #[.int .i64 (ck), .int .i64 (wt), .int .i64 (gn), .slice mA ms.length mC, .slice oA os.length oC], .string (s), .int .i64 (gn_)]) w
 dsimp only at hg
 refine Zs<|Zr<|bxA H rfl rfl fun w1 b3 H =>alo H z_Group rfl fun w2 b6 H =>Zl (Wi rfl)<|Zl (Wi rfl)<|Zn<|Zs<|Zr<|Zl (Zw agg_Group H 1 rfl rfl rfl)<|Zl (Yt rfl)<|cal cb_group_find (gfind_ok ⟨ck, wt, gn, ms, mA, mC, os, oA, oC⟩ s _ ⟨H.rd0 0 rfl, fun m hm => mp0 H 1 rfl hm, H.rd0 2 rfl, hmC, hoC, hfew, hfp⟩ hok hn) rfl rfl ?_
 rintro _ w3 ⟨⟨ck2, wt2, gn2, ms2, mA2, mC2, os2, oA2, oC2⟩, Lm, Lo, rfl, ha2, ho2, hoo2, hmc2, hoc2, hpc2, hj2⟩
 have hlo2 := H.size
 replace H := Hp.joinG H hj2 (fun m hm => (hpc2 m hm).2); clear hj2
 simp only [Gr.a, Gr.mk.injEq] at ha2
 obtain ⟨e1, e2, e3, hma, -, -, e4, -, -⟩ := ha2
 obtain rfl : ck = ck2 := e1.symm
 obtain rfl : wt = wt2 := e2.symm
 obtain rfl : gn = gn2 := e3.symm
 obtain rfl : os = os2 := e4.symm
 dsimp only at ho2 hoo2 hmc2 hoc2 hpc2 H
 replace hpc2 : ∀ m ∈ ms2, m.parts.length ≤ m.cap ∧ w.heap.size ≤ m.lo := fun m hm => ⟨(hpc2 m hm).1, Nat.le_trans hlo2 (hpc2 m hm).2⟩
 have hml2 : ms2.length = ms.length := by have := congrArg List.length hma; simpa using this
 rw [hi]
 refine Zl (Yu rfl)<|Zl (Xa rfl rfl)<|Zl (Xi rfl rfl)<|Zl (Xi rfl rfl)<|stN H 1 (#[.int .i64 (ck), .int .i64 (wt), .int .i64 (gn), .slice mA2 ms2.length mC2, .slice oA2 os.length oC2]) siz_Group rfl rfl rfl rfl rfl (by kernel_rfl) (by kernel_rfl) fun w4 H =>Zl (Wi rfl)<|Zl (Wi rfl)<|Zn<|Zs<|Zb<|Zs<|Zr<|Zl (Yi rfl)<|Zl (neqF_r rfl rfl rfl) ?_
 refine Zl (Wb rfl)<|Zn<|ZF rfl<|Zs<|Zr<|Zl (Yi rfl)<|Zl (lssF_r rfl rfl (by omega))<|Zl (Wb rfl)<|Zn<|ZF rfl<|Zs<|Zr<|Zl (Zf fd_Group_2 rfl)<|Zl (Zd one_int H 1 rfl rfl rfl) ?_
 refine Zl (Yi rfl)<|Zl (neqT_r rfl rfl (by omega))<|Zl (Wb rfl)<|Zn<|ZT rfl<|Zs<|Zr<|Zl (bld_r (cs := #[.int .i64 (0), .int .i64 (0), .int .i64 (0), .slice none 0 0, .slice none 0 0]) st_Group z_Group (by kernel_rfl))<|stN H 0 (#[.int .i64 (0), .int .i64 (0), .int .i64 (0), .slice none 0 0, .slice none 0 0]) siz_Group rfl rfl rfl rfl rfl (by kernel_rfl) (by kernel_rfl) fun w5 H =>Zl (Wi rfl)<|Zl (Wi rfl)<|Zn<|Zt ?_
 exact finCTT (cs0 := #[.int .i64 0, .int .i64 0, .int .i64 0, .slice none 0 0, .slice none 0 0]) (v1 := .int .i64 0) (v2 := .int .i64 10) rfl agg_Group rfl (H.ent (i := 0) rfl) rfl rfl rfl ⟨rfl, H.below⟩
set_option maxHeartbeats 4000000 in
set_option maxRecDepth 10000 in
theorem here_ok (g : Gr) (s : ByteArray) (gn_ : Int) (w : World) (h : g.rd 0 w.heap.size w) (hok : grOk g = true) (hn : nameOk s = true) (i : Nat) (hi : gIdx g s = i) (hg : g.gen = gn_) : Ret Try.prog i_group_here [g.v, .string s, .int .i64 gn_] w fun v w2 => ∃ (g' : Gr) (Lm Lo : List (Nat × Obj)), v = .tuple #[g'.v, .int .i64 (i : Nat), .int .i64 0] ∧ OwnGr w w2 g.a g' Lm Lo := by
 refine ret_of fn_group_here rfl rfl ?_
 have hmC := h.mC
 have hoC := h.oC
 have hfew := h.few
 have hfp := h.fewP
 have H := Hp.startGr h
 obtain ⟨ck, wt, gn, ms, mA, mC, os, oA, oC⟩ := g
 dsimp only at hmC hoC hfew hfp H
 show CW _ _ _ _ (args [.agg #[.int .i64 (ck), .int .i64 (wt), .int .i64 (gn), .slice mA ms.length mC, .slice oA os.length oC], .string (s), .int .i64 (gn_)]) w
 dsimp only at hg
 refine Zs<|Zr<|bxA H rfl rfl fun w1 b3 H =>alo H z_Group rfl fun w2 b6 H =>Zl (Wi rfl)<|Zl (Wi rfl)<|Zn<|Zs<|Zr<|Zl (Zw agg_Group H 1 rfl rfl rfl)<|Zl (Yt rfl)<|cal cb_group_find (gfind_ok ⟨ck, wt, gn, ms, mA, mC, os, oA, oC⟩ s _ ⟨H.rd0 0 rfl, fun m hm => mp0 H 1 rfl hm, H.rd0 2 rfl, hmC, hoC, hfew, hfp⟩ hok hn) rfl rfl ?_
 rintro _ w3 ⟨⟨ck2, wt2, gn2, ms2, mA2, mC2, os2, oA2, oC2⟩, Lm, Lo, rfl, ha2, ho2, hoo2, hmc2, hoc2, hpc2, hj2⟩
 have hlo2 := H.size
 replace H := Hp.joinG H hj2 (fun m hm => (hpc2 m hm).2); clear hj2
 simp only [Gr.a, Gr.mk.injEq] at ha2
 obtain ⟨e1, e2, e3, hma, -, -, e4, -, -⟩ := ha2
 obtain rfl : ck = ck2 := e1.symm
 obtain rfl : wt = wt2 := e2.symm
 obtain rfl : gn = gn2 := e3.symm
 obtain rfl : os = os2 := e4.symm
 dsimp only at ho2 hoo2 hmc2 hoc2 hpc2 H
 replace hpc2 : ∀ m ∈ ms2, m.parts.length ≤ m.cap ∧ w.heap.size ≤ m.lo := fun m hm => ⟨(hpc2 m hm).1, Nat.le_trans hlo2 (hpc2 m hm).2⟩
 have hml2 : ms2.length = ms.length := by have := congrArg List.length hma; simpa using this
 rw [hi]
 refine Zl (Yu rfl)<|Zl (Xa rfl rfl)<|Zl (Xi rfl rfl)<|Zl (Xi rfl rfl)<|stN H 1 (#[.int .i64 (ck), .int .i64 (wt), .int .i64 (gn), .slice mA2 ms2.length mC2, .slice oA2 os.length oC2]) siz_Group rfl rfl rfl rfl rfl (by kernel_rfl) (by kernel_rfl) fun w4 H =>Zl (Wi rfl)<|Zl (Wi rfl)<|Zn<|Zs<|Zb<|Zs<|Zr<|Zl (Yi rfl)<|Zl (neqF_r rfl rfl rfl) ?_
 refine Zl (Wb rfl)<|Zn<|ZF rfl<|Zs<|Zr<|Zl (Yi rfl)<|Zl (lssF_r rfl rfl (by omega))<|Zl (Wb rfl)<|Zn<|ZF rfl<|Zs<|Zr<|Zl (Zf fd_Group_2 rfl)<|Zl (Zd one_int H 1 rfl rfl rfl) ?_
 refine Zl (Yi rfl)<|Zl (neqF_r rfl rfl (by omega))<|Zl (Wb rfl)<|Zn<|ZF rfl<|Zk<|Zs<|Zr<|Zl (Zw agg_Group H 1 rfl rfl rfl)<|Zl (Yi rfl)<|stN H 0 (#[.int .i64 (ck), .int .i64 (wt), .int .i64 (gn), .slice mA2 ms2.length mC2, .slice oA2 os.length oC2]) siz_Group rfl rfl rfl rfl rfl (by kernel_rfl) (by kernel_rfl) fun w5 H =>Zl (Wi rfl)<|Zl (Wi rfl)<|Zn ?_
 refine Zt ?_
 exact finCTT (cs0 := #[.int .i64 (ck), .int .i64 (wt), .int .i64 (gn), .slice mA2 ms2.length mC2, .slice oA2 os.length oC2]) (v1 := .int .i64 (i : Nat)) (v2 := .int .i64 0) rfl agg_Group rfl (H.ent (i := 0) rfl) rfl rfl rfl ⟨⟨ck, wt, gn, ms2, mA2, mC2, os, oA2, oC2⟩, Lm, Lo, rfl, by unfold Gr.a; dsimp only; rw [hma], ho2, hoo2, hmc2, hoc2, hpc2, H.forget (by rw [List.append_assoc]; exact .cons _ (.cons _ (List.Sublist.refl _))) (fun f hf => by simp only [List.mem_cons, List.mem_append]; grind)⟩
end Go.Proofs.Ytemnchkebhclpaa
end
