/- GN: a part of the proofs over this seat: what stands in its theorems holds for every input that they name. -/
import Derived.Test.YtemnchkebhclpaaGM
import Derived.Test.YtemnchkebhclpaaEngZ
open Go.Eng renaming lw_nil → Zn, cw_seq → Zs, cw_region → Zr, cw_skip → Zk, cw_ret → Zt, cw_block → Zb, cw_exit → Zx, mvI_r → Yi, mvB_r → Yb, mvS_r → Ys, mvP_r → Yp, mvT_r → Yt, mvU_r → Yu, mvA_r → Ya, asI_r → Wi, asB_r → Wb, asS_r → Ws, asP_r → Wp, asT_r → Wt, fad_r → Zf, exI_r → Xi, exA_r → Xa, exB_r → Xb, exS_r → Xs, pkTB_r → Kt, pkFB_r → Kf, cw_true → ZT, cw_false → ZF
section
namespace Go.Proofs.Ytemnchkebhclpaa
open Go Go.Eng Go.RowKit
set_option linter.unusedSimpArgs false
theorem Co.rd.st {c : Co} {lo hi : Nat} {w w' : World} (hk : ∀ k, lo ≤ k → k < hi → w'.heap[k]? = w.heap[k]?) (h : c.rd lo hi w) : c.rd lo hi w' :=
 ⟨h.row.st hk, fun t ht => (h.parts t ht).st hk, h.cap, h.few, h.fewP⟩
theorem Co.rd.mono {c : Co} {lo hi lo' hi' : Nat} {w : World} (h : c.rd lo hi w) (hl : lo' ≤ lo) (hh : hi ≤ hi') : c.rd lo' hi' w :=
 ⟨h.row.mono hl hh, fun t ht => (h.parts t ht).mono hl hh, h.cap, h.few, h.fewP⟩
def FCo (lo hi : Nat) (c : Co) : Fact := ⟨lo, hi, c.rd lo hi, fun _ _ hk h => h.st hk⟩
/-- a coordinator that is read, at any later time -/
theorem Hp.co {w0 w : World} {L : List (Nat × Obj)} {F : List Fact} {lo hi : Nat} {c : Co} (H : Hp w0 w L F) (i : Nat) (hF : F[i]? = some (FCo lo hi c)) : c.rd 0 w.heap.size w :=
 Co.rd.mono (H.fact hF) (Nat.zero_le _) (H.facts _ (List.mem_of_getElem? hF)).2.1
/-- a coordinator that a call has made, to be read -/
def NewCoR (w w2 : World) (c : Co) : Prop := c.rd w.heap.size w2.heap.size w2 ∧ Below w.heap.size w w2
theorem Co.a_a (c : Co) : c.a.a = c.a := by
 unfold Co.a
 simp only [List.map_map]
 congr 1
theorem RdCo.new {w w2 : World} {c : Co} (h : RdCo w w2 c) (h1 : c.txs.length ≤ 8) (h2 : ∀ t ∈ c.txs, t.parts.length ≤ 4) : NewCoR w w2 c :=
 ⟨⟨h.row, h.parts, h.cap, by omega, fun t ht => ⟨by have := h2 t ht; omega, h.caps t ht⟩⟩, h.below⟩
theorem zCo_new {w w2 : World} (h : Below w.heap.size w w2) : NewCoR w w2 zCo := (zCo_rd h).new (by simp [zCo]) (by simp [zCo])
theorem partsOk_len {l : List Int} (h : partsOk (-1) l = true) : l.length ≤ 4 := by have := rise_few h; omega
theorem txsOk_iff {ck nx : Int} : ∀ {l pre : List Tx}, txsOk ck nx pre l = true ↔ (∀ t ∈ l, txOk ck nx t = true) ∧ (∀ t ∈ l, ∀ p ∈ pre, sameTx t p = false) ∧ l.Pairwise (fun p t => sameTx t p = false)
 | [], pre => by simp [txsOk]
 | t :: l, pre => by
  unfold txsOk
  rw [Bool.and_eq_true, Bool.and_eq_true, txsOk_iff, List.pairwise_cons]
  simp only [List.mem_cons, List.mem_append, List.mem_singleton, forall_eq_or_imp, Bool.not_eq_true', List.any_eq_false]
  constructor
  ·
   rintro ⟨⟨h1, h2⟩, h3, h4, h5⟩
   exact ⟨⟨h1, h3⟩, ⟨fun p hp => by simpa using h2 p hp, fun a ha p hp => h4 a ha p (.inl hp)⟩, fun a ha => h4 a ha t (by simp), h5⟩
  ·
   rintro ⟨⟨h1, h3⟩, ⟨h2, h4⟩, h5, h6⟩
   exact ⟨⟨h1, fun p hp => by simpa using h2 p hp⟩, h3, fun a ha p hp => hp.elim (h4 a ha p) (fun h => by have := h5 a ha; simp at h; rwa [h]), h6⟩
/-- no two of one name or of one number -/
def Apart (l : List Tx) : Prop := (l.map fun t => (t.name, t.pid)).Pairwise fun p t => p.1 ≠ t.1 ∧ p.2 ≠ t.2
theorem apart_iff {l : List Tx} : Apart l ↔ l.Pairwise (fun p t => sameTx t p = false) := by
 unfold Apart
 rw [List.pairwise_map]
 constructor <;> intro h <;> refine h.imp fun {a b} hab => ?_
 ·
  simpa [sameTx] using hab
 ·
  simpa [sameTx] using hab
theorem coOk_iff2 {c : Co} : coOk c = true ↔ (inNum c.clock = true ∧ 1 ≤ c.next ∧ c.next ≤ 1073741824 ∧ 1 ≤ c.wait ∧ c.wait ≤ 1000 ∧ (c.txs.length : Int) ≤ 8) ∧ (∀ t ∈ c.txs, txOk c.clock c.next t = true) ∧ Apart c.txs := by
 rw [coOk_iff, txsOk_iff, apart_iff]
 constructor
 ·
  rintro ⟨h1, h2, h3, h4, h5, h6, h7, h8, h9⟩; exact ⟨⟨h1, h2, h3, h4, h5, h6⟩, h7, h9⟩
 ·
  rintro ⟨⟨h1, h2, h3, h4, h5, h6⟩, h7, h9⟩; exact ⟨h1, h2, h3, h4, h5, h6, h7, by simp, h9⟩
theorem coOk_parts {c : Co} (h : coOk c = true) : c.txs.length ≤ 8 ∧ ∀ t ∈ c.txs, t.parts.length ≤ 4 := by
 obtain ⟨⟨_, _, _, _, _, h6⟩, h7, _⟩ := coOk_iff2.1 h
 exact ⟨by omega, fun t ht => partsOk_len (txOk_iff.1 (h7 t ht)).2.2.2.2.2.2.2.2.2.1⟩
theorem OwnCo.new {w w2 : World} {ca c' : Co} {Lr Lp : List (Nat × Obj)} (h : OwnCo w w2 ca c' Lr Lp) (hok : coOk ca = true) : NewCoR w w2 c' := by
 have h1 : coOk c' = true := by rw [coOk_a, h.1]; exact hok
 obtain ⟨h2, h3⟩ := coOk_parts h1
 exact h.read.new h2 h3
/-- where a producer is, and what it is -/
def findTx (c : Co) (s : ByteArray) : Option (Nat × Tx) := (c.txs.findIdx? fun p => decide (p.name = s)).bind fun i => c.txs[i]?.map fun t => (i, t)
def setTx (c : Co) (i : Nat) (t : Tx) : Co := { c with txs := c.txs.set i t }
theorem find_none {c : Co} {s : ByteArray} (h : findTx c s = none) : nameIdx c s = -1 := by
 unfold findTx at h
 unfold nameIdx
 cases hi : c.txs.findIdx? fun p => decide (p.name = s) with
 | none => rfl
 | some i =>
  obtain ⟨hl, -⟩ := List.findIdx?_eq_some_iff_getElem.1 hi
  rw [hi] at h
  simp [List.getElem?_eq_getElem hl] at h
theorem find_some {c : Co} {s : ByteArray} {i : Nat} {t : Tx} (h : findTx c s = some (i, t)) : nameIdx c s = i ∧ c.txs[i]? = some t ∧ t.name = s := by
 unfold findTx at h
 unfold nameIdx
 cases hi : c.txs.findIdx? fun p => decide (p.name = s) with
 | none => rw [hi] at h; cases h
 | some j =>
  obtain ⟨hl, hn, -⟩ := List.findIdx?_eq_some_iff_getElem.1 hi
  rw [hi] at h
  simp only [Option.bind_some, List.getElem?_eq_getElem hl, Option.map_some, Option.some.injEq, Prod.mk.injEq] at h
  obtain ⟨rfl, rfl⟩ := h
  exact ⟨rfl, List.getElem?_eq_getElem hl, by simpa using hn⟩
theorem findTx_a (c : Co) (s : ByteArray) : findTx c.a s = (findTx c s).map fun (i, t) => (i, t.a) := by
 have e : c.a.txs.findIdx? (fun p => decide (p.name = s)) = c.txs.findIdx? fun p => decide (p.name = s) := by
  show (c.txs.map Tx.a).findIdx? _ = _
  rw [List.findIdx?_map]
  rfl
 unfold findTx
 rw [e]
 cases c.txs.findIdx? fun p => decide (p.name = s) with
 | none => rfl
 | some i =>
  show (c.txs.map Tx.a)[i]?.map _ = (c.txs[i]?.map _).map _
  rw [List.getElem?_map]
  cases c.txs[i]? <;> rfl
theorem setTx_a (c : Co) (i : Nat) (t : Tx) : (setTx c i t).a = setTx c.a i t.a := by
 unfold setTx Co.a
 simp only [List.map_set]
theorem coWith_aa (c : Co) (s : ByteArray) : (coWith c s).a = coWith c.a s := by
 unfold coWith Co.a
 simp only [List.map_append, List.map_cons, List.map_nil]
 rfl
/-- P5.3 -/
def initS (c : Co) (s : ByteArray) : Co × Int × Int × Int := match findTx c s with
 | none => if c.txs.length = 8 then (zCo, 0, 0, 16) else (coWith c s, c.next, 0, 0)
 | some (i, t) => if t.state = 3 ∨ t.state = 4 then (zCo, 0, 0, 12) else (setTx c i (initTx t), t.pid, t.ver + 1, 0)
/-- P5.4 -/
def addS (c : Co) (s : ByteArray) (ver p : Int) : Co × Int := match findTx c s with
 | none => (zCo, 5)
 | some (i, t) => if t.ver ≠ ver then (zCo, 10) else if t.state = 1 ∨ t.state = 2 then (setTx c i (addTx c.clock p t), 0) else (zCo, 12)
/-- P5.5 -/
def endS (c : Co) (s : ByteArray) (ver : Int) (b : Bool) : Co × Int := match findTx c s with
 | none => (zCo, 5)
 | some (i, t) => if t.ver ≠ ver then (zCo, 10) else match endTx (wantOf b) t with
  | none => (zCo, 12)
  | some t' => (setTx c i t', 0)
/-- P5.6 -/
def doneS (c : Co) (s : ByteArray) (p : Int) : Co × Int := match findTx c s with
 | none => (zCo, 5)
 | some (i, t) => if t.state = 3 ∨ t.state = 4 then if p ∈ t.parts then (setTx c i (doneTx p t), 0) else (zCo, 5) else (zCo, 12)
/-- P5.7 -/
def tickS (c : Co) (n : Int) : Co × Int := if 1000 < n then (zCo, 2) else (tickCo c n, 0)
/-- a coordinator to which so much was done -/
structure CoB (k : Nat) (c : Co) : Prop where
 ok : coOk c = true
 clock : c.clock ≤ 1000 * k
 next : c.next ≤ k + 1
 ver : ∀ t ∈ c.txs, t.ver ≤ k
theorem CoB.more {k m : Nat} {c : Co} (h : CoB k c) (hm : k ≤ m) : CoB m c := ⟨h.ok, by have := h.clock; omega, by have := h.next; omega, fun t ht => by have := h.ver t ht; omega⟩
theorem mem_set {α : Type} {l : List α} {i : Nat} {a x : α} (h : x ∈ l.set i a) : x ∈ l ∨ x = a := List.mem_or_eq_of_mem_set h
theorem apart_set {l : List Tx} {i : Nat} {t t' : Tx} (h : Apart l) (hi : l[i]? = some t) (hn : t'.name = t.name) (hp : t'.pid = t.pid) : Apart (l.set i t') := by
 unfold Apart at h ⊢
 rw [List.map_set, hn, hp, set_same (by rw [List.getElem?_map, hi]; rfl)]
 exact h
theorem CoB.set {k : Nat} {c : Co} {i : Nat} {t t' : Tx} (h : CoB k c) (hi : c.txs[i]? = some t) (hn : t'.name = t.name) (hp : t'.pid = t.pid) (hok : txOk c.clock c.next t' = true) (hv : t'.ver ≤ k + 1) : CoB (k + 1) (setTx c i t') := by
 obtain ⟨h1, h2, h3⟩ := coOk_iff2.1 h.ok
 refine ⟨coOk_iff2.2 ⟨?_, fun x hx => ?_, apart_set h3 hi hn hp⟩, ?_, ?_, fun x hx => ?_⟩
 ·
  simpa [setTx] using h1
 ·
  rcases mem_set hx with hx | rfl
  ·
   exact h2 x hx
  ·
   exact hok
 ·
  have := h.clock; show c.clock ≤ _; omega
 ·
  have := h.next; show c.next ≤ _; omega
 ·
  rcases mem_set hx with hx | rfl
  ·
   have := h.ver x hx; omega
  ·
   omega
theorem le11 : (1 : Int) ≤ 1 := by decide
theorem le12 : (1 : Int) ≤ 2 := by decide
theorem le14 : (1 : Int) ≤ 4 := by decide
theorem le24 : (2 : Int) ≤ 4 := by decide
theorem le44 : (4 : Int) ≤ 4 := by decide
theorem iff1 : (1 : Int) = 1 ↔ ([] : List Int).length = 0 := by decide
theorem inNum_iff {n : Int} : inNum n = true ↔ 0 ≤ n ∧ n ≤ 1073741824 := by unfold inNum; simp
theorem init_ok {k : Nat} {c : Co} {s : ByteArray} (h : CoB k c) (hk : k ≤ 1000) (hn : nameOk s = true) (h0 : (initS c s).2.2.2 = 0) : CoB (k + 1) (initS c s).1 := by
 have hb := h
 obtain ⟨⟨h1, h2, h3, h4, h5, h6⟩, h7, h8⟩ := coOk_iff2.1 h.ok
 unfold initS at h0 ⊢
 cases hf : findTx c s with
 | none =>
  rw [hf] at h0
  dsimp only at h0 ⊢
  by_cases hl : c.txs.length = 8
  ·
   rw [if_pos hl] at h0; cases h0
  ·
   rw [if_neg hl] at h0 ⊢
   have hnx := h.next
   have hck := h.clock
   have hni := find_none hf
   refine ⟨coOk_iff2.2 ⟨⟨h1, ?_, ?_, h4, h5, ?_⟩, fun t ht => ?_, ?_⟩, ?_, ?_, fun t ht => ?_⟩
   ·
    show 1 ≤ c.next + 1; omega
   ·
    show c.next + 1 ≤ _; omega
   ·
    show ((c.txs ++ [_]).length : Int) ≤ 8
    rw [List.length_append, List.length_singleton]; omega
   ·
    rcases List.mem_append.1 ht with ht | ht
    ·
     have := txOk_iff.1 (h7 t ht)
     exact txOk_iff.2 ⟨this.1, this.2.1, by show t.pid < c.next + 1; have := this.2.2.1; omega, this.2.2.2⟩
    ·
     rw [List.mem_singleton.1 ht]
     exact txOk_iff.2 ⟨hn, h2, by show c.next < c.next + 1; omega, by kernel_rfl, le11, le14, by show (0 : Int) ≤ 0; omega, by show (0 : Int) ≤ c.clock; exact (inNum_iff.1 h1).1, .inl rfl, rfl, iff1⟩
   ·
    unfold Apart at h8 ⊢
    show ((c.txs ++ [newTx s c.next]).map _).Pairwise _
    rw [List.map_append, List.pairwise_append]
    refine ⟨h8, by simp, fun a ha b hb => ?_⟩
    obtain ⟨t, ht, rfl⟩ := List.mem_map.1 ha
    simp only [List.map_cons, List.map_nil, List.mem_singleton] at hb
    subst hb
    refine ⟨fun he => ?_, fun he => ?_⟩
    ·
     have : (c.txs.findIdx? fun p => decide (p.name = s)) = none := by
      cases hi : c.txs.findIdx? fun p => decide (p.name = s) with
      | none => rfl
      | some j => unfold nameIdx at hni; rw [hi] at hni; simp [idxI] at hni
     rw [List.findIdx?_eq_none_iff] at this
     have := this t ht
     simp [show t.name = s from he] at this
    ·
     have := (txOk_iff.1 (h7 t ht)).2.2.1
     have he' : t.pid = c.next := he
     omega
   ·
    show c.clock ≤ _; omega
   ·
    show c.next + 1 ≤ _; omega
   ·
    rcases List.mem_append.1 ht with ht | ht
    ·
     have := h.ver t ht; omega
    ·
     rw [List.mem_singleton.1 ht]; show (0 : Int) ≤ _; omega
 | some x =>
  obtain ⟨i, t⟩ := x
  rw [hf] at h0
  dsimp only at h0 ⊢
  obtain ⟨hi, ht, -⟩ := find_some hf
  by_cases hs : t.state = 3 ∨ t.state = 4
  ·
   rw [if_pos hs] at h0; cases h0
  ·
   rw [if_neg hs] at h0 ⊢
   have hm := List.mem_of_getElem? ht
   have hv := h.ver t hm
   obtain ⟨a1, a2, a3, a4, a5, a6, a7, a8, a9, a10, a11⟩ := txOk_iff.1 (h7 t hm)
   have hv0 := (inNum_iff.1 a4).1
   refine h.set ht ?_ ?_ ?_ ?_
   ·
    unfold initTx; split <;> rfl
   ·
    unfold initTx; split <;> rfl
   ·
    unfold initTx
    split
    ·
     rename_i h2'
     exact txOk_iff.2 ⟨a1, a2, a3, inNum_iff.2 ⟨by show 0 ≤ t.ver + 1; omega, by show t.ver + 1 ≤ _; omega⟩, le14, le44, a7, a8, a9, a10, by constructor; intro h; cases h; intro h; have := a11.2 h; omega⟩
    ·
     exact txOk_iff.2 ⟨a1, a2, a3, inNum_iff.2 ⟨by show 0 ≤ t.ver + 1; omega, by show t.ver + 1 ≤ _; omega⟩, a5, a6, a7, a8, a9, a10, a11⟩
   ·
    unfold initTx; split <;> (show t.ver + 1 ≤ _; omega)
theorem addParts_ok {l : List Int} {p : Int} (h : partsOk (-1) l = true) (h0 : 0 ≤ p) (h3 : p < 4) : partsOk (-1) (addParts l p) = true ∧ (addParts l p).length ≠ 0 := by
 have key : ∀ (l : List Int) (a : Int), l.Pairwise (· < ·) → (∀ q ∈ l, a < q ∧ q < 4) → partsOk a l = true := by
  intro l
  induction l with
  | nil => intro a _ _; rfl
  | cons x l ih =>
   intro a hp hq
   obtain ⟨h1, h2⟩ := List.pairwise_cons.1 hp
   unfold partsOk
   have := hq x (List.mem_cons_self ..)
   rw [ih x h2 fun q hq' => ⟨h1 q hq', (hq q (List.mem_cons_of_mem _ hq')).2⟩]
   simp [this.1, this.2]
 obtain ⟨hp, hq⟩ := partsOk_rise h
 unfold addParts
 split
 ·
  rename_i hm
  refine ⟨h, fun h0 => ?_⟩
  rw [List.eq_nil_of_length_eq_zero h0] at hm; cases hm
 ·
  rename_i hm
  refine ⟨key _ _ ?_ ?_, by simp⟩
  ·
   rw [List.append_assoc, List.pairwise_append]
   refine ⟨hp.filter _, ?_, ?_⟩
   ·
    rw [List.pairwise_append]
    refine ⟨by simp, hp.filter _, fun a ha b hb => ?_⟩
    rw [List.mem_singleton.1 ha]
    simp only [List.mem_filter, decide_eq_true_eq] at hb
    have : b ≠ p := fun h => hm (h ▸ hb.1)
    omega
   ·
    intro a ha b hb
    simp only [List.mem_filter, decide_eq_true_eq] at ha
    rcases List.mem_append.1 hb with hb | hb
    ·
     rw [List.mem_singleton.1 hb]; exact ha.2
    ·
     simp only [List.mem_filter, decide_eq_true_eq] at hb; omega
  ·
   intro q hq'
   simp only [List.mem_append, List.mem_filter, List.mem_singleton, decide_eq_true_eq] at hq'
   rcases hq' with (hq' | rfl) | hq'
   ·
    exact hq q hq'.1
   ·
    omega
   ·
    exact hq q hq'.1
theorem addTx_ok {ck nx p : Int} {t : Tx} (h : txOk ck nx t = true) (hc : inNum ck = true) (h0 : 0 ≤ p) (h3 : p < 4) : txOk ck nx (addTx ck p t) = true := by
 obtain ⟨a1, a2, a3, a4, a5, a6, a7, a8, a9, a10, a11⟩ := txOk_iff.1 h
 obtain ⟨b1, b2⟩ := addParts_ok a10 h0 h3
 have hc0 := (inNum_iff.1 hc).1
 unfold addTx
 split
 ·
  exact txOk_iff.2 ⟨a1, a2, a3, a4, le12, le24, hc0, Int.le_refl _, a9, b1, by constructor; intro h; cases h; intro h; exact absurd h b2⟩
 ·
  rename_i h1
  exact txOk_iff.2 ⟨a1, a2, a3, a4, a5, a6, a7, a8, a9, b1, by constructor; intro h; exact absurd h h1; intro h; exact absurd h b2⟩
theorem addS_ok {k : Nat} {c : Co} {s : ByteArray} {ver p : Int} (h : CoB k c) (h0 : 0 ≤ p) (h3 : p < 4) (he : (addS c s ver p).2 = 0) : CoB (k + 1) (addS c s ver p).1 := by
 obtain ⟨⟨h1, -⟩, h7, -⟩ := coOk_iff2.1 h.ok
 unfold addS at he ⊢
 cases hf : findTx c s with
 | none => rw [hf] at he; cases he
 | some x =>
  obtain ⟨i, t⟩ := x
  rw [hf] at he
  dsimp only at he ⊢
  obtain ⟨-, ht, -⟩ := find_some hf
  split at he
  ·
   cases he
  ·
   rename_i hv
   rw [if_neg hv]
   split at he
   ·
    rename_i hs
    rw [if_pos hs]
    have hm := List.mem_of_getElem? ht
    refine h.set ht ?_ ?_ (addTx_ok (h7 t hm) h1 h0 h3) ?_
    ·
     unfold addTx; split <;> rfl
    ·
     unfold addTx; split <;> rfl
    ·
     have := h.ver t hm
     unfold addTx; split <;> (show t.ver ≤ _; omega)
   ·
    cases he
theorem endTx_ok {ck nx w : Int} {t t' : Tx} (h : txOk ck nx t = true) (hw : w = 3 ∨ w = 4) (he : endTx w t = some t') : txOk ck nx t' = true ∧ t'.name = t.name ∧ t'.pid = t.pid ∧ t'.ver = t.ver := by
 obtain ⟨a1, a2, a3, a4, a5, a6, a7, a8, a9, a10, a11⟩ := txOk_iff.1 h
 unfold endTx at he
 split at he
 ·
  injection he with he; subst he
  refine ⟨txOk_iff.2 ⟨a1, a2, a3, a4, by show 1 ≤ w; omega, by show w ≤ 4; omega, a7, a8, a9, a10, ?_⟩, rfl, rfl, rfl⟩
  constructor
  ·
   intro h; have h' : w = 1 := h; omega
  ·
   intro h; have := a11.2 h; omega
 ·
  split at he
  ·
   injection he with he; subst he
   exact ⟨txOk_iff.2 ⟨a1, a2, a3, a4, a5, a6, a7, a8, .inr hw, a10, a11⟩, rfl, rfl, rfl⟩
  ·
   split at he
   ·
    injection he with he; subst he
    exact ⟨h, rfl, rfl, rfl⟩
   ·
    cases he
theorem wantOf_34 (b : Bool) : wantOf b = 3 ∨ wantOf b = 4 := by cases b <;> simp [wantOf]
theorem endS_ok {k : Nat} {c : Co} {s : ByteArray} {ver : Int} {b : Bool} (h : CoB k c) (he : (endS c s ver b).2 = 0) : CoB (k + 1) (endS c s ver b).1 := by
 obtain ⟨-, h7, -⟩ := coOk_iff2.1 h.ok
 unfold endS at he ⊢
 cases hf : findTx c s with
 | none => rw [hf] at he; cases he
 | some x =>
  obtain ⟨i, t⟩ := x
  rw [hf] at he
  dsimp only at he ⊢
  obtain ⟨-, ht, -⟩ := find_some hf
  split at he
  ·
   cases he
  ·
   rename_i hv
   rw [if_neg hv]
   have hm := List.mem_of_getElem? ht
   cases hx : endTx (wantOf b) t with
   | none => rw [hx] at he; cases he
   | some t' =>
    obtain ⟨b1, b2, b3, b4⟩ := endTx_ok (h7 t hm) (wantOf_34 b) hx
    refine h.set ht b2 b3 b1 ?_
    have := h.ver t hm; omega
theorem partsOk_filter {l : List Int} (h : partsOk (-1) l = true) (f : Int → Bool) : partsOk (-1) (l.filter f) = true := by
 have key : ∀ (l : List Int) (a : Int), l.Pairwise (· < ·) → (∀ q ∈ l, a < q ∧ q < 4) → partsOk a l = true := by
  intro l
  induction l with
  | nil => intro a _ _; rfl
  | cons x l ih =>
   intro a hp hq
   obtain ⟨h1, h2⟩ := List.pairwise_cons.1 hp
   unfold partsOk
   have := hq x (List.mem_cons_self ..)
   rw [ih x h2 fun q hq' => ⟨h1 q hq', (hq q (List.mem_cons_of_mem _ hq')).2⟩]
   simp [this.1, this.2]
 obtain ⟨hp, hq⟩ := partsOk_rise h
 exact key _ _ (hp.filter _) fun q hq' => hq q ((List.mem_filter.1 hq').1)
theorem doneTx_ok {ck nx p : Int} {t : Tx} (h : txOk ck nx t = true) (hs : t.state = 3 ∨ t.state = 4) : txOk ck nx (doneTx p t) = true ∧ (doneTx p t).name = t.name ∧ (doneTx p t).pid = t.pid ∧ (doneTx p t).ver = t.ver := by
 obtain ⟨a1, a2, a3, a4, a5, a6, a7, a8, a9, a10, a11⟩ := txOk_iff.1 h
 unfold doneTx
 split
 ·
  exact ⟨txOk_iff.2 ⟨a1, a2, a3, a4, le11, le14, a7, a8, .inr hs, rfl, iff1⟩, rfl, rfl, rfl⟩
 ·
  rename_i hl
  refine ⟨txOk_iff.2 ⟨a1, a2, a3, a4, a5, a6, a7, a8, a9, partsOk_filter a10 _, ?_⟩, rfl, rfl, rfl⟩
  constructor
  ·
   intro h; have h' : t.state = 1 := h; omega
  ·
   intro h; exact absurd h hl
theorem doneS_ok {k : Nat} {c : Co} {s : ByteArray} {p : Int} (h : CoB k c) (he : (doneS c s p).2 = 0) : CoB (k + 1) (doneS c s p).1 := by
 obtain ⟨-, h7, -⟩ := coOk_iff2.1 h.ok
 unfold doneS at he ⊢
 cases hf : findTx c s with
 | none => rw [hf] at he; cases he
 | some x =>
  obtain ⟨i, t⟩ := x
  rw [hf] at he
  dsimp only at he ⊢
  obtain ⟨-, ht, -⟩ := find_some hf
  split at he
  ·
   rename_i hs
   rw [if_pos hs]
   split at he
   ·
    rename_i hp
    rw [if_pos hp]
    have hm := List.mem_of_getElem? ht
    obtain ⟨b1, b2, b3, b4⟩ := doneTx_ok (p := p) (h7 t hm) hs
    refine h.set ht b2 b3 b1 ?_
    have := h.ver t hm; omega
   ·
    cases he
  ·
   cases he
theorem tickTx_ok {ck ck2 nx wt : Int} {t : Tx} (h : txOk ck nx t = true) (hc : ck ≤ ck2) : txOk ck2 nx (tickTx ck2 wt t) = true ∧ (tickTx ck2 wt t).name = t.name ∧ (tickTx ck2 wt t).pid = t.pid ∧ (tickTx ck2 wt t).ver ≤ t.ver + 1 := by
 obtain ⟨a1, a2, a3, a4, a5, a6, a7, a8, a9, a10, a11⟩ := txOk_iff.1 h
 have hv := inNum_iff.1 a4
 unfold tickTx
 split
 ·
  rename_i h2
  refine ⟨txOk_iff.2 ⟨a1, a2, a3, inNum_iff.2 ⟨by show 0 ≤ t.ver + 1; omega, by show t.ver + 1 ≤ _; omega⟩, le14, le44, a7, by show t.since ≤ ck2; omega, a9, a10, ?_⟩, rfl, rfl, Int.le_refl _⟩
  constructor
  ·
   intro h; cases h
  ·
   intro h; have := a11.2 h; omega
 ·
  exact ⟨txOk_iff.2 ⟨a1, a2, a3, a4, a5, a6, a7, by omega, a9, a10, a11⟩, rfl, rfl, by omega⟩
theorem tickS_ok {k : Nat} {c : Co} {n : Int} (h : CoB k c) (hk : k ≤ 1000) (hn : 0 ≤ n) (he : (tickS c n).2 = 0) : CoB (k + 1) (tickS c n).1 := by
 obtain ⟨⟨h1, h2, h3, h4, h5, h6⟩, h7, h8⟩ := coOk_iff2.1 h.ok
 have hck := h.clock
 have hc0 := (inNum_iff.1 h1).1
 unfold tickS at he ⊢
 split at he
 ·
  cases he
 ·
  rename_i hn1
  rw [if_neg hn1]
  unfold tickCo
  refine ⟨coOk_iff2.2 ⟨⟨inNum_iff.2 ⟨by show 0 ≤ c.clock + n; omega, by show c.clock + n ≤ _; omega⟩, h2, h3, h4, h5, by simpa using h6⟩, fun t ht => ?_, ?_⟩, by show c.clock + n ≤ 1000 * ((k + 1 : Nat) : Int); omega, by have := h.next; show c.next ≤ _; omega, fun t ht => ?_⟩
  ·
   obtain ⟨x, hx, rfl⟩ := List.mem_map.1 ht
   exact (tickTx_ok (h7 x hx) (show c.clock ≤ c.clock + n by omega)).1
  ·
   unfold Apart at h8 ⊢
   dsimp only
   rw [List.map_map]
   rw [List.map_congr_left (g := fun t => (t.name, t.pid)) fun t ht => by
    obtain ⟨-, e1, e2, -⟩ := tickTx_ok (ck2 := c.clock + n) (wt := c.wait) (h7 t ht) (by omega)
    show ((tickTx _ _ t).name, (tickTx _ _ t).pid) = _
    rw [e1, e2]]
   exact h8
  ·
   obtain ⟨x, hx, rfl⟩ := List.mem_map.1 ht
   obtain ⟨-, -, -, e3⟩ := tickTx_ok (ck2 := c.clock + n) (wt := c.wait) (h7 x hx) (by omega)
   have := h.ver x hx
   omega
theorem CoB.a {k : Nat} {c : Co} (h : CoB k c) : CoB k c.a := ⟨by rw [← coOk_a]; exact h.ok, h.clock, h.next, fun t ht => by
 obtain ⟨x, hx, rfl⟩ := List.mem_map.1 (show t ∈ c.txs.map Tx.a from ht)
 exact h.ver x hx⟩
theorem CoB.of_a {k : Nat} {c : Co} (h : CoB k c.a) : CoB k c := ⟨by rw [coOk_a]; exact h.ok, h.clock, h.next, fun t ht => h.ver t.a (List.mem_map_of_mem (f := Tx.a) ht)⟩
end Go.Proofs.Ytemnchkebhclpaa
end

section
namespace Go.Proofs.Ytemnchkebhclpaa
open Go Go.Eng Go.RowKit
set_option linter.unusedSimpArgs false
theorem CoB.at_ {k : Nat} {c : Co} (h : CoB k c) {i : Nat} {t : Tx} (ht : c.txs[i]? = some t) : txOk c.clock c.next t = true := (coOk_iff2.1 h.ok).2.1 t (List.mem_of_getElem? ht)
theorem some_a {c : Co} {s : ByteArray} {i : Nat} {t : Tx} (h : findTx c s = some (i, t)) : findTx c.a s = some (i, t.a) := by rw [findTx_a, h]; rfl
theorem none_a {c : Co} {s : ByteArray} (h : findTx c s = none) : findTx c.a s = none := by rw [findTx_a, h]; rfl
theorem initTx_a (t : Tx) : initTx t.a = (initTx t).a := by
 unfold initTx
 by_cases h : t.state = 2
 ·
  rw [if_pos (show t.a.state = 2 from h), if_pos h]; rfl
 ·
  rw [if_neg (show ¬ t.a.state = 2 from h), if_neg h]; rfl
theorem initS_ok (c : Co) (s : ByteArray) (k : Nat) (w : World) (h : c.rd 0 w.heap.size w) (hb : CoB k c) (hk : k ≤ 1000) (hn : nameOk s = true) : Ret Try.prog i_coord_Init [c.v, .string s] w fun v w2 => ∃ c' : Co, v = .tuple #[c'.v, .int .i64 (initS c.a s).2.1, .int .i64 (initS c.a s).2.2.1, .int .i64 (initS c.a s).2.2.2] ∧ c'.a = (initS c.a s).1 ∧ NewCoR w w2 c' := by
 have hnx := hb.next
 have hpost : (initS c s).2.2.2 = 0 → CoB (k + 1) (initS c s).1 := init_ok hb hk hn
 cases hf : findTx c s with
 | none =>
  have hi := find_none hf
  have ha := none_a hf
  unfold initS at hpost ⊢
  rw [ha]
  rw [hf] at hpost
  dsimp only at hpost ⊢
  by_cases hl : c.txs.length = 8
  ·
   rw [if_pos (show c.a.txs.length = 8 by simpa [Co.a] using hl)]
   exact (coInit_full c s w h hb.ok hn (by omega) hl).mono fun v w2 ⟨h1, h2⟩ => ⟨zCo, h1, rfl, zCo_new h2⟩
  ·
   rw [if_neg (show ¬ c.a.txs.length = 8 by simpa [Co.a] using hl)]
   rw [if_neg hl] at hpost
   exact (initO_new c s w h hb.ok hn (by omega) hl (by omega)).mono fun v w2 ⟨c', Lr, Lp, h1, h2⟩ => ⟨c', h1, h2.1, h2.new (by rw [← coWith_aa, ← coOk_a]; exact (hpost rfl).ok)⟩
 | some x =>
  obtain ⟨i, t⟩ := x
  obtain ⟨hi, ht, -⟩ := find_some hf
  have ha := some_a hf
  have hm := List.mem_of_getElem? ht
  have hv0 := inNum_iff.1 (txOk_iff.1 (hb.at_ ht)).2.2.2.1
  have hv := hb.ver t hm
  unfold initS at hpost ⊢
  rw [ha]
  rw [hf] at hpost
  dsimp only at hpost ⊢
  by_cases hs : t.state = 3 ∨ t.state = 4
  ·
   rw [if_pos (show t.a.state = 3 ∨ t.a.state = 4 from hs)]
   exact (init_state c s i t w h hb.ok hn hi ht hs).mono fun v w2 ⟨h1, h2⟩ => ⟨zCo, h1, rfl, zCo_new h2⟩
  ·
   rw [if_neg (show ¬ (t.a.state = 3 ∨ t.a.state = 4) from hs)]
   rw [if_neg hs] at hpost
   exact (init_known c s i t w h hb.ok hn hi ht (fun h => hs (.inl h)) (fun h => hs (.inr h)) hv0.1 (by omega)).mono fun v w2 ⟨c', Lr, Lp, h1, h2⟩ => ⟨c', h1, h2.1.trans (by rw [show ({ c with txs := c.txs.set i (initTx t) } : Co) = setTx c i (initTx t) from rfl, setTx_a, initTx_a]), h2.new (by rw [← coOk_a]; exact (hpost rfl).ok)⟩
theorem addTx_aa (ck p : Int) (t : Tx) : addTx ck p t.a = (addTx ck p t).a := by
 unfold addTx
 by_cases h : t.state = 1
 ·
  rw [if_pos (show t.a.state = 1 from h), if_pos h]; rfl
 ·
  rw [if_neg (show ¬ t.a.state = 1 from h), if_neg h]; rfl
theorem addSc_ok (c : Co) (s : ByteArray) (ver p : Int) (k : Nat) (w : World) (h : c.rd 0 w.heap.size w) (hb : CoB k c) (hn : nameOk s = true) (h0 : 0 ≤ p) (h3 : p < 4) : Ret Try.prog i_coord_Add [c.v, .string s, .int .i64 ver, .int .i64 p] w fun v w2 => ∃ c' : Co, v = .tuple #[c'.v, .int .i64 (addS c.a s ver p).2] ∧ c'.a = (addS c.a s ver p).1 ∧ NewCoR w w2 c' := by
 have hpost : (addS c s ver p).2 = 0 → CoB (k + 1) (addS c s ver p).1 := addS_ok hb h0 h3
 cases hf : findTx c s with
 | none =>
  have hi := find_none hf
  have ha := none_a hf
  unfold addS
  rw [ha]
  exact (add_none c s ver p w h hb.ok hn hi).mono fun v w2 ⟨h1, h2⟩ => ⟨zCo, h1, rfl, zCo_new h2⟩
 | some x =>
  obtain ⟨i, t⟩ := x
  obtain ⟨hi, ht, -⟩ := find_some hf
  have ha := some_a hf
  unfold addS at hpost ⊢
  rw [ha]
  rw [hf] at hpost
  dsimp only at hpost ⊢
  by_cases hv : t.ver = ver
  ·
   rw [if_neg (show ¬ t.a.ver ≠ ver from fun h => h hv)]
   rw [if_neg (fun h => h hv)] at hpost
   by_cases hs : t.state = 1 ∨ t.state = 2
   ·
    rw [if_pos (show t.a.state = 1 ∨ t.a.state = 2 from hs)]
    rw [if_pos hs] at hpost
    exact (add_ok c s ver p i t w h hb.ok hn hi ht hv h0 h3 hs (txOk_iff.1 (hb.at_ ht)).2.2.2.2.2.2.2.2.2.1).mono fun v w2 ⟨c', Lr, Lp, h1, h2⟩ => ⟨c', h1, h2.1.trans (by rw [show ({ c with txs := c.txs.set i (addTx c.clock p t) } : Co) = setTx c i (addTx c.clock p t) from rfl, setTx_a, addTx_aa]; rfl), h2.new (by rw [← coOk_a]; exact (hpost rfl).ok)⟩
   ·
    rw [if_neg (show ¬ (t.a.state = 1 ∨ t.a.state = 2) from hs)]
    exact (add_state c s ver p i t w h hb.ok hn hi ht hv h0 h3 (fun h => hs (.inl h)) (fun h => hs (.inr h))).mono fun v w2 ⟨h1, h2⟩ => ⟨zCo, h1, rfl, zCo_new h2⟩
  ·
   rw [if_pos (show t.a.ver ≠ ver from hv)]
   exact (add_fence c s ver p i t w h hb.ok hn hi ht hv).mono fun v w2 ⟨h1, h2⟩ => ⟨zCo, h1, rfl, zCo_new h2⟩
theorem endTx_a (w : Int) (t : Tx) : endTx w t.a = (endTx w t).map Tx.a := by
 unfold endTx
 by_cases h1 : t.state = 2
 ·
  rw [if_pos (show t.a.state = 2 from h1), if_pos h1]; rfl
 ·
  rw [if_neg (show ¬ t.a.state = 2 from h1), if_neg h1]
  by_cases h2 : t.state = 1 ∧ t.done = 0
  ·
   rw [if_pos (show t.a.state = 1 ∧ t.a.done = 0 from h2), if_pos h2]; rfl
  ·
   rw [if_neg (show ¬ (t.a.state = 1 ∧ t.a.done = 0) from h2), if_neg h2]
   by_cases h3 : t.state = w ∨ (t.state = 1 ∧ t.done = w)
   ·
    rw [if_pos (show t.a.state = w ∨ (t.a.state = 1 ∧ t.a.done = w) from h3), if_pos h3]; rfl
   ·
    rw [if_neg (show ¬ (t.a.state = w ∨ (t.a.state = 1 ∧ t.a.done = w)) from h3), if_neg h3]; rfl
theorem endSc_ok (c : Co) (s : ByteArray) (ver : Int) (b : Bool) (k : Nat) (w : World) (h : c.rd 0 w.heap.size w) (hb : CoB k c) (hn : nameOk s = true) : Ret Try.prog i_coord_End [c.v, .string s, .int .i64 ver, .bool b] w fun v w2 => ∃ c' : Co, v = .tuple #[c'.v, .int .i64 (endS c.a s ver b).2] ∧ c'.a = (endS c.a s ver b).1 ∧ NewCoR w w2 c' := by
 have hpost : (endS c s ver b).2 = 0 → CoB (k + 1) (endS c s ver b).1 := endS_ok hb
 cases hf : findTx c s with
 | none =>
  have hi := find_none hf
  have ha := none_a hf
  unfold endS
  rw [ha]
  exact (end_none c s ver b w h hb.ok hn hi).mono fun v w2 ⟨h1, h2⟩ => ⟨zCo, h1, rfl, zCo_new h2⟩
 | some x =>
  obtain ⟨i, t⟩ := x
  obtain ⟨hi, ht, -⟩ := find_some hf
  have ha := some_a hf
  unfold endS at hpost ⊢
  rw [ha]
  rw [hf] at hpost
  dsimp only at hpost ⊢
  by_cases hv : t.ver = ver
  ·
   rw [if_neg (show ¬ t.a.ver ≠ ver from fun h => h hv), endTx_a]
   rw [if_neg (fun h => h hv)] at hpost
   have main : Ret Try.prog i_coord_End [c.v, .string s, .int .i64 ver, .bool b] w fun v w2 => match endTx (wantOf b) t with | none => v = .tuple #[.agg #[.int .i64 0, .int .i64 0, .int .i64 0, .slice none 0 0], .int .i64 12] ∧ Below w.heap.size w w2 | some t' => ∃ (c' : Co) (Lr Lp : List (Nat × Obj)), v = .tuple #[c'.v, .int .i64 0] ∧ OwnCo w w2 (Co.a { c with txs := c.txs.set i t' }) c' Lr Lp := by
    cases b
    ·
     exact end_false c s ver i t w h hb.ok hn hi ht hv
    ·
     exact end_true c s ver i t w h hb.ok hn hi ht hv
   cases hx : endTx (wantOf b) t with
   | none =>
    rw [hx] at main
    exact main.mono fun v w2 ⟨h1, h2⟩ => ⟨zCo, h1, rfl, zCo_new h2⟩
   | some t' =>
    rw [hx] at main hpost
    exact main.mono fun v w2 ⟨c', Lr, Lp, h1, h2⟩ => ⟨c', h1, h2.1.trans (by rw [show ({ c with txs := c.txs.set i t' } : Co) = setTx c i t' from rfl, setTx_a]; rfl), h2.new (by rw [← coOk_a]; exact (hpost rfl).ok)⟩
  ·
   rw [if_pos (show t.a.ver ≠ ver from hv)]
   exact (end_fence c s ver b i t w h hb.ok hn hi ht hv).mono fun v w2 ⟨h1, h2⟩ => ⟨zCo, h1, rfl, zCo_new h2⟩
theorem doneTx_a (p : Int) (t : Tx) : doneTx p t.a = (doneTx p t).a := by
 unfold doneTx
 by_cases h : (t.parts.filter fun q => decide (q ≠ p)).length = 0
 ·
  rw [if_pos (show (t.a.parts.filter fun q => decide (q ≠ p)).length = 0 from h), if_pos h]; rfl
 ·
  rw [if_neg (show ¬ (t.a.parts.filter fun q => decide (q ≠ p)).length = 0 from h), if_neg h]; rfl
theorem doneSc_ok (c : Co) (s : ByteArray) (p : Int) (k i : Nat) (t : Tx) (w : World) (h : c.rd 0 w.heap.size w) (hb : CoB k c) (hn : nameOk s = true) (hf : findTx c.a s = some (i, t)) (h34 : t.state = 3 ∨ t.state = 4) (hp : p ∈ t.parts) : Ret Try.prog i_coord_Done [c.v, .string s, .int .i64 p] w fun v w2 => ∃ c' : Co, v = .tuple #[c'.v, .int .i64 0] ∧ c'.a = (doneS c.a s p).1 ∧ NewCoR w w2 c' := by
 have hpost : (doneS c s p).2 = 0 → CoB (k + 1) (doneS c s p).1 := doneS_ok hb
 rw [findTx_a] at hf
 obtain ⟨⟨j, x⟩, hg, he⟩ := Option.map_eq_some_iff.1 hf
 clear hf
 simp only [Prod.mk.injEq] at he
 obtain ⟨rfl, rfl⟩ := he
 obtain ⟨hi, ht, -⟩ := find_some hg
 have ha := some_a hg
 unfold doneS at hpost ⊢
 rw [ha]
 rw [hg] at hpost
 dsimp only at hpost ⊢
 rw [if_pos h34, if_pos hp]
 rw [if_pos (show x.state = 3 ∨ x.state = 4 from h34), if_pos (show p ∈ x.parts from hp)] at hpost
 exact (done_ok c s p i x w h hb.ok hn hi ht h34 hp (txOk_iff.1 (hb.at_ ht)).2.2.2.2.2.2.2.2.2.1).mono fun v w2 ⟨c', Lr, Lp, h1, h2⟩ => ⟨c', h1, h2.1.trans (by rw [show ({ c with txs := c.txs.set i (doneTx p x) } : Co) = setTx c i (doneTx p x) from rfl, setTx_a, doneTx_a]), h2.new (by rw [← coOk_a]; exact (hpost rfl).ok)⟩
theorem ending_a (t : Tx) : ending t.a = ending t := rfl
theorem nthEnd_a (l : List Tx) (n : Nat) : nthEnd (l.map Tx.a) n = (nthEnd l n).map Tx.a := by
 unfold nthEnd
 rw [List.filter_map, show (ending ∘ Tx.a) = ending from funext ending_a, List.getElem?_map]
theorem nextS_ok (c : Co) (n : Nat) (w : World) (h : c.rd 0 w.heap.size w) (hok : coOk c = true) (hn : n ≤ 1000) : Ret Try.prog i_coord_Next [c.v, .int .i64 (n : Nat)] w fun v w2 => v = nextV (nthEnd c.a.txs n) ∧ Below w.heap.size w w2 := by
 refine (next_ok c n w h hok hn).mono fun v w2 ⟨h1, h2⟩ => ⟨?_, h2⟩
 rw [h1, show c.a.txs = c.txs.map Tx.a from rfl, nthEnd_a]
 cases nthEnd c.txs n <;> rfl
theorem tickCo_aa (c : Co) (n : Int) : (tickCo c n).a = tickCo c.a n := by
 unfold tickCo Co.a
 simp only [List.map_map]
 congr 1
 exact List.map_congr_left fun t _ => tick_a _ _ t
theorem tickSc_ok (c : Co) (n : Int) (k : Nat) (w : World) (h : c.rd 0 w.heap.size w) (hb : CoB k c) (hk : k ≤ 1000) (hn : 0 ≤ n) : Ret Try.prog i_coord_Tick [c.v, .int .i64 n] w fun v w2 => ∃ c' : Co, v = .tuple #[c'.v, .int .i64 (tickS c.a n).2] ∧ c'.a = (tickS c.a n).1 ∧ NewCoR w w2 c' := by
 have hpost : (tickS c n).2 = 0 → CoB (k + 1) (tickS c n).1 := tickS_ok hb hk hn
 have hck := hb.clock
 unfold tickS at hpost ⊢
 by_cases hf : 1000 < n
 ·
  rw [if_pos hf]
  exact (tick_far c n w h hb.ok hf).mono fun v w2 ⟨h1, h2⟩ => ⟨zCo, h1, rfl, zCo_new h2⟩
 ·
  rw [if_neg hf]
  rw [if_neg hf] at hpost
  exact (tick_ok c n w h hb.ok hn (by omega) (by omega)).mono fun v w2 ⟨c', Lr, Lp, h1, h2⟩ => ⟨c', h1, h2.1, h2.new (by rw [← tickCo_aa, ← coOk_a]; exact (hpost rfl).ok)⟩
end Go.Proofs.Ytemnchkebhclpaa
end

section
namespace Go.Proofs.Ytemnchkebhclpaa
open Go Go.Eng Go.RowKit
set_option linter.unusedSimpArgs false
def coD : Deep Co := ⟨fun c => c.rd, fun _ _ _ _ _ hk h => h.st hk, fun _ _ _ _ _ _ h h1 h2 => h.mono h1 h2⟩
/-- the names that the laws use -/
def nm3 : Nat → ByteArray
 | 0 => ⟨#[97, 110, 110]⟩
 | 1 => ⟨#[98, 111, 98]⟩
 | _ => ⟨#[99, 121]⟩
theorem nm3_ok0 : nameOk ⟨#[97, 110, 110]⟩ = true := by kernel_rfl
theorem nm3_ok1 : nameOk ⟨#[98, 111, 98]⟩ = true := by kernel_rfl
theorem nm3_ok2 : nameOk ⟨#[99, 121]⟩ = true := by kernel_rfl
theorem nm3_ok : ∀ m : Nat, nameOk (nm3 m) = true
 | 0 => nm3_ok0
 | 1 => nm3_ok1
 | _ + 2 => nm3_ok2
theorem nm3_cell {m : Nat} (h : m < 3) : (flatV [.string ⟨#[97, 110, 110]⟩, .string ⟨#[98, 111, 98]⟩, .string ⟨#[99, 121]⟩]).toArray[0 + ((m : Nat) : Int).toNat * 1]? = some (.string (nm3 m)) := by
 match m, h with
 | 0, _ => rfl
 | 1, _ => rfl
 | 2, _ => rfl
/-- of names that are P, and of a wait -/
def CoN (P : ByteArray → Prop) (wt : Int) (c : Co) : Prop := c.wait = wt ∧ ∀ t ∈ c.txs, P t.name
theorem CoN.set {P : ByteArray → Prop} {wt : Int} {c : Co} {i : Nat} {t t' : Tx} (h : CoN P wt c) (hi : c.txs[i]? = some t) (hn : t'.name = t.name) : CoN P wt (setTx c i t') := ⟨h.1, fun x hx => by
 rcases mem_set hx with hx | rfl
 ·
  exact h.2 x hx
 ·
  rw [hn]; exact h.2 t (List.mem_of_getElem? hi)⟩
theorem CoN.init {P : ByteArray → Prop} {wt : Int} {c : Co} {s : ByteArray} (h : CoN P wt c) (hs : P s) (he : (initS c s).2.2.2 = 0) : CoN P wt (initS c s).1 := by
 unfold initS at he ⊢
 split
 ·
  rename_i hf
  rw [hf] at he
  dsimp only at he
  split at he
  ·
   cases he
  ·
   rename_i hl
   rw [if_neg hl]
   refine ⟨h.1, fun t ht => ?_⟩
   rcases List.mem_append.1 ht with ht | ht
   ·
    exact h.2 t ht
   ·
    rw [List.mem_singleton.1 ht]; exact hs
 ·
  rename_i i t hf
  rw [hf] at he
  dsimp only at he
  split at he
  ·
   cases he
  ·
   rename_i hl
   rw [if_neg hl]
   exact h.set (find_some hf).2.1 (by unfold initTx; split <;> rfl)
theorem CoN.add {P : ByteArray → Prop} {wt : Int} {c : Co} {s : ByteArray} {ver p : Int} (h : CoN P wt c) (he : (addS c s ver p).2 = 0) : CoN P wt (addS c s ver p).1 := by
 unfold addS at he ⊢
 split
 ·
  rename_i hf; rw [hf] at he; cases he
 ·
  rename_i i t hf
  rw [hf] at he
  dsimp only at he
  split at he
  ·
   cases he
  ·
   rename_i hv
   rw [if_neg hv]
   split at he
   ·
    rename_i h1
    rw [if_pos h1]
    exact h.set (find_some hf).2.1 (by unfold addTx; split <;> rfl)
   ·
    cases he
theorem endTx_name {w : Int} {t t' : Tx} (h : endTx w t = some t') : t'.name = t.name := by
 unfold endTx at h
 split at h
 ·
  injection h with h; subst h; rfl
 ·
  split at h
  ·
   injection h with h; subst h; rfl
  ·
   split at h
   ·
    injection h with h; subst h; rfl
   ·
    cases h
theorem CoN.end_ {P : ByteArray → Prop} {wt : Int} {c : Co} {s : ByteArray} {ver : Int} {b : Bool} (h : CoN P wt c) (he : (endS c s ver b).2 = 0) : CoN P wt (endS c s ver b).1 := by
 unfold endS at he ⊢
 split
 ·
  rename_i hf; rw [hf] at he; cases he
 ·
  rename_i i t hf
  rw [hf] at he
  dsimp only at he
  split at he
  ·
   cases he
  ·
   rename_i hv
   rw [if_neg hv]
   split at he
   ·
    cases he
   ·
    rename_i t' hx
    exact h.set (find_some hf).2.1 (endTx_name hx)
theorem CoN.done {P : ByteArray → Prop} {wt : Int} {c : Co} {s : ByteArray} {p : Int} (h : CoN P wt c) (he : (doneS c s p).2 = 0) : CoN P wt (doneS c s p).1 := by
 unfold doneS at he ⊢
 split
 ·
  rename_i hf; rw [hf] at he; cases he
 ·
  rename_i i t hf
  rw [hf] at he
  dsimp only at he
  split at he
  ·
   rename_i h1
   rw [if_pos h1]
   split at he
   ·
    rename_i h2
    rw [if_pos h2]
    exact h.set (find_some hf).2.1 (by unfold doneTx; split <;> rfl)
   ·
    cases he
  ·
   cases he
theorem CoN.tick {P : ByteArray → Prop} {wt : Int} {c : Co} {n : Int} (h : CoN P wt c) (he : (tickS c n).2 = 0) : CoN P wt (tickS c n).1 := by
 unfold tickS at he ⊢
 split at he
 ·
  cases he
 ·
  rename_i h1
  rw [if_neg h1]
  refine ⟨h.1, fun t ht => ?_⟩
  obtain ⟨x, hx, rfl⟩ := List.mem_map.1 (show t ∈ c.txs.map _ from ht)
  have : (tickTx (c.clock + n) c.wait x).name = x.name := by unfold tickTx; split <;> rfl
  rw [this]; exact h.2 x hx
theorem CoN.a {P : ByteArray → Prop} {wt : Int} {c : Co} (h : CoN P wt c) : CoN P wt c.a := ⟨h.1, fun t ht => by
 obtain ⟨x, hx, rfl⟩ := List.mem_map.1 (show t ∈ c.txs.map Tx.a from ht)
 exact h.2 x hx⟩
theorem CoN.of_a {P : ByteArray → Prop} {wt : Int} {c : Co} (h : CoN P wt c.a) : CoN P wt c := ⟨h.1, fun t ht => h.2 t.a (List.mem_map_of_mem (f := Tx.a) ht)⟩
def three (s : ByteArray) : Prop := ∃ m, s = nm3 m
/-- a coordinator to which something was done by the names of the laws -/
def CoI (k : Nat) (c : Co) : Prop := CoB k c ∧ CoN three 10 c
/-- what is kept of a coordinator if the call was fine -/
theorem CoI.next {k : Nat} {r : Co × Int} {c' : Co} (h1 : r.2 = 0 → CoB (k + 1) r.1) (h2 : r.2 = 0 → CoN three 10 r.1) (ha : c'.a = r.1) : r.2 = 0 → CoI (k + 1) c' := fun h => ⟨CoB.of_a (ha ▸ h1 h), CoN.of_a (ha ▸ h2 h)⟩
theorem Hp.coRow {w0 w : World} {L : List (Nat × Obj)} {F : List Fact} {lo hi : Nat} {c : Co} (H : Hp w0 w L F) (i : Nat) (hF : F[i]? = some (FCo lo hi c)) : Hp w0 w L (FRd txL lo hi c.A c.txs :: F) := by
 refine ⟨H.below, H.ents, H.nodup, fun f hf => ?_⟩
 rcases List.mem_cons.1 hf with rfl | hf
 ·
  obtain ⟨h1, h2, h3⟩ := H.facts _ (List.mem_of_getElem? hF)
  exact ⟨(show c.rd lo hi w from h1).row, h2, h3⟩
 ·
  exact H.facts f hf
set_option maxHeartbeats 4000000 in
set_option maxRecDepth 10000 in
theorem kname_ok (n : Int) (w : World) (hn : i64 n) : Ret Try.prog i_tailracekeep_name [.int .i64 n] w fun v w2 => v = .string (nm3 (pk n 3)) ∧ Below w.heap.size w w2 := by
 refine ret_of fn_tailracekeep_name rfl rfl ?_
 have H := Hp.start w
 refine Zs<|Zr<|Zl (Wt rfl)<|Zn<|Zs<|Zr<|bsv (vs := [.string ⟨#[97, 110, 110]⟩, .string ⟨#[98, 111, 98]⟩, .string ⟨#[99, 121]⟩]) H sl_Lstring z_string rfl rfl rfl rfl rfl rfl fun w1 b3 H =>Zl (Yi rfl)<|cal cb_tailracekeep_picked (picked_ok n 3 _ hn.1 hn.2 (by omega) (by omega)) rfl rfl ?_
 rintro _ w2 ⟨rfl, hb⟩; replace H := H.later hb; clear hb
 have hm := pk_lt n (show 0 < 3 by omega)
 refine Zl (ixa_r sl_Lstring rfl rfl (by omega) (by omega))<|Zl (ld_r one_string rfl (cellE (H.ent (i := 0) rfl) (nm3_cell hm)))<|Zl (Wt rfl)<|Zn<|Zt ?_
 exact fin1 rfl rfl ⟨rfl, H.below⟩
end Go.Proofs.Ytemnchkebhclpaa
end

section
namespace Go.Proofs.Ytemnchkebhclpaa
open Go Go.Eng Go.RowKit
set_option linter.unusedSimpArgs false
def nextNm (o : Option Tx) : ByteArray := match o with | none => ⟨#[]⟩ | some t => t.name
def nextPt (o : Option Tx) : Int := match o with | none => 0 | some t => t.parts.headD 0
def nextPid (o : Option Tx) : Int := match o with | none => 0 | some t => t.pid
def nextVer (o : Option Tx) : Int := match o with | none => 0 | some t => t.ver
def nextKd (o : Option Tx) : Int := match o with | none => 0 | some t => if t.state = 4 then 3 else 2
def nextB (o : Option Tx) : Bool := match o with | none => false | some _ => true
def nextE (o : Option Tx) : Int := match o with | none => 15 | some _ => 0
theorem nextV_eq (o : Option Tx) : nextV o = .tuple #[.string (nextNm o), .int .i64 (nextPt o), .agg #[.int .i64 0, .int .i64 (nextPid o), .int .i64 (nextVer o), .int .i64 0, .int .i64 (nextKd o), .bool (nextB o), .string ⟨#[]⟩], .int .i64 (nextE o)] := by cases o <;> rfl
theorem nextT_ok (c : Co) (n : Nat) (w : World) (h : c.rd 0 w.heap.size w) (hok : coOk c = true) (hn : n ≤ 1000) : Ret Try.prog i_coord_Next [c.v, .int .i64 (n : Nat)] w fun v w2 => v = .tuple #[.string (nextNm (nthEnd c.a.txs n)), .int .i64 (nextPt (nthEnd c.a.txs n)), .agg #[.int .i64 0, .int .i64 (nextPid (nthEnd c.a.txs n)), .int .i64 (nextVer (nthEnd c.a.txs n)), .int .i64 0, .int .i64 (nextKd (nthEnd c.a.txs n)), .bool (nextB (nthEnd c.a.txs n)), .string ⟨#[]⟩], .int .i64 (nextE (nthEnd c.a.txs n))] ∧ Below w.heap.size w w2 := by
 have := nextS_ok c n w h hok hn
 rwa [nextV_eq] at this
theorem nextE_some {o : Option Tx} (h : nextE o = 0) : ∃ t, o = some t := by
 cases o with
 | none => cases h
 | some t => exact ⟨t, rfl⟩
theorem find_mem {c : Co} (h : coOk c = true) {t : Tx} (ht : t ∈ c.txs) : ∃ i, findTx c t.name = some (i, t) := by
 obtain ⟨-, -, h3⟩ := coOk_iff2.1 h
 obtain ⟨i, hi⟩ := List.mem_iff_getElem?.1 ht
 obtain ⟨hl, he⟩ := getE hi
 have : (c.txs.findIdx? fun p => decide (p.name = t.name)) = some i := by
  rw [List.findIdx?_eq_some_iff_getElem]
  refine ⟨hl, by rw [he]; simp, fun j hj => ?_⟩
  unfold Apart at h3
  rw [List.pairwise_map, List.pairwise_iff_getElem] at h3
  have := (h3 j i (by omega) hl hj).1
  rw [he] at this
  simpa using this
 exact ⟨i, by unfold findTx; rw [this]; simp [hi]⟩
theorem next_done {c : Co} (h : coOk c = true) {n : Nat} {t : Tx} (ht : nthEnd c.txs n = some t) : (∃ i, findTx c t.name = some (i, t)) ∧ (t.state = 3 ∨ t.state = 4) ∧ t.parts.headD 0 ∈ t.parts ∧ 0 ≤ t.parts.headD 0 ∧ t.parts.headD 0 < 4 := by
 unfold nthEnd at ht
 obtain ⟨hm, he⟩ := List.mem_filter.1 (List.mem_of_getElem? ht)
 have hs : t.state = 3 ∨ t.state = 4 := by unfold ending at he; simpa using he
 have hx := txOk_iff.1 ((coOk_iff2.1 h).2.1 t hm)
 have hp : t.parts.headD 0 ∈ t.parts := by
  cases hp : t.parts with
  | nil => have := hx.2.2.2.2.2.2.2.2.2.2.2 (by rw [hp]; rfl); omega
  | cons a l => simp
 exact ⟨find_mem h hm, hs, hp, by have := (partsOk_rise hx.2.2.2.2.2.2.2.2.2.1).2 _ hp; omega⟩
theorem doneS_zero {c : Co} {s : ByteArray} {p : Int} {i : Nat} {t : Tx} (hf : findTx c s = some (i, t)) (h34 : t.state = 3 ∨ t.state = 4) (hp : p ∈ t.parts) : (doneS c s p).2 = 0 := by
 unfold doneS
 rw [hf]
 dsimp only
 rw [if_pos h34, if_pos hp]
theorem newCo_rd (wt : Int) (w : World) : NewCoR w w ⟨0, 1, wt, [], none, 0⟩ := ⟨⟨Rd.nil, by simp, by simp, by simp, by simp⟩, Below.refl _ _⟩
theorem newCo_I : CoI 0 ⟨0, 1, 10, [], none, 0⟩ := ⟨⟨by kernel_rfl, by decide, by decide, by simp⟩, rfl, by simp⟩
set_option maxHeartbeats 4000000 in
set_option maxRecDepth 10000 in
theorem coordinated_ok (l : List Raw) (A : Option Addr) (c0 most : Nat) (w : World) (hr : Rd rawL 0 w.heap.size A l w) (hok : ∀ r ∈ l, r.ok) (hl : l.length ≤ 9223372036854775807) (hm : most ≤ 100) :
  Ret Try.prog i_tailracekeep_coordinated [.slice A l.length c0, .int .i64 (most : Nat)] w fun v w2 => ∃ c : Co, v = .tuple #[c.v, .bool true] ∧ CoI most c ∧ NewCoR w w2 c := by
 refine ret_of fn_tailracekeep_coordinated rfl rfl ?_
 have H := Hp.startRd hr
 refine Zs<|Zr<|alo H z_Coord rfl fun w1 b4 H =>Zl (Wb rfl)<|Zn<|Zs<|Zr<|cal cb_coord_New (coordNew_ok 10 _ (by omega) (by omega)) rfl rfl ?_
 rintro _ w2 ⟨rfl, hb⟩; replace H := H.later hb; clear hb
 refine Zl (Yu rfl)<|Zl (Xa rfl rfl)<|Zl (Xi rfl rfl)<|alo H z_Coord rfl fun w3 b6 H =>stN H 0 (#[.int .i64 (0), .int .i64 (1), .int .i64 (10), .slice none 0 0]) siz_Coord rfl rfl rfl rfl rfl (by kernel_rfl) (by kernel_rfl) fun w4 H =>Zl (Wi rfl)<|Zn<|Zs<|Zr<|Zl (Yi rfl)<|Zl (eqlT_r rfl rfl rfl)<|Zl (Wb rfl)<|Zn<|Zs ?_
 refine Zs ?_
 replace H := H.learn (newCo_rd 10 _).2 (FCo w4.heap.size w4.heap.size ⟨0, 1, 10, [], none, 0⟩) (newCo_rd 10 _).1 (Nat.le_refl _) (Nat.le_refl _)
 have hlo0 := H.size
 refine Zr<|Zl (Wi rfl)<|Zn<|Zb ?_
 refine cw_loop (τ := Nat × Co × Nat × Nat) [9, 10, 11, 12, 13, 15, 16, 17, 18, 19, 26, 27, 28, 29, 30, 31, 32, 33, 34, 35, 36, 37, 38, 39, 40, 41, 42, 43, 44, 45, 46, 47, 48, 49, 50, 51, 52, 53, 54, 55, 56, 57, 58, 59, 60, 61, 62, 63, 64, 65, 66, 67, 68, 69, 70, 71, 72, 73, 74, 75, 76, 77, 78, 79, 80, 81, 82, 83, 84, 85, 86, 87, 88, 89, 90, 91, 92, 93, 94, 95, 96, 97, 98, 99, 100, 101, 102, 103, 104, 105, 106, 107, 108, 109, 110, 111, 112, 113, 114, 115, 116, 117, 118, 119, 120, 121, 122, 123, 124, 125, 126, 127, 128, 129, 130, 131, 132, 133, 134, 135, 136, 137, 138, 139] (fun (i, _, _, _) => [(9, .int .i64 (i : Nat))]) (fun (i, c, lo, hi) w' => i ≤ l.length ∧ i ≤ most ∧ CoI i c ∧ w.heap.size ≤ lo ∧ Hp w w' [(b6, .cells #[.int .i64 (c.clock), .int .i64 (c.next), .int .i64 (c.wait), .slice c.A c.txs.length c.cap] T_Coord (0, 0)), (b4, .cells #[.int .i64 0, .int .i64 0, .int .i64 0, .slice none 0 0] T_Coord (0, 0))] [FCo lo hi c, FRd rawL 0 w.heap.size A l]) (fun (i, _) => l.length - i) (0, ⟨0, 1, 10, [], none, 0⟩, _, _) ⟨by omega, by omega, newCo_I, hlo0, H⟩ (sl1 rfl) ?_
 rintro ⟨i, c, lo, hi⟩ ρ1 w5 ⟨hil, him, hci, hlo, H⟩
 show CW _ _ _ _ (updL (ovr _ _ ρ1) [(9, .int .i64 (i : Nat))]) w5
 replace H := Hp.coRow H 0 rfl
 refine Zs<|Zs<|Zr<|Zl (Yi rfl)<|Zl (Ys rfl)<|Zl (lenS_r len_LRaw rfl) ?_
 refine lwD (lss_r rfl rfl) rfl rfl rfl (fun h29 => ?_) (fun h29 => ?_)
 ·
  refine Zl (Yb rfl)<|ZG<|Zl (Yi rfl)<|ZG<|Zl (Yi rfl)<|ZG ?_
  refine lwD (lss_r rfl rfl) rfl rfl rfl (fun h33 => ?_) (fun h33 => ?_)
  ·
   refine Zl (Kt rfl rfl)<|Zl (Yb rfl)<|ZG<|Zl (Yb rfl)<|Zl (Kt rfl rfl)<|Zn<|ZT rfl<|Zk<|Zs<|Zb<|Zs ?_
   obtain ⟨x, hx⟩ : ∃ x, l[i]? = some x := ⟨_, List.getElem?_eq_getElem (by omega)⟩
   have hxo := hok x (List.mem_of_getElem? hx)
   have htl := (coOk_parts hci.1.ok).1
   refine Zr<|Zl (Ys rfl)<|Zl (Yi rfl)<|ixF H 2 rfl sl_LRaw rfl rfl (by omega) (by omega) rfl fun bq6 o6 x6 e6 => ?_
   obtain rfl : x = x6 := by have := e6.at_; rw [hx] at this; exact Option.some.inj this
   refine Zl (ldA_r (xs := Raw.cs x) agg_Raw rfl rfl e6.cl)<|alo H z_Raw rfl fun w7 b10 H =>stN H 0 (#[.int .i64 (x.kind), .int .i64 (x.a), .int .i64 (x.b), .int .i64 (x.c)]) siz_Raw rfl rfl rfl rfl rfl (by kernel_rfl) (by kernel_rfl) fun w8 H =>Zn<|Zs<|Zr<|Zl (Zw agg_Coord H 1 rfl rfl rfl)<|alo H z_Coord rfl fun w9 b11 H =>stN H 0 (#[.int .i64 (c.clock), .int .i64 (c.next), .int .i64 (c.wait), .slice c.A c.txs.length c.cap]) siz_Coord rfl rfl rfl rfl rfl (by kernel_rfl) (by kernel_rfl) fun w10 H =>Zn<|Zs<|Zr<|Zl (Wi rfl)<|Zn ?_
   refine Zs<|Zr<|Zl (Wi rfl)<|Zn<|Zs<|Zs<|Zr<|Zl (Zf fd_Coord_3 rfl)<|Zl (Zd one_LTxn H 2 rfl rfl rfl)<|Zl (lenS_r len_LTxn rfl)<|Zl (Yi rfl)<|Zn<|Zb ?_
   refine cw_loop (τ := Nat × Int) [13, 15, 48, 49, 50, 51, 52, 53, 54, 55, 56, 57, 58, 59, 60] (fun (k, vr) => [(48, .int .i64 (k : Nat)), (13, .int .i64 vr)]) (fun (k, vr) w' => k ≤ c.txs.length ∧ Hp w w' [(b11, .cells #[.int .i64 (c.clock), .int .i64 (c.next), .int .i64 (c.wait), .slice c.A c.txs.length c.cap] T_Coord (0, 0)), (b10, .cells #[.int .i64 (x.kind), .int .i64 (x.a), .int .i64 (x.b), .int .i64 (x.c)] T_Raw (0, 0)), (b6, .cells #[.int .i64 (c.clock), .int .i64 (c.next), .int .i64 (c.wait), .slice c.A c.txs.length c.cap] T_Coord (0, 0)), (b4, .cells #[.int .i64 0, .int .i64 0, .int .i64 0, .slice none 0 0] T_Coord (0, 0))] [FRd txL lo hi c.A c.txs, FCo lo hi c, FRd rawL 0 w.heap.size A l]) (fun (k, _) => c.txs.length - k) (0, 0) ⟨by omega, H⟩ (sl2 rfl rfl) ?_
   rintro ⟨k, vr⟩ ρ1 w11 ⟨hk, H⟩
   show CW _ _ _ _ (updL (ovr _ _ ρ1) [(48, .int .i64 (k : Nat)), (13, .int .i64 vr)]) w11
   refine Zs<|Zr ?_
   refine lwD (lss_r rfl rfl) rfl rfl rfl (fun h49 => ?_) (fun h49 => ?_)
   ·
    refine Zn<|Zs<|ZT rfl<|Zk<|Zs<|Zb<|Zs ?_
    obtain ⟨y, hy⟩ : ∃ y, c.txs[k]? = some y := ⟨_, List.getElem?_eq_getElem (by omega)⟩
    refine Zr<|ixF H 0 rfl sl_LTxn rfl rfl (by omega) (by omega) rfl fun bq12 o12 x12 e12 => ?_
    obtain rfl : y = x12 := by have := e12.at_; rw [hy] at this; exact Option.some.inj this
    refine Zl (ldA_r (xs := Tx.c y) agg_Txn rfl rfl e12.cl)<|alo H z_Txn rfl fun w13 b15 H =>stN H 0 (#[.string (y.name), .int .i64 (y.pid), .int .i64 (y.ver), .int .i64 (y.state), .slice y.A y.parts.length y.cap, .int .i64 (y.since), .int .i64 (y.done)]) siz_Txn rfl rfl rfl rfl rfl (by kernel_rfl) (by kernel_rfl) fun w14 H =>Zn<|Zs ?_
       
    refine cw_draw mixed [0, 1, 2, 3, 4, 5] [] [4] [0, 2, 5] (sp [(4, Sp.one (.string (nm3 (pk x.a 3))))]) (by kernel_rfl) (by kernel_rfl) (by kernel_rfl) (by kernel_rfl) (fun _ _ _ h => h) (sp_st _) ?_
    refine aw rfl rfl rfl rfl rfl (fun w' hw' => Zf fd_Txn_0 rfl)<|aw rfl rfl rfl rfl rfl (fun w' hw' => ld_r one_string rfl (cellE ((H.later hw').ent (i := 0) rfl) rfl))<|aw rfl rfl rfl rfl rfl (fun w' hw' => Zf fd_Raw_1 rfl)<|aw rfl rfl rfl rfl rfl (fun w' hw' => ld_r one_int rfl (cellE ((H.later hw').ent (i := 2) rfl) rfl))<|awCalV cb_tailracekeep_name rfl rfl rfl rfl rfl (fun w' hw' => kname_ok x.a w' hxo.2.1) rfl ?_
    refine awD rfl rfl rfl rfl rfl (fun w' hw' => seql_r rfl rfl) (fun h57 => ?_) (fun h57 => ?_)
    ·
     refine aw_nil ?_
     intro w15 hw' hF
     replace H := H.later hw'; clear hw' hF
     refine Zn<|ZT rfl<|Zr<|Zl (Zf fd_Txn_2 rfl)<|Zl (Zd one_int H 0 rfl rfl rfl)<|Zl (Wi rfl)<|Zn<|Zr<|Zl (add_r rfl rfl (by omega) (by omega))<|Zl (Yi rfl)<|Zn ?_
     exact ⟨(k + 1, _), ⟨by omega, H.forget (.cons _ (List.Sublist.refl _)) (fun _ h => h)⟩, sl2 rfl rfl, by repeat (first | exact Agr.refl _ _ | exact agr_ovr | refine agr_upd rfl ?_ | refine agr_updL _ rfl ?_ | refine agr_ovr2 rfl ?_), by show c.txs.length - (k + 1) < c.txs.length - k; omega⟩
    ·
     refine aw_nil ?_
     intro w16 hw' hF
     replace H := H.later hw'; clear hw' hF
     refine Zn<|ZF rfl<|Zk<|Zr<|Zl (add_r rfl rfl (by omega) (by omega))<|Zl (Yi rfl)<|Zn ?_
     exact ⟨(k + 1, _), ⟨by omega, H.forget (.cons _ (List.Sublist.refl _)) (fun _ h => h)⟩, sl2 rfl rfl, by repeat (first | exact Agr.refl _ _ | exact agr_ovr | refine agr_upd rfl ?_ | refine agr_updL _ rfl ?_ | refine agr_ovr2 rfl ?_), by show c.txs.length - (k + 1) < c.txs.length - k; omega⟩
   ·
    refine Zn<|Zs<|ZF rfl<|Zx<|Zs<|Zs<|Zr<|Zl (Zf fd_Raw_0 rfl)<|Zl (Zd one_int H 1 rfl rfl rfl)<|cal cb_tailracekeep_picked (picked_ok x.kind (8) _ hxo.1.1 hxo.1.2 (by omega) (by omega)) rfl rfl ?_
    rintro _ w17 ⟨rfl, hb⟩; replace H := H.later hb; clear hb
    refine Zn ?_
    refine cw_cut (τ := Co × Int × Nat × Nat) [12, 16, 17, 18, 19, 64, 65, 66, 67, 68, 69, 70, 71, 72, 73, 74, 75, 76, 77, 78, 79, 80, 81, 82, 83, 84, 85, 86, 87, 88, 89, 90, 91, 92, 93, 94, 95, 96, 97, 98, 99, 100, 101, 102, 103, 104, 105, 106, 107, 108, 109, 110, 111, 112, 113, 114, 115, 116, 117, 118, 119, 120, 121, 122, 123, 124, 125, 126, 127, 128, 129, 130, 131, 132, 133, 134, 135, 136] (fun (_, e, _, _) => [(12, .int .i64 e)]) (fun (q, e, lo2, hi2) w' => (e = 0 → CoI (i + 1) q) ∧ w.heap.size ≤ lo2 ∧ Hp w w' [(b11, .cells #[.int .i64 (q.clock), .int .i64 (q.next), .int .i64 (q.wait), .slice q.A q.txs.length q.cap] T_Coord (0, 0)), (b10, .cells #[.int .i64 (x.kind), .int .i64 (x.a), .int .i64 (x.b), .int .i64 (x.c)] T_Raw (0, 0)), (b6, .cells #[.int .i64 (c.clock), .int .i64 (c.next), .int .i64 (c.wait), .slice c.A c.txs.length c.cap] T_Coord (0, 0)), (b4, .cells #[.int .i64 0, .int .i64 0, .int .i64 0, .slice none 0 0] T_Coord (0, 0))] (FCo lo2 hi2 q :: [FRd txL lo hi c.A c.txs, FCo lo hi c, FRd rawL 0 w.heap.size A l])) ?_ ?_
    ·
     skip
     refine Zb<|Zs<|Zr ?_
     refine lwD (eql_r rfl rfl) rfl rfl rfl (fun h73 => ?_) (fun h73 => ?_)
     ·
      refine Zl (Wb rfl)<|Zn<|ZT rfl ?_
           
      have hloq := H.size
      have hca := hci.1.a
      have hcn := hci.2.a
      refine cw_draw mixed [0, 1, 2, 3, 4, 5, 6, 7, 8, 9] [10, 11] [3, 4] [1, 5, 6, 7, 8, 9] (sp [(3, Sp.one (.string (nm3 (pk x.a 3)))), (4, Sp.deep w17.heap.size coD (fun c : Co => c.c.toArray) (fun cs => .tuple #[.agg cs, .int .i64 (initS c.a (nm3 (pk x.a 3))).2.1, .int .i64 (initS c.a (nm3 (pk x.a 3))).2.2.1, .int .i64 (initS c.a (nm3 (pk x.a 3))).2.2.2]) (fun q : Co => q.a = (initS c.a (nm3 (pk x.a 3))).1))]) (by kernel_rfl) (by kernel_rfl) (by kernel_rfl) (by kernel_rfl) (fun _ _ _ h => h) (sp_st _) ?_
      refine aw rfl rfl rfl rfl rfl (fun w' hw' => ldW_r agg_Coord rfl ((H.later hw').ent (i := 2) rfl) rfl)<|aw rfl rfl rfl rfl rfl (fun w' hw' => Zf fd_Raw_1 rfl)<|aw rfl rfl rfl rfl rfl (fun w' hw' => ld_r one_int rfl (cellE ((H.later hw').ent (i := 1) rfl) rfl))<|awCalV cb_tailracekeep_name rfl rfl rfl rfl rfl (fun w' hw' => kname_ok x.a w' hxo.2.1) rfl<|awDeep (gv := (fun cs => .tuple #[.agg cs, .int .i64 (initS c.a (nm3 (pk x.a 3))).2.1, .int .i64 (initS c.a (nm3 (pk x.a 3))).2.2.1, .int .i64 (initS c.a (nm3 (pk x.a 3))).2.2.2])) cb_coord_Init rfl rfl rfl rfl rfl (fun w' hw' => hw'.size) (fun w' hw' => initS_ok c (nm3 (pk x.a 3)) i w' (Hp.co (H.later hw') 1 rfl) hci.1 (by omega) (nm3_ok _)) rfl fun cs79 =>aw rfl rfl rfl rfl rfl (fun w' hw' => Yu rfl)<|aw rfl rfl rfl rfl rfl (fun w' hw' => Xa rfl rfl)<|aw rfl rfl rfl rfl rfl (fun w' hw' => Xi rfl rfl)<|aw rfl rfl rfl rfl rfl (fun w' hw' => Xi rfl rfl)<|aw rfl rfl rfl rfl rfl (fun w' hw' => Xi rfl rfl)<|aw_nil ?_
      intro w18 hw' hF
      obtain ⟨hF, q, eq, haq, hrd79⟩ := hF; cases eq
      obtain ⟨hF, -⟩ := hF
      replace H := H.learn hw' (FCo w17.heap.size w18.heap.size q) hrd79 (Nat.le_refl _) (Nat.le_refl _)
      clear hw' hF
      refine stN H 0 (#[.int .i64 (q.clock), .int .i64 (q.next), .int .i64 (q.wait), .slice q.A q.txs.length q.cap]) siz_Coord rfl rfl rfl rfl rfl (by kernel_rfl) (by kernel_rfl) fun w19 H =>Zl (Wi rfl)<|Zn ?_
      exact ⟨(q, (initS c.a (nm3 (pk x.a 3))).2.2.2, _, _), ⟨CoI.next (r := ((initS c.a (nm3 (pk x.a 3))).1, (initS c.a (nm3 (pk x.a 3))).2.2.2)) (init_ok hca (by omega) (nm3_ok _)) (hcn.init ⟨_, rfl⟩) haq, hloq, H.forget (List.Sublist.refl _) (fun _ h => h)⟩, sl1 rfl, by repeat (first | exact Agr.refl _ _ | exact agr_ovr | refine agr_upd rfl ?_ | refine agr_updL _ rfl ?_ | refine agr_ovr2 rfl ?_)⟩
     ·
      refine Zl (Wb rfl)<|Zn<|ZF rfl<|Zs<|Zs<|Zr ?_
      refine lwD (eql_r rfl rfl) rfl rfl rfl (fun h85 => ?_) (fun h85 => ?_)
      ·
       refine Zl (Wb rfl)<|Zn<|ZT rfl<|Zk<|ZT rfl ?_
             
       have hloq := H.size
       have hca := hci.1.a
       have hcn := hci.2.a
       refine cw_draw mixed [0, 1, 2, 4, 5, 6, 3, 7, 8, 9, 10, 11] [12, 13] [3, 7, 8] [1, 4, 5, 9, 10, 11] (sp [(3, Sp.one (.string (nm3 (pk x.a 3)))), (7, Sp.one (.int .i64 ((pk x.b 4 : Nat) : Int))), (8, Sp.deep w17.heap.size coD (fun c : Co => c.c.toArray) (fun cs => .tuple #[.agg cs, .int .i64 (addS c.a (nm3 (pk x.a 3)) vr (pk x.b 4)).2]) (fun q : Co => q.a = (addS c.a (nm3 (pk x.a 3)) vr (pk x.b 4)).1))]) (by kernel_rfl) (by kernel_rfl) (by kernel_rfl) (by kernel_rfl) (fun _ _ _ h => h) (sp_st _) ?_
       refine aw rfl rfl rfl rfl rfl (fun w' hw' => ldW_r agg_Coord rfl ((H.later hw').ent (i := 2) rfl) rfl)<|aw rfl rfl rfl rfl rfl (fun w' hw' => Zf fd_Raw_1 rfl)<|aw rfl rfl rfl rfl rfl (fun w' hw' => ld_r one_int rfl (cellE ((H.later hw').ent (i := 1) rfl) rfl))<|aw rfl rfl rfl rfl rfl (fun w' hw' => Yi rfl)<|aw rfl rfl rfl rfl rfl (fun w' hw' => Zf fd_Raw_2 rfl)<|aw rfl rfl rfl rfl rfl (fun w' hw' => ld_r one_int rfl (cellE ((H.later hw').ent (i := 1) rfl) rfl))<|awCalV cb_tailracekeep_name rfl rfl rfl rfl rfl (fun w' hw' => kname_ok x.a w' hxo.2.1) rfl<|awCalV cb_tailracekeep_picked rfl rfl rfl rfl rfl (fun w' hw' => picked_ok x.b 4 w' hxo.2.2.1.1 hxo.2.2.1.2 (by omega) (by omega)) rfl<|awDeep (gv := (fun cs => .tuple #[.agg cs, .int .i64 (addS c.a (nm3 (pk x.a 3)) vr (pk x.b 4)).2])) cb_coord_Add rfl rfl rfl rfl rfl (fun w' hw' => hw'.size) (fun w' hw' => addSc_ok c (nm3 (pk x.a 3)) vr (pk x.b 4) i w' (Hp.co (H.later hw') 1 rfl) hci.1 (nm3_ok _) (by omega) (by have := pk_lt x.b (show 0 < 4 by decide); omega)) rfl fun cs97 =>aw rfl rfl rfl rfl rfl (fun w' hw' => Yu rfl)<|aw rfl rfl rfl rfl rfl (fun w' hw' => Xa rfl rfl)<|aw rfl rfl rfl rfl rfl (fun w' hw' => Xi rfl rfl)<|aw_nil ?_
       intro w20 hw' hF
       obtain ⟨hF, q, eq, haq, hrd97⟩ := hF; cases eq
       obtain ⟨hF, -⟩ := hF
       obtain ⟨hF, -⟩ := hF
       replace H := H.learn hw' (FCo w17.heap.size w20.heap.size q) hrd97 (Nat.le_refl _) (Nat.le_refl _)
       clear hw' hF
       refine stN H 0 (#[.int .i64 (q.clock), .int .i64 (q.next), .int .i64 (q.wait), .slice q.A q.txs.length q.cap]) siz_Coord rfl rfl rfl rfl rfl (by kernel_rfl) (by kernel_rfl) fun w21 H =>Zl (Wi rfl)<|Zn ?_
       exact ⟨(q, (addS c.a (nm3 (pk x.a 3)) vr (pk x.b 4)).2, _, _), ⟨CoI.next (r := (addS c.a (nm3 (pk x.a 3)) vr (pk x.b 4))) (addS_ok hca (by omega) (by have := pk_lt x.b (show 0 < 4 by decide); omega)) (hcn.add) haq, hloq, H.forget (List.Sublist.refl _) (fun _ h => h)⟩, sl1 rfl, by repeat (first | exact Agr.refl _ _ | exact agr_ovr | refine agr_upd rfl ?_ | refine agr_updL _ rfl ?_ | refine agr_ovr2 rfl ?_)⟩
      ·
       refine Zl (Wb rfl)<|Zn<|ZF rfl<|Zs<|Zr ?_
       refine lwD (eql_r rfl rfl) rfl rfl rfl (fun h86 => ?_) (fun h86 => ?_)
       ·
        refine Zl (Wb rfl)<|Zn<|ZT rfl<|Zk<|ZT rfl ?_
               
        have hloq := H.size
        have hca := hci.1.a
        have hcn := hci.2.a
        refine cw_draw mixed [0, 1, 2, 4, 5, 6, 3, 7, 8, 9, 10, 11] [12, 13] [3, 7, 8] [1, 4, 5, 9, 10, 11] (sp [(3, Sp.one (.string (nm3 (pk x.a 3)))), (7, Sp.one (.int .i64 ((pk x.b 4 : Nat) : Int))), (8, Sp.deep w17.heap.size coD (fun c : Co => c.c.toArray) (fun cs => .tuple #[.agg cs, .int .i64 (addS c.a (nm3 (pk x.a 3)) vr (pk x.b 4)).2]) (fun q : Co => q.a = (addS c.a (nm3 (pk x.a 3)) vr (pk x.b 4)).1))]) (by kernel_rfl) (by kernel_rfl) (by kernel_rfl) (by kernel_rfl) (fun _ _ _ h => h) (sp_st _) ?_
        refine aw rfl rfl rfl rfl rfl (fun w' hw' => ldW_r agg_Coord rfl ((H.later hw').ent (i := 2) rfl) rfl)<|aw rfl rfl rfl rfl rfl (fun w' hw' => Zf fd_Raw_1 rfl)<|aw rfl rfl rfl rfl rfl (fun w' hw' => ld_r one_int rfl (cellE ((H.later hw').ent (i := 1) rfl) rfl))<|aw rfl rfl rfl rfl rfl (fun w' hw' => Yi rfl)<|aw rfl rfl rfl rfl rfl (fun w' hw' => Zf fd_Raw_2 rfl)<|aw rfl rfl rfl rfl rfl (fun w' hw' => ld_r one_int rfl (cellE ((H.later hw').ent (i := 1) rfl) rfl))<|awCalV cb_tailracekeep_name rfl rfl rfl rfl rfl (fun w' hw' => kname_ok x.a w' hxo.2.1) rfl<|awCalV cb_tailracekeep_picked rfl rfl rfl rfl rfl (fun w' hw' => picked_ok x.b 4 w' hxo.2.2.1.1 hxo.2.2.1.2 (by omega) (by omega)) rfl<|awDeep (gv := (fun cs => .tuple #[.agg cs, .int .i64 (addS c.a (nm3 (pk x.a 3)) vr (pk x.b 4)).2])) cb_coord_Add rfl rfl rfl rfl rfl (fun w' hw' => hw'.size) (fun w' hw' => addSc_ok c (nm3 (pk x.a 3)) vr (pk x.b 4) i w' (Hp.co (H.later hw') 1 rfl) hci.1 (nm3_ok _) (by omega) (by have := pk_lt x.b (show 0 < 4 by decide); omega)) rfl fun cs97 =>aw rfl rfl rfl rfl rfl (fun w' hw' => Yu rfl)<|aw rfl rfl rfl rfl rfl (fun w' hw' => Xa rfl rfl)<|aw rfl rfl rfl rfl rfl (fun w' hw' => Xi rfl rfl)<|aw_nil ?_
        intro w22 hw' hF
        obtain ⟨hF, q, eq, haq, hrd97⟩ := hF; cases eq
        obtain ⟨hF, -⟩ := hF
        obtain ⟨hF, -⟩ := hF
        replace H := H.learn hw' (FCo w17.heap.size w22.heap.size q) hrd97 (Nat.le_refl _) (Nat.le_refl _)
        clear hw' hF
        refine stN H 0 (#[.int .i64 (q.clock), .int .i64 (q.next), .int .i64 (q.wait), .slice q.A q.txs.length q.cap]) siz_Coord rfl rfl rfl rfl rfl (by kernel_rfl) (by kernel_rfl) fun w23 H =>Zl (Wi rfl)<|Zn ?_
        exact ⟨(q, (addS c.a (nm3 (pk x.a 3)) vr (pk x.b 4)).2, _, _), ⟨CoI.next (r := (addS c.a (nm3 (pk x.a 3)) vr (pk x.b 4))) (addS_ok hca (by omega) (by have := pk_lt x.b (show 0 < 4 by decide); omega)) (hcn.add) haq, hloq, H.forget (List.Sublist.refl _) (fun _ h => h)⟩, sl1 rfl, by repeat (first | exact Agr.refl _ _ | exact agr_ovr | refine agr_upd rfl ?_ | refine agr_updL _ rfl ?_ | refine agr_ovr2 rfl ?_)⟩
       ·
        refine Zl (Wb rfl)<|Zn<|ZF rfl<|Zr ?_
        refine lwD (eql_r rfl rfl) rfl rfl rfl (fun h87 => ?_) (fun h87 => ?_)
        ·
         refine Zl (Wb rfl)<|Zn<|ZT rfl ?_
                 
         have hloq := H.size
         have hca := hci.1.a
         have hcn := hci.2.a
         refine cw_draw mixed [0, 1, 2, 4, 5, 6, 3, 7, 8, 9, 10, 11] [12, 13] [3, 7, 8] [1, 4, 5, 9, 10, 11] (sp [(3, Sp.one (.string (nm3 (pk x.a 3)))), (7, Sp.one (.int .i64 ((pk x.b 4 : Nat) : Int))), (8, Sp.deep w17.heap.size coD (fun c : Co => c.c.toArray) (fun cs => .tuple #[.agg cs, .int .i64 (addS c.a (nm3 (pk x.a 3)) vr (pk x.b 4)).2]) (fun q : Co => q.a = (addS c.a (nm3 (pk x.a 3)) vr (pk x.b 4)).1))]) (by kernel_rfl) (by kernel_rfl) (by kernel_rfl) (by kernel_rfl) (fun _ _ _ h => h) (sp_st _) ?_
         refine aw rfl rfl rfl rfl rfl (fun w' hw' => ldW_r agg_Coord rfl ((H.later hw').ent (i := 2) rfl) rfl)<|aw rfl rfl rfl rfl rfl (fun w' hw' => Zf fd_Raw_1 rfl)<|aw rfl rfl rfl rfl rfl (fun w' hw' => ld_r one_int rfl (cellE ((H.later hw').ent (i := 1) rfl) rfl))<|aw rfl rfl rfl rfl rfl (fun w' hw' => Yi rfl)<|aw rfl rfl rfl rfl rfl (fun w' hw' => Zf fd_Raw_2 rfl)<|aw rfl rfl rfl rfl rfl (fun w' hw' => ld_r one_int rfl (cellE ((H.later hw').ent (i := 1) rfl) rfl))<|awCalV cb_tailracekeep_name rfl rfl rfl rfl rfl (fun w' hw' => kname_ok x.a w' hxo.2.1) rfl<|awCalV cb_tailracekeep_picked rfl rfl rfl rfl rfl (fun w' hw' => picked_ok x.b 4 w' hxo.2.2.1.1 hxo.2.2.1.2 (by omega) (by omega)) rfl<|awDeep (gv := (fun cs => .tuple #[.agg cs, .int .i64 (addS c.a (nm3 (pk x.a 3)) vr (pk x.b 4)).2])) cb_coord_Add rfl rfl rfl rfl rfl (fun w' hw' => hw'.size) (fun w' hw' => addSc_ok c (nm3 (pk x.a 3)) vr (pk x.b 4) i w' (Hp.co (H.later hw') 1 rfl) hci.1 (nm3_ok _) (by omega) (by have := pk_lt x.b (show 0 < 4 by decide); omega)) rfl fun cs97 =>aw rfl rfl rfl rfl rfl (fun w' hw' => Yu rfl)<|aw rfl rfl rfl rfl rfl (fun w' hw' => Xa rfl rfl)<|aw rfl rfl rfl rfl rfl (fun w' hw' => Xi rfl rfl)<|aw_nil ?_
         intro w24 hw' hF
         obtain ⟨hF, q, eq, haq, hrd97⟩ := hF; cases eq
         obtain ⟨hF, -⟩ := hF
         obtain ⟨hF, -⟩ := hF
         replace H := H.learn hw' (FCo w17.heap.size w24.heap.size q) hrd97 (Nat.le_refl _) (Nat.le_refl _)
         clear hw' hF
         refine stN H 0 (#[.int .i64 (q.clock), .int .i64 (q.next), .int .i64 (q.wait), .slice q.A q.txs.length q.cap]) siz_Coord rfl rfl rfl rfl rfl (by kernel_rfl) (by kernel_rfl) fun w25 H =>Zl (Wi rfl)<|Zn ?_
         exact ⟨(q, (addS c.a (nm3 (pk x.a 3)) vr (pk x.b 4)).2, _, _), ⟨CoI.next (r := (addS c.a (nm3 (pk x.a 3)) vr (pk x.b 4))) (addS_ok hca (by omega) (by have := pk_lt x.b (show 0 < 4 by decide); omega)) (hcn.add) haq, hloq, H.forget (List.Sublist.refl _) (fun _ h => h)⟩, sl1 rfl, by repeat (first | exact Agr.refl _ _ | exact agr_ovr | refine agr_upd rfl ?_ | refine agr_updL _ rfl ?_ | refine agr_ovr2 rfl ?_)⟩
        ·
         refine Zl (Wb rfl)<|Zn<|ZF rfl<|Zs<|Zr ?_
         refine lwD (eql_r rfl rfl) rfl rfl rfl (fun h101 => ?_) (fun h101 => ?_)
         ·
          refine Zl (Wb rfl)<|Zn<|ZT rfl ?_
                   
          have hloq := H.size
          have hca := hci.1.a
          have hcn := hci.2.a
          refine cw_draw mixed [0, 1, 2, 4, 5, 6, 3, 7, 8, 9, 10, 11, 12] [13, 14] [3, 7, 9] [1, 4, 5, 8, 10, 11, 12] (sp [(3, Sp.one (.string (nm3 (pk x.a 3)))), (7, Sp.one (.int .i64 ((pk x.c 2 : Nat) : Int))), (9, Sp.deep w17.heap.size coD (fun c : Co => c.c.toArray) (fun cs => .tuple #[.agg cs, .int .i64 (endS c.a (nm3 (pk x.a 3)) vr (decide (((pk x.c 2 : Nat) : Int) = 0))).2]) (fun q : Co => q.a = (endS c.a (nm3 (pk x.a 3)) vr (decide (((pk x.c 2 : Nat) : Int) = 0))).1))]) (by kernel_rfl) (by kernel_rfl) (by kernel_rfl) (by kernel_rfl) (fun _ _ _ h => h) (sp_st _) ?_
          refine aw rfl rfl rfl rfl rfl (fun w' hw' => ldW_r agg_Coord rfl ((H.later hw').ent (i := 2) rfl) rfl)<|aw rfl rfl rfl rfl rfl (fun w' hw' => Zf fd_Raw_1 rfl)<|aw rfl rfl rfl rfl rfl (fun w' hw' => ld_r one_int rfl (cellE ((H.later hw').ent (i := 1) rfl) rfl))<|aw rfl rfl rfl rfl rfl (fun w' hw' => Yi rfl)<|aw rfl rfl rfl rfl rfl (fun w' hw' => Zf fd_Raw_3 rfl)<|aw rfl rfl rfl rfl rfl (fun w' hw' => ld_r one_int rfl (cellE ((H.later hw').ent (i := 1) rfl) rfl))<|awCalV cb_tailracekeep_name rfl rfl rfl rfl rfl (fun w' hw' => kname_ok x.a w' hxo.2.1) rfl<|awCalV cb_tailracekeep_picked rfl rfl rfl rfl rfl (fun w' hw' => picked_ok x.c 2 w' hxo.2.2.2.1 hxo.2.2.2.2 (by omega) (by omega)) rfl<|aw rfl rfl rfl rfl rfl (fun w' hw' => eql_r rfl rfl)<|awDeep (gv := (fun cs => .tuple #[.agg cs, .int .i64 (endS c.a (nm3 (pk x.a 3)) vr (decide (((pk x.c 2 : Nat) : Int) = 0))).2])) cb_coord_End rfl rfl rfl rfl rfl (fun w' hw' => hw'.size) (fun w' hw' => endSc_ok c (nm3 (pk x.a 3)) vr (decide (((pk x.c 2 : Nat) : Int) = 0)) i w' (Hp.co (H.later hw') 1 rfl) hci.1 (nm3_ok _)) rfl fun cs112 =>aw rfl rfl rfl rfl rfl (fun w' hw' => Yu rfl)<|aw rfl rfl rfl rfl rfl (fun w' hw' => Xa rfl rfl)<|aw rfl rfl rfl rfl rfl (fun w' hw' => Xi rfl rfl)<|aw_nil ?_
          intro w26 hw' hF
          obtain ⟨hF, q, eq, haq, hrd112⟩ := hF; cases eq
          obtain ⟨hF, -⟩ := hF
          obtain ⟨hF, -⟩ := hF
          replace H := H.learn hw' (FCo w17.heap.size w26.heap.size q) hrd112 (Nat.le_refl _) (Nat.le_refl _)
          clear hw' hF
          refine stN H 0 (#[.int .i64 (q.clock), .int .i64 (q.next), .int .i64 (q.wait), .slice q.A q.txs.length q.cap]) siz_Coord rfl rfl rfl rfl rfl (by kernel_rfl) (by kernel_rfl) fun w27 H =>Zl (Wi rfl)<|Zn ?_
          exact ⟨(q, (endS c.a (nm3 (pk x.a 3)) vr (decide (((pk x.c 2 : Nat) : Int) = 0))).2, _, _), ⟨CoI.next (r := (endS c.a (nm3 (pk x.a 3)) vr (decide (((pk x.c 2 : Nat) : Int) = 0)))) (endS_ok hca) (hcn.end_) haq, hloq, H.forget (List.Sublist.refl _) (fun _ h => h)⟩, sl1 rfl, by repeat (first | exact Agr.refl _ _ | exact agr_ovr | refine agr_upd rfl ?_ | refine agr_updL _ rfl ?_ | refine agr_ovr2 rfl ?_)⟩
         ·
          refine Zl (Wb rfl)<|Zn<|ZF rfl<|Zs<|Zs<|Zr ?_
          refine lwD (eql_r rfl rfl) rfl rfl rfl (fun h116 => ?_) (fun h116 => ?_)
          ·
           refine Zl (Wb rfl)<|Zn<|ZT rfl<|Zk<|ZT rfl<|Zs ?_
                     
           have hca := hci.1.a
           have hcn := hci.2.a
           refine cw_draw mixed [0, 1, 2, 3, 4, 5, 6, 7, 8, 9, 10, 11, 12] [13, 14] [3, 4, 10] [1, 5, 6, 7, 8, 9, 11, 12] (sp [(3, Sp.one (.int .i64 ((pk x.c 2 : Nat) : Int))), (4, Sp.one (.tuple #[.string (nextNm (nthEnd c.a.txs (pk x.c 2))), .int .i64 (nextPt (nthEnd c.a.txs (pk x.c 2))), .agg #[.int .i64 0, .int .i64 (nextPid (nthEnd c.a.txs (pk x.c 2))), .int .i64 (nextVer (nthEnd c.a.txs (pk x.c 2))), .int .i64 0, .int .i64 (nextKd (nthEnd c.a.txs (pk x.c 2))), .bool (nextB (nthEnd c.a.txs (pk x.c 2))), .string ⟨#[]⟩], .int .i64 (nextE (nthEnd c.a.txs (pk x.c 2)))])), (10, Sp.blk w17.heap.size (.agg #[.int .i64 0, .int .i64 0, .int .i64 0, .int .i64 0, .int .i64 0, .bool false, .string ⟨#[]⟩]) T_Entry)]) (by kernel_rfl) (by kernel_rfl) (by kernel_rfl) (by kernel_rfl) (fun _ _ _ h => h) (sp_st _) ?_
           refine aw rfl rfl rfl rfl rfl (fun w' hw' => ldW_r agg_Coord rfl ((H.later hw').ent (i := 2) rfl) rfl)<|aw rfl rfl rfl rfl rfl (fun w' hw' => Zf fd_Raw_3 rfl)<|aw rfl rfl rfl rfl rfl (fun w' hw' => ld_r one_int rfl (cellE ((H.later hw').ent (i := 1) rfl) rfl))<|awCalV cb_tailracekeep_picked rfl rfl rfl rfl rfl (fun w' hw' => picked_ok x.c 2 w' hxo.2.2.2.1 hxo.2.2.2.2 (by omega) (by omega)) rfl<|awCalV cb_coord_Next rfl rfl rfl rfl rfl (fun w' hw' => nextT_ok c (pk x.c 2) w' (Hp.co (H.later hw') 1 rfl) hci.1.ok (by have := pk_lt x.c (show 0 < 2 by decide); omega)) rfl<|aw rfl rfl rfl rfl rfl (fun w' hw' => Yu rfl)<|aw rfl rfl rfl rfl rfl (fun w' hw' => exT_r rfl rfl)<|aw rfl rfl rfl rfl rfl (fun w' hw' => Xi rfl rfl)<|aw rfl rfl rfl rfl rfl (fun w' hw' => Xa rfl rfl)<|aw rfl rfl rfl rfl rfl (fun w' hw' => Xi rfl rfl)<|awAl z_Entry rfl rfl rfl rfl rfl (fun w' hw' => hw'.size) fun b18 =>aw rfl rfl rfl rfl rfl (fun w' hw' => Wt rfl)<|aw rfl rfl rfl rfl rfl (fun w' hw' => Wi rfl)<|aw_nil ?_
           intro w28 hw' hF
           obtain ⟨hF, bq, eq, hge18, hbl18⟩ := hF; cases eq
           obtain ⟨hF, -⟩ := hF
           obtain ⟨hF, -⟩ := hF
           have Hb := H
           replace H := H.adoptNew hw' hbl18 hge18
           clear hw' hF
           refine stN H 0 (#[.int .i64 (0), .int .i64 (nextPid (nthEnd c.a.txs (pk x.c 2))), .int .i64 (nextVer (nthEnd c.a.txs (pk x.c 2))), .int .i64 (0), .int .i64 (nextKd (nthEnd c.a.txs (pk x.c 2))), .bool (nextB (nthEnd c.a.txs (pk x.c 2))), .string (⟨#[]⟩)]) siz_Entry rfl rfl rfl rfl rfl (by kernel_rfl) (by kernel_rfl) fun w29 H =>Zl (Wi rfl)<|Zn<|Zs<|Zr<|Zl (Yi rfl) ?_
           refine lwD (eql_r rfl rfl) rfl rfl rfl (fun h129 => ?_) (fun h129 => ?_)
           ·
            obtain ⟨tx, htx⟩ := nextE_some h129
            obtain ⟨⟨ix, hfx⟩, hst, hpp, -⟩ := next_done hca.ok htx
            have hnn : nameOk (nextNm (nthEnd c.a.txs (pk x.c 2))) = true := by rw [htx]; exact (txOk_iff.1 ((coOk_iff2.1 hca.ok).2.1 tx (List.mem_of_getElem? (find_some hfx).2.1))).1
            replace hfx : findTx c.a (nextNm (nthEnd c.a.txs (pk x.c 2))) = some (ix, tx) := by rw [htx]; exact hfx
            replace hpp : nextPt (nthEnd c.a.txs (pk x.c 2)) ∈ tx.parts := by rw [htx]; exact hpp
            refine Zn<|ZT rfl<|Zr<|Zl (Zw agg_Coord H 3 rfl rfl rfl)<|Zl (Yt rfl)<|Zl (Yi rfl)<|cal cb_coord_Done (doneSc_ok c (nextNm (nthEnd c.a.txs (pk x.c 2))) (nextPt (nthEnd c.a.txs (pk x.c 2))) i ix tx _ (Hp.co H 1 rfl) hci.1 hnn hfx hst hpp) rfl rfl ?_
            have hloq := H.size
            rintro _ w30 ⟨q, rfl, haq, hnq⟩; replace H := H.learn hnq.2 (FCo w29.heap.size w30.heap.size q) hnq.1 (Nat.le_refl _) (Nat.le_refl _); clear hnq
            refine Zl (Yu rfl)<|Zl (Xa rfl rfl)<|Zl (Xi rfl rfl)<|stN H 1 (#[.int .i64 (q.clock), .int .i64 (q.next), .int .i64 (q.wait), .slice q.A q.txs.length q.cap]) siz_Coord rfl rfl rfl rfl rfl (by kernel_rfl) (by kernel_rfl) fun w31 H =>Zl (Wi rfl)<|Zn ?_
            exact ⟨(q, 0, _, _), ⟨fun _ => CoI.next (r := doneS c.a (nextNm (nthEnd c.a.txs (pk x.c 2))) (nextPt (nthEnd c.a.txs (pk x.c 2)))) (doneS_ok hca) hcn.done haq (doneS_zero hfx hst hpp), hloq, H.forget (.cons _ (List.Sublist.refl _)) (fun _ h => h)⟩, sl1 rfl, by repeat (first | exact Agr.refl _ _ | exact agr_ovr | refine agr_upd rfl ?_ | refine agr_updL _ rfl ?_ | refine agr_ovr2 rfl ?_)⟩
           ·
            refine Zn<|ZF rfl<|Zk ?_
            exact ⟨(c, 5, lo, hi), ⟨fun h => absurd h (by decide), hlo, H.forget (.cons _ (List.Sublist.refl _)) (fun f hf => by simp only [List.mem_cons] at hf ⊢; grind)⟩, sl1 rfl, by repeat (first | exact Agr.refl _ _ | exact agr_ovr | refine agr_upd rfl ?_ | refine agr_updL _ rfl ?_ | refine agr_ovr2 rfl ?_)⟩
          ·
           refine Zl (Wb rfl)<|Zn<|ZF rfl<|Zr ?_
           refine lwD (eql_r rfl rfl) rfl rfl rfl (fun h117 => ?_) (fun h117 => ?_)
           ·
            refine Zl (Wb rfl)<|Zn<|ZT rfl<|Zs ?_
                       
            have hca := hci.1.a
            have hcn := hci.2.a
            refine cw_draw mixed [0, 1, 2, 3, 4, 5, 6, 7, 8, 9, 10, 11, 12] [13, 14] [3, 4, 10] [1, 5, 6, 7, 8, 9, 11, 12] (sp [(3, Sp.one (.int .i64 ((pk x.c 2 : Nat) : Int))), (4, Sp.one (.tuple #[.string (nextNm (nthEnd c.a.txs (pk x.c 2))), .int .i64 (nextPt (nthEnd c.a.txs (pk x.c 2))), .agg #[.int .i64 0, .int .i64 (nextPid (nthEnd c.a.txs (pk x.c 2))), .int .i64 (nextVer (nthEnd c.a.txs (pk x.c 2))), .int .i64 0, .int .i64 (nextKd (nthEnd c.a.txs (pk x.c 2))), .bool (nextB (nthEnd c.a.txs (pk x.c 2))), .string ⟨#[]⟩], .int .i64 (nextE (nthEnd c.a.txs (pk x.c 2)))])), (10, Sp.blk w17.heap.size (.agg #[.int .i64 0, .int .i64 0, .int .i64 0, .int .i64 0, .int .i64 0, .bool false, .string ⟨#[]⟩]) T_Entry)]) (by kernel_rfl) (by kernel_rfl) (by kernel_rfl) (by kernel_rfl) (fun _ _ _ h => h) (sp_st _) ?_
            refine aw rfl rfl rfl rfl rfl (fun w' hw' => ldW_r agg_Coord rfl ((H.later hw').ent (i := 2) rfl) rfl)<|aw rfl rfl rfl rfl rfl (fun w' hw' => Zf fd_Raw_3 rfl)<|aw rfl rfl rfl rfl rfl (fun w' hw' => ld_r one_int rfl (cellE ((H.later hw').ent (i := 1) rfl) rfl))<|awCalV cb_tailracekeep_picked rfl rfl rfl rfl rfl (fun w' hw' => picked_ok x.c 2 w' hxo.2.2.2.1 hxo.2.2.2.2 (by omega) (by omega)) rfl<|awCalV cb_coord_Next rfl rfl rfl rfl rfl (fun w' hw' => nextT_ok c (pk x.c 2) w' (Hp.co (H.later hw') 1 rfl) hci.1.ok (by have := pk_lt x.c (show 0 < 2 by decide); omega)) rfl<|aw rfl rfl rfl rfl rfl (fun w' hw' => Yu rfl)<|aw rfl rfl rfl rfl rfl (fun w' hw' => exT_r rfl rfl)<|aw rfl rfl rfl rfl rfl (fun w' hw' => Xi rfl rfl)<|aw rfl rfl rfl rfl rfl (fun w' hw' => Xa rfl rfl)<|aw rfl rfl rfl rfl rfl (fun w' hw' => Xi rfl rfl)<|awAl z_Entry rfl rfl rfl rfl rfl (fun w' hw' => hw'.size) fun b18 =>aw rfl rfl rfl rfl rfl (fun w' hw' => Wt rfl)<|aw rfl rfl rfl rfl rfl (fun w' hw' => Wi rfl)<|aw_nil ?_
            intro w32 hw' hF
            obtain ⟨hF, bq, eq, hge18, hbl18⟩ := hF; cases eq
            obtain ⟨hF, -⟩ := hF
            obtain ⟨hF, -⟩ := hF
            have Hb := H
            replace H := H.adoptNew hw' hbl18 hge18
            clear hw' hF
            refine stN H 0 (#[.int .i64 (0), .int .i64 (nextPid (nthEnd c.a.txs (pk x.c 2))), .int .i64 (nextVer (nthEnd c.a.txs (pk x.c 2))), .int .i64 (0), .int .i64 (nextKd (nthEnd c.a.txs (pk x.c 2))), .bool (nextB (nthEnd c.a.txs (pk x.c 2))), .string (⟨#[]⟩)]) siz_Entry rfl rfl rfl rfl rfl (by kernel_rfl) (by kernel_rfl) fun w33 H =>Zl (Wi rfl)<|Zn<|Zs<|Zr<|Zl (Yi rfl) ?_
            refine lwD (eql_r rfl rfl) rfl rfl rfl (fun h129 => ?_) (fun h129 => ?_)
            ·
             obtain ⟨tx, htx⟩ := nextE_some h129
             obtain ⟨⟨ix, hfx⟩, hst, hpp, -⟩ := next_done hca.ok htx
             have hnn : nameOk (nextNm (nthEnd c.a.txs (pk x.c 2))) = true := by rw [htx]; exact (txOk_iff.1 ((coOk_iff2.1 hca.ok).2.1 tx (List.mem_of_getElem? (find_some hfx).2.1))).1
             replace hfx : findTx c.a (nextNm (nthEnd c.a.txs (pk x.c 2))) = some (ix, tx) := by rw [htx]; exact hfx
             replace hpp : nextPt (nthEnd c.a.txs (pk x.c 2)) ∈ tx.parts := by rw [htx]; exact hpp
             refine Zn<|ZT rfl<|Zr<|Zl (Zw agg_Coord H 3 rfl rfl rfl)<|Zl (Yt rfl)<|Zl (Yi rfl)<|cal cb_coord_Done (doneSc_ok c (nextNm (nthEnd c.a.txs (pk x.c 2))) (nextPt (nthEnd c.a.txs (pk x.c 2))) i ix tx _ (Hp.co H 1 rfl) hci.1 hnn hfx hst hpp) rfl rfl ?_
             have hloq := H.size
             rintro _ w34 ⟨q, rfl, haq, hnq⟩; replace H := H.learn hnq.2 (FCo w33.heap.size w34.heap.size q) hnq.1 (Nat.le_refl _) (Nat.le_refl _); clear hnq
             refine Zl (Yu rfl)<|Zl (Xa rfl rfl)<|Zl (Xi rfl rfl)<|stN H 1 (#[.int .i64 (q.clock), .int .i64 (q.next), .int .i64 (q.wait), .slice q.A q.txs.length q.cap]) siz_Coord rfl rfl rfl rfl rfl (by kernel_rfl) (by kernel_rfl) fun w35 H =>Zl (Wi rfl)<|Zn ?_
             exact ⟨(q, 0, _, _), ⟨fun _ => CoI.next (r := doneS c.a (nextNm (nthEnd c.a.txs (pk x.c 2))) (nextPt (nthEnd c.a.txs (pk x.c 2)))) (doneS_ok hca) hcn.done haq (doneS_zero hfx hst hpp), hloq, H.forget (.cons _ (List.Sublist.refl _)) (fun _ h => h)⟩, sl1 rfl, by repeat (first | exact Agr.refl _ _ | exact agr_ovr | refine agr_upd rfl ?_ | refine agr_updL _ rfl ?_ | refine agr_ovr2 rfl ?_)⟩
            ·
             refine Zn<|ZF rfl<|Zk ?_
             exact ⟨(c, 5, lo, hi), ⟨fun h => absurd h (by decide), hlo, H.forget (.cons _ (List.Sublist.refl _)) (fun f hf => by simp only [List.mem_cons] at hf ⊢; grind)⟩, sl1 rfl, by repeat (first | exact Agr.refl _ _ | exact agr_ovr | refine agr_upd rfl ?_ | refine agr_updL _ rfl ?_ | refine agr_ovr2 rfl ?_)⟩
           ·
            refine Zl (Wb rfl)<|Zn<|ZF rfl ?_
                       
            have hloq := H.size
            have hca := hci.1.a
            have hcn := hci.2.a
            refine cw_draw mixed [0, 1, 2, 3, 4, 5, 6, 7] [8, 9] [3, 4] [1, 5, 6, 7] (sp [(3, Sp.one (.int .i64 ((pk x.c 6 : Nat) : Int))), (4, Sp.deep w17.heap.size coD (fun c : Co => c.c.toArray) (fun cs => .tuple #[.agg cs, .int .i64 (tickS c.a (pk x.c 6)).2]) (fun q : Co => q.a = (tickS c.a (pk x.c 6)).1))]) (by kernel_rfl) (by kernel_rfl) (by kernel_rfl) (by kernel_rfl) (fun _ _ _ h => h) (sp_st _) ?_
            refine aw rfl rfl rfl rfl rfl (fun w' hw' => ldW_r agg_Coord rfl ((H.later hw').ent (i := 2) rfl) rfl)<|aw rfl rfl rfl rfl rfl (fun w' hw' => Zf fd_Raw_3 rfl)<|aw rfl rfl rfl rfl rfl (fun w' hw' => ld_r one_int rfl (cellE ((H.later hw').ent (i := 1) rfl) rfl))<|awCalV cb_tailracekeep_picked rfl rfl rfl rfl rfl (fun w' hw' => picked_ok x.c 6 w' hxo.2.2.2.1 hxo.2.2.2.2 (by omega) (by omega)) rfl<|awDeep (gv := (fun cs => .tuple #[.agg cs, .int .i64 (tickS c.a (pk x.c 6)).2])) cb_coord_Tick rfl rfl rfl rfl rfl (fun w' hw' => hw'.size) (fun w' hw' => tickSc_ok c (pk x.c 6) i w' (Hp.co (H.later hw') 1 rfl) hci.1 (by omega) (by omega)) rfl fun cs69 =>aw rfl rfl rfl rfl rfl (fun w' hw' => Yu rfl)<|aw rfl rfl rfl rfl rfl (fun w' hw' => Xa rfl rfl)<|aw rfl rfl rfl rfl rfl (fun w' hw' => Xi rfl rfl)<|aw_nil ?_
            intro w36 hw' hF
            obtain ⟨hF, q, eq, haq, hrd69⟩ := hF; cases eq
            obtain ⟨hF, -⟩ := hF
            replace H := H.learn hw' (FCo w17.heap.size w36.heap.size q) hrd69 (Nat.le_refl _) (Nat.le_refl _)
            clear hw' hF
            refine stN H 0 (#[.int .i64 (q.clock), .int .i64 (q.next), .int .i64 (q.wait), .slice q.A q.txs.length q.cap]) siz_Coord rfl rfl rfl rfl rfl (by kernel_rfl) (by kernel_rfl) fun w37 H =>Zl (Wi rfl)<|Zn ?_
            exact ⟨(q, (tickS c.a (pk x.c 6)).2, _, _), ⟨CoI.next (r := (tickS c.a (pk x.c 6))) (tickS_ok hca (by omega) (by omega)) (hcn.tick) haq, hloq, H.forget (List.Sublist.refl _) (fun _ h => h)⟩, sl1 rfl, by repeat (first | exact Agr.refl _ _ | exact agr_ovr | refine agr_upd rfl ?_ | refine agr_updL _ rfl ?_ | refine agr_ovr2 rfl ?_)⟩
    rintro ⟨q, e, lo2, hi2⟩ ρ1 w38 ⟨heq, hloq, H⟩
    show CW _ _ _ _ (updL (ovr _ _ ρ1) [(12, .int .i64 e)]) w38
    refine Zs<|Zr<|Zl (Yi rfl) ?_
    refine lwD (eql_r rfl rfl) rfl rfl rfl (fun h138 => ?_) (fun h138 => ?_)
    ·
     refine Zn<|ZT rfl<|Zr<|Zl (Zw agg_Coord H 0 rfl rfl rfl)<|stN H 2 (#[.int .i64 (q.clock), .int .i64 (q.next), .int .i64 (q.wait), .slice q.A q.txs.length q.cap]) siz_Coord rfl rfl rfl rfl rfl (by kernel_rfl) (by kernel_rfl) fun w39 H =>Zn<|Zr<|Zl (Yi rfl)<|Zl (add_r rfl rfl (by omega) (by omega))<|Zl (Wi rfl)<|Zn ?_
     exact ⟨(i + 1, q, lo2, hi2), ⟨by omega, by omega, heq h138, hloq, H.forget (.cons _ (.cons _ (List.Sublist.refl _))) (fun f hf => by simp only [List.mem_cons] at hf ⊢; grind)⟩, sl1 rfl, by repeat (first | exact Agr.refl _ _ | exact agr_ovr | refine agr_upd rfl ?_ | refine agr_updL _ rfl ?_ | refine agr_ovr2 rfl ?_), by show l.length - (i + 1) < l.length - i; omega⟩
    ·
     refine Zn<|ZF rfl<|Zk<|Zr<|Zl (Yi rfl)<|Zl (add_r rfl rfl (by omega) (by omega))<|Zl (Wi rfl)<|Zn ?_
     exact ⟨(i + 1, c, lo, hi), ⟨by omega, by omega, ⟨hci.1.more (by omega), hci.2⟩, hlo, H.forget (.cons _ (.cons _ (List.Sublist.refl _))) (fun f hf => by simp only [List.mem_cons] at hf ⊢; grind)⟩, sl1 rfl, by repeat (first | exact Agr.refl _ _ | exact agr_ovr | refine agr_upd rfl ?_ | refine agr_updL _ rfl ?_ | refine agr_ovr2 rfl ?_), by show l.length - (i + 1) < l.length - i; omega⟩
  ·
   refine Zl (Kt rfl rfl)<|Zl (Yb rfl)<|ZN<|Zl (Kf rfl rfl)<|Zn<|ZF rfl<|Zx<|Zs<|Zr<|Zl (Zw agg_Coord H 0 rfl rfl rfl)<|Zl (Yb rfl)<|stN H 1 (#[.int .i64 (c.clock), .int .i64 (c.next), .int .i64 (c.wait), .slice c.A c.txs.length c.cap]) siz_Coord rfl rfl rfl rfl rfl (by kernel_rfl) (by kernel_rfl) fun w40 H =>Zl (Wb rfl)<|Zn ?_
   refine Zt ?_
   exact finCTn (cs0 := #[.int .i64 (c.clock), .int .i64 (c.next), .int .i64 (c.wait), .slice c.A c.txs.length c.cap]) (v1 := .bool true) rfl agg_Coord rfl (H.ent (i := 1) rfl) rfl rfl ⟨c, rfl, ⟨hci.1.more (by omega), hci.2⟩, Co.rd.mono (H.fact (i := 1) rfl) hlo (H.facts _ (List.mem_of_getElem? (i := 1) rfl)).2.1, H.below⟩
 ·
  refine Zl (Yb rfl)<|ZN<|ZN<|ZN<|Zl (Kf rfl rfl)<|Zl (Yb rfl)<|ZN<|Zl (Kf rfl rfl)<|Zn<|ZF rfl<|Zx<|Zs<|Zr<|Zl (Zw agg_Coord H 0 rfl rfl rfl) ?_
  refine Zl (Yb rfl)<|stN H 1 (#[.int .i64 (c.clock), .int .i64 (c.next), .int .i64 (c.wait), .slice c.A c.txs.length c.cap]) siz_Coord rfl rfl rfl rfl rfl (by kernel_rfl) (by kernel_rfl) fun w41 H =>Zl (Wb rfl)<|Zn<|Zt ?_
  exact finCTn (cs0 := #[.int .i64 (c.clock), .int .i64 (c.next), .int .i64 (c.wait), .slice c.A c.txs.length c.cap]) (v1 := .bool true) rfl agg_Coord rfl (H.ent (i := 1) rfl) rfl rfl ⟨c, rfl, ⟨hci.1.more (by omega), hci.2⟩, Co.rd.mono (H.fact (i := 1) rfl) hlo (H.facts _ (List.mem_of_getElem? (i := 1) rfl)).2.1, H.below⟩
end Go.Proofs.Ytemnchkebhclpaa
end

section
namespace Go.Proofs.Ytemnchkebhclpaa
open Go Go.Eng Go.RowKit
set_option linter.unusedSimpArgs false
/-- nothing of it is to be read -/
def coT : Deep Co := ⟨fun _ _ _ _ => True, fun _ _ _ _ _ _ h => h, fun _ _ _ _ _ _ h _ _ => h⟩
theorem nodup_le {α : Type} [DecidableEq α] : ∀ {l m : List α}, l.Pairwise (· ≠ ·) → (∀ x ∈ l, x ∈ m) → l.length ≤ m.length
 | [], _, _, _ => Nat.zero_le _
 | x :: l, m, hp, hs => by
  obtain ⟨h1, h2⟩ := List.pairwise_cons.1 hp
  have hx := hs x (List.mem_cons_self ..)
  have := nodup_le (l := l) (m := m.erase x) h2 fun y hy => (List.mem_erase_of_ne fun h => h1 y hy h.symm).2 (hs y (List.mem_cons_of_mem _ hy))
  rw [List.length_erase_of_mem hx] at this
  have := List.length_pos_of_mem hx
  simp only [List.length_cons]
  omega
theorem three_in {s : ByteArray} (h : three s) : s ∈ [nm3 0, nm3 1, nm3 2] := by
 obtain ⟨m, rfl⟩ := h
 match m with
 | 0 => exact List.mem_cons_self ..
 | 1 => exact List.mem_cons_of_mem _ (List.mem_cons_self ..)
 | m + 2 => exact List.mem_cons_of_mem _ (List.mem_cons_of_mem _ (List.mem_cons_self ..))
theorem three_few {k : Nat} {c : Co} (h : CoI k c) : c.txs.length ≤ 3 := by
 obtain ⟨-, -, h3⟩ := coOk_iff2.1 h.1.ok
 unfold Apart at h3
 rw [List.pairwise_map] at h3
 have := nodup_le (l := c.txs.map Tx.name) (m := [nm3 0, nm3 1, nm3 2]) (by rw [List.pairwise_map]; exact h3.imp fun h => h.1) fun x hx => by
  obtain ⟨t, ht, rfl⟩ := List.mem_map.1 hx
  exact three_in (h.2.2 t ht)
 simpa using this
theorem find_no {c : Co} {s : ByteArray} (h : ∀ t ∈ c.txs, t.name ≠ s) : findTx c s = none := by
 unfold findTx
 rw [List.findIdx?_eq_none_iff.2 fun t ht => decide_eq_false (h t ht)]
 rfl
theorem no_find {c : Co} {s : ByteArray} (h : findTx c s = none) : ∀ t ∈ c.txs, t.name ≠ s := by
 have := find_none h
 unfold nameIdx at this
 cases hi : c.txs.findIdx? fun p => decide (p.name = s) with
 | none => rw [List.findIdx?_eq_none_iff] at hi; intro t ht; simpa using hi t ht
 | some i => rw [hi] at this; simp [idxI] at this
theorem find_with {c : Co} {s : ByteArray} (h : findTx c s = none) : findTx (coWith c s) s = some (c.txs.length, newTx s c.next) := by
 have h1 := no_find h
 have h2 : c.txs.findIdx? (fun p => decide (p.name = s)) = none := List.findIdx?_eq_none_iff.2 fun t ht => decide_eq_false (h1 t ht)
 have : (c.txs ++ [newTx s c.next]).findIdx? (fun p => decide (p.name = s)) = some c.txs.length := by
  rw [List.findIdx?_append, h2]
  simp [newTx, List.findIdx?_cons]
 unfold findTx coWith
 dsimp only
 rw [this]
 simp
theorem find_set {c : Co} {s : ByteArray} {i : Nat} {t t' : Tx} (h : findTx c s = some (i, t)) (hn : t'.name = t.name) : findTx (setTx c i t') s = some (i, t') := by
 obtain ⟨-, ht, hs⟩ := find_some h
 obtain ⟨hl, he⟩ := getE ht
 have h2 : (c.txs.findIdx? fun p => decide (p.name = s)) = some i := by
  unfold findTx at h
  cases hi : c.txs.findIdx? fun p => decide (p.name = s) with
  | none => rw [hi] at h; cases h
  | some j =>
   obtain ⟨hlj, -⟩ := List.findIdx?_eq_some_iff_getElem.1 hi
   rw [hi] at h
   simp only [Option.bind_some, List.getElem?_eq_getElem hlj, Option.map_some, Option.some.injEq] at h
   exact congrArg some (_root_.Prod.mk.inj h).1
 obtain ⟨_, _, h3⟩ := List.findIdx?_eq_some_iff_getElem.1 h2
 have : ((c.txs.set i t').findIdx? fun p => decide (p.name = s)) = some i := by
  rw [List.findIdx?_eq_some_iff_getElem]
  refine ⟨by simpa using hl, by simp [hn, hs], fun j hj => ?_⟩
  rw [List.getElem_set_ne (by omega)]
  exact h3 j hj
 unfold findTx setTx
 dsimp only
 rw [this, Option.bind_some, List.getElem?_set_self hl]
 rfl
abbrev dee : ByteArray := ⟨#[100, 101, 101]⟩
abbrev nobody : ByteArray := ⟨#[110, 111, 98, 111, 100, 121]⟩
theorem three_dee {s : ByteArray} (h : three s) : s ≠ dee ∧ s ≠ nobody := by
 have := three_in h
 simp only [List.mem_cons, List.mem_nil_iff, or_false] at this
 rcases this with rfl | rfl | rfl <;> exact ⟨by decide, by decide⟩
theorem dee_none {k : Nat} {c : Co} (h : CoI k c) : findTx c.a dee = none := find_no fun t ht => (three_dee (h.2.a.2 t ht)).1
theorem dee_init {k : Nat} {c : Co} (h : CoI k c) : initS c.a dee = (coWith c.a dee, c.a.next, 0, 0) := by
 have := three_few h
 unfold initS
 rw [dee_none h]
 dsimp only
 rw [if_neg (show ¬ c.a.txs.length = 8 by show ¬ (c.txs.map Tx.a).length = 8; rw [List.length_map]; omega)]
def dee1 (c : Co) : Co := setTx (coWith c dee) c.txs.length { newTx dee c.next with ver := 1 }
theorem dee_init2 {c : Co} (h : findTx c dee = none) : initS (coWith c dee) dee = (dee1 c, c.next, 1, 0) := by
 unfold initS
 rw [find_with h]
 rfl
theorem dee1_find {c : Co} (h : findTx c dee = none) : findTx (dee1 c) dee = some (c.txs.length, { newTx dee c.next with ver := 1 }) := find_set (find_with h) rfl
theorem dee_old {c : Co} (h : findTx c dee = none) (p : Int) : addS (dee1 c) dee 0 p = (zCo, 10) ∧ endS (dee1 c) dee 0 true = (zCo, 10) := by
 unfold addS endS
 rw [dee1_find h]
 exact ⟨rfl, rfl⟩
theorem dee_new {c : Co} (h : findTx c dee = none) (p : Int) : (addS (dee1 c) dee 1 p).2 = 0 := by
 unfold addS
 rw [dee1_find h]
 rfl
theorem no_body {k : Nat} {c : Co} (h : CoI k c) : (addS (dee1 c.a) nobody 0 0).2 = 5 := by
 have : findTx (dee1 c.a) nobody = none := find_no fun t ht => by
  rcases mem_set (show t ∈ (c.a.txs ++ [_]).set _ _ from ht) with ht | rfl
  ·
   rcases List.mem_append.1 ht with ht | ht
   ·
    exact (three_dee (h.2.a.2 t ht)).2
   ·
    rw [List.mem_singleton.1 ht]; show dee ≠ nobody; decide
  ·
   show dee ≠ nobody; decide
 unfold addS
 rw [this]
theorem dee_ok : nameOk dee = true := by kernel_rfl
theorem nobody_ok : nameOk nobody = true := by kernel_rfl
def wt0 (k : Nat) : Co := ⟨0, 1, k, [], none, 0⟩
def wt1 (k : Nat) : Co := ⟨0, 2, k, [newTx dee 1], none, 0⟩
def wt2 (k : Nat) : Co := ⟨0, 2, k, [⟨dee, 1, 0, 2, [1], 0, 0, none, 0⟩], none, 0⟩
def wt3 (k t : Nat) : Co := ⟨t, 2, k, [if (k : Int) ≤ t then ⟨dee, 1, 1, 4, [1], 0, 0, none, 0⟩ else ⟨dee, 1, 0, 2, [1], 0, 0, none, 0⟩], none, 0⟩
theorem wt0_ok {k : Nat} (h1 : 1 ≤ k) (h2 : k ≤ 50) : CoB 0 (wt0 k) := ⟨coOk_iff2.2 ⟨⟨by kernel_rfl, by show (1 : Int) ≤ 1; decide, by show (1 : Int) ≤ 1073741824; decide, by show (1 : Int) ≤ k; omega, by show (k : Int) ≤ 1000; omega, by show ((0 : Nat) : Int) ≤ 8; decide⟩, (by intro t ht; cases ht), List.Pairwise.nil⟩, by show (0 : Int) ≤ 1000 * ((0 : Nat) : Int); decide, by show (1 : Int) ≤ ((0 : Nat) : Int) + 1; decide, by intro t ht; cases ht⟩
theorem wt0_init (k : Nat) : initS (wt0 k) dee = (wt1 k, 1, 0, 0) := rfl
theorem find_one (ck nx wt : Int) (t : Tx) (h : t.name = dee) : findTx ⟨ck, nx, wt, [t], none, 0⟩ dee = some (0, t) := by
 unfold findTx
 simp [List.findIdx?_cons, h]
theorem wt1_add (k : Nat) : addS (wt1 k) dee 0 1 = (wt2 k, 0) := by
 unfold addS wt1
 rw [find_one _ _ _ _ rfl]
 rfl
theorem wt2_tick {k t : Nat} (ht : t < 100) : tickS (wt2 k) t = (wt3 k t, 0) := by
 unfold tickS tickCo wt2 wt3
 rw [if_neg (by omega)]
 by_cases h : (k : Int) ≤ t
 ·
  simp [tickTx, h]
 ·
  simp [tickTx, h]
theorem wt3_late {k t : Nat} (h : k ≤ t) : (endS (wt3 k t) dee 0 true).2 = 10 ∧ nthEnd (wt3 k t).txs 0 = some ⟨dee, 1, 1, 4, [1], 0, 0, none, 0⟩ := by
 unfold wt3
 rw [if_pos (by omega)]
 refine ⟨?_, rfl⟩
 unfold endS
 rw [find_one _ _ _ _ rfl]
 rfl
theorem wt3_soon {k t : Nat} (h : t < k) : (endS (wt3 k t) dee 0 true).2 = 0 ∧ nthEnd (wt3 k t).txs 0 = none := by
 unfold wt3
 rw [if_neg (by omega)]
 refine ⟨?_, rfl⟩
 unfold endS
 rw [find_one _ _ _ _ rfl]
 rfl
theorem wt3_far (k t : Nat) : (tickS (wt3 k t) 1001).2 = 2 := rfl
set_option maxHeartbeats 4000000 in
set_option maxRecDepth 10000 in
theorem coordGood_ok (l : List Raw) (A : Option Addr) (c0 : Nat) (w : World) (hr : Rd rawL 0 w.heap.size A l w) (hok : ∀ r ∈ l, r.ok) (hl : l.length ≤ 9223372036854775807) : Ret Try.prog i_tailracekeep_CoordGood [.slice A l.length c0] w fun v w2 => v = .bool true ∧ Below w.heap.size w w2 := by
 refine ret_of fn_tailracekeep_CoordGood rfl rfl ?_
 have H := Hp.startRd hr
 refine Zs<|Zr<|Zl (Wb rfl)<|Zn<|Zs<|Zr<|Zl (Ys rfl)<|cal cb_tailracekeep_coordinated (coordinated_ok l A c0 60 _ (H.rd0 0 rfl) hok hl (by omega)) rfl rfl ?_
 rintro _ w1 ⟨c, rfl, hci, hnc⟩; replace H := H.learn hnc.2 (FCo w.heap.size w1.heap.size c) hnc.1 (Nat.le_refl _) (Nat.le_refl _); clear hnc
 refine Zl (Yu rfl)<|Zl (Xa rfl rfl)<|Zl (Xb rfl rfl)<|alo H z_Coord rfl fun w2 b3 H =>stN H 0 (#[.int .i64 (c.clock), .int .i64 (c.next), .int .i64 (c.wait), .slice c.A c.txs.length c.cap]) siz_Coord rfl rfl rfl rfl rfl (by kernel_rfl) (by kernel_rfl) fun w3 H =>Zl (Wb rfl)<|Zn<|Zs<|Zr<|Zl (Yb rfl)<|Zl (Yb rfl)<|ZG<|Zl (Zw agg_Coord H 0 rfl rfl rfl)<|ZG ?_
 refine cal cb_coord_Check (coCheck_ok c _ (Hp.co H 0 rfl)) rfl rfl ?_
 rw [hci.1.ok]
 rintro _ w4 ⟨rfl, hb⟩; replace H := H.later hb; clear hb
 refine ZG<|Zl (eqlT_r rfl rfl rfl)<|Zl (Kt rfl rfl)<|Zl (Yb rfl)<|ZG<|Zl (Zw agg_Coord H 0 rfl rfl rfl)<|ZG<|cal cb_coord_Copy (coCopyO_ok c _ (Hp.co H 0 rfl)) rfl rfl ?_
 rintro _ w5 ⟨q, Lr, Lp, rfl, ho⟩; have hnq := ho.new hci.1.a.ok; have haq := ho.1; replace H := H.learn hnq.2 (FCo w4.heap.size w5.heap.size q) hnq.1 (Nat.le_refl _) (Nat.le_refl _); clear hnq ho
 refine ZG<|cal cb_coord_Check (coCheck_ok q _ (Hp.co H 0 rfl)) rfl rfl ?_
 rw [show coOk q = true by rw [coOk_a, haq]; exact hci.1.a.ok]
 rintro _ w6 ⟨rfl, hb⟩; replace H := H.later hb; clear hb
 refine ZG<|Zl (eqlT_r rfl rfl rfl)<|Zl (Kt rfl rfl)<|Zl (Yb rfl)<|ZG<|Zl (bld_r (cs := #[.int .i64 (0), .int .i64 (0), .int .i64 (0), .slice none 0 0]) st_Coord z_Coord (by kernel_rfl))<|ZG<|cal cb_coord_Check (coCheck_ok zCo _ ⟨Rd.nil, by simp [zCo], by simp [zCo], by simp [zCo], by simp [zCo]⟩) rfl rfl ?_
 rw [show coOk zCo = false by kernel_rfl]
 rintro _ w7 ⟨rfl, hb⟩; replace H := H.later hb; clear hb
 refine ZG<|Zl (eqlT_r rfl rfl rfl)<|Zl (Kt rfl rfl)<|Zl (Wb rfl)<|Zn<|Zt ?_
 exact fin1 (v := .bool true) rfl rfl ⟨rfl, H.below⟩
set_option maxHeartbeats 4000000 in
set_option maxRecDepth 10000 in
theorem coordFences_ok (l : List Raw) (A : Option Addr) (c0 : Nat) (n_ : Int) (w : World) (hr : Rd rawL 0 w.heap.size A l w) (hok : ∀ r ∈ l, r.ok) (hl : l.length ≤ 9223372036854775807) (hn : i64 n_) : Ret Try.prog i_tailracekeep_CoordFences [.slice A l.length c0, .int .i64 n_] w fun v w2 => v = .bool true ∧ Below w.heap.size w w2 := by
 refine ret_of fn_tailracekeep_CoordFences rfl rfl ?_
 have H := Hp.startRd hr
 refine Zs<|Zr<|Zl (Wb rfl)<|Zn<|Zs<|Zr<|Zl (Ys rfl)<|cal cb_tailracekeep_coordinated (coordinated_ok l A c0 40 _ (H.rd0 0 rfl) hok hl (by omega)) rfl rfl ?_
 rintro _ w1 ⟨c, rfl, hci, hnc⟩; replace H := H.learn hnc.2 (FCo w.heap.size w1.heap.size c) hnc.1 (Nat.le_refl _) (Nat.le_refl _); clear hnc
 refine Zl (Yu rfl)<|Zl (Xa rfl rfl)<|Zl (Xb rfl rfl)<|alo H z_Coord rfl fun w2 b5 H =>stN H 0 (#[.int .i64 (c.clock), .int .i64 (c.next), .int .i64 (c.wait), .slice c.A c.txs.length c.cap]) siz_Coord rfl rfl rfl rfl rfl (by kernel_rfl) (by kernel_rfl) fun w3 H =>Zl (Wb rfl)<|Zn<|Zs<|Zr<|Zl (Zw agg_Coord H 0 rfl rfl rfl)<|cal cb_coord_Init (initS_ok c dee 40 _ (Hp.co H 0 rfl) hci.1 (by omega) dee_ok) rfl rfl ?_
 have hI := dee_init hci
 have hN := dee_none hci
 have hb1 := init_ok (s := dee) hci.1.a (by omega) dee_ok (by rw [hI])
 have hI2 := dee_init2 hN
 rintro _ w4 ⟨p, rfl, hap, hnp⟩; replace H := H.learn hnp.2 (FCo w3.heap.size w4.heap.size p) hnp.1 (Nat.le_refl _) (Nat.le_refl _); clear hnp
 rw [hI] at hap hb1 ⊢
 replace hb1 : CoB 41 p := CoB.of_a (hap ▸ hb1)
 have hb2 := init_ok (s := dee) hb1.a (by omega) dee_ok (by rw [hap, hI2])
 refine Zl (Yu rfl)<|Zl (Xa rfl rfl)<|Zl (Xi rfl rfl)<|Zl (Xi rfl rfl)<|Zl (Xi rfl rfl)<|stN H 0 (#[.int .i64 (p.clock), .int .i64 (p.next), .int .i64 (p.wait), .slice p.A p.txs.length p.cap]) siz_Coord rfl rfl rfl rfl rfl (by kernel_rfl) (by kernel_rfl) fun w5 H =>Zl (Wi rfl)<|Zl (Wi rfl)<|Zl (Wi rfl)<|Zn<|Zs<|Zr<|Zl (Zw agg_Coord H 0 rfl rfl rfl)<|cal cb_coord_Init (initS_ok p dee 41 _ (Hp.co H 0 rfl) hb1 (by omega) dee_ok) rfl rfl ?_
 rintro _ w6 ⟨q, rfl, haq, hnq⟩; replace H := H.learn hnq.2 (FCo w5.heap.size w6.heap.size q) hnq.1 (Nat.le_refl _) (Nat.le_refl _); clear hnq
 rw [hap, hI2] at haq hb2 ⊢
 replace hb2 : CoB 42 q := CoB.of_a (haq ▸ hb2)
 refine Zl (Yu rfl)<|Zl (Xa rfl rfl)<|Zl (Xi rfl rfl)<|Zl (Xi rfl rfl)<|Zl (Xi rfl rfl)<|alo H z_Coord rfl fun w7 b10 H =>stN H 0 (#[.int .i64 (q.clock), .int .i64 (q.next), .int .i64 (q.wait), .slice q.A q.txs.length q.cap]) siz_Coord rfl rfl rfl rfl rfl (by kernel_rfl) (by kernel_rfl) fun w8 H =>Zl (Wi rfl)<|Zl (Wi rfl)<|Zl (Wi rfl)<|Zn<|Zs<|Zr<|Zl (Zw agg_Coord H 0 rfl rfl rfl) ?_
 refine Zl (Yi rfl)<|cal cb_coord_Add (addSc_ok q dee 0 0 42 _ (Hp.co H 0 rfl) hb2 dee_ok (by omega) (by omega)) rfl rfl ?_
 rintro _ w9 ⟨r, rfl, har, hnr⟩; replace H := H.learn hnr.2 (FCo w8.heap.size w9.heap.size r) hnr.1 (Nat.le_refl _) (Nat.le_refl _); clear hnr
 rw [haq, (dee_old hN 0).1]
 refine Zl (Yu rfl)<|Zl (Xa rfl rfl)<|Zl (Xi rfl rfl)<|alo H z_Coord rfl fun w10 b14 H =>stN H 0 (#[.int .i64 (r.clock), .int .i64 (r.next), .int .i64 (r.wait), .slice r.A r.txs.length r.cap]) siz_Coord rfl rfl rfl rfl rfl (by kernel_rfl) (by kernel_rfl) fun w11 H =>Zl (Wi rfl)<|Zn<|Zs<|Zr<|Zl (Zw agg_Coord H 1 rfl rfl rfl)<|Zl (Yi rfl)<|cal cb_coord_End (endSc_ok q dee 0 true 42 _ (Hp.co H 1 rfl) hb2 dee_ok) rfl rfl ?_
 rintro _ w12 ⟨s, rfl, has, hns⟩; replace H := H.learn hns.2 (FCo w11.heap.size w12.heap.size s) hns.1 (Nat.le_refl _) (Nat.le_refl _); clear hns
 rw [haq, (dee_old hN 0).2]
 refine Zl (Yu rfl)<|Zl (Xa rfl rfl)<|Zl (Xi rfl rfl)<|alo H z_Coord rfl fun w13 b16 H =>stN H 0 (#[.int .i64 (s.clock), .int .i64 (s.next), .int .i64 (s.wait), .slice s.A s.txs.length s.cap]) siz_Coord rfl rfl rfl rfl rfl (by kernel_rfl) (by kernel_rfl) fun w14 H =>Zl (Wi rfl)<|Zn<|Zs ?_
 
 refine cw_draw mixed [0, 1, 2, 3, 4, 5, 6, 7, 8] [9, 10] [3, 4, 8] [1, 2, 5, 6, 7] (sp [(3, Sp.one (.int .i64 ((pk n_ 4 : Nat) : Int))), (4, Sp.deep w14.heap.size coT (fun c : Co => c.c.toArray) (fun cs => .tuple #[.agg cs, .int .i64 (addS q.a dee 1 (pk n_ 4)).2]) (fun cq : Co => cq.a = (addS q.a dee 1 (pk n_ 4)).1)), (8, Sp.blk w14.heap.size (.agg #[.int .i64 0, .int .i64 0, .int .i64 0, .slice none 0 0]) T_Coord)]) (by kernel_rfl) (by kernel_rfl) (by kernel_rfl) (by kernel_rfl) (fun _ _ _ h => h) (sp_st _) ?_
 refine aw rfl rfl rfl rfl rfl (fun w' hw' => ldW_r agg_Coord rfl ((H.later hw').ent (i := 2) rfl) rfl)<|aw rfl rfl rfl rfl rfl (fun w' hw' => Yi rfl)<|aw rfl rfl rfl rfl rfl (fun w' hw' => Yi rfl)<|awCalV cb_tailracekeep_picked rfl rfl rfl rfl rfl (fun w' hw' => picked_ok n_ 4 w' hn.1 hn.2 (by omega) (by omega)) rfl<|awDeep (gv := (fun cs => .tuple #[.agg cs, .int .i64 (addS q.a dee 1 (pk n_ 4)).2])) cb_coord_Add rfl rfl rfl rfl rfl (fun w' hw' => hw'.size) (fun w' hw' => (addSc_ok q dee 1 (pk n_ 4) 42 w' (Hp.co (H.later hw') 2 rfl) hb2 dee_ok (by omega) (by have := pk_lt n_ (show 0 < 4 by decide); omega)).mono fun v w2 ⟨c', h1, h2, h3⟩ => ⟨c', h1, h2, trivial, h3.2⟩) rfl fun cs58 =>aw rfl rfl rfl rfl rfl (fun w' hw' => Yu rfl)<|aw rfl rfl rfl rfl rfl (fun w' hw' => Xa rfl rfl)<|aw rfl rfl rfl rfl rfl (fun w' hw' => Xi rfl rfl)<|awAl z_Coord rfl rfl rfl rfl rfl (fun w' hw' => hw'.size) fun b18 =>aw_nil ?_
 intro w15 hw' hF
 obtain ⟨hF, bq, eq, hge18, hbl18⟩ := hF; cases eq
 obtain ⟨hF, u, eq, hau, hrd58⟩ := hF; cases eq
 obtain ⟨hF, -⟩ := hF
 have Hb := H
 replace H := H.adoptNew hw' hbl18 hge18
 clear hw' hF
 refine stN H 0 (#[.int .i64 (u.clock), .int .i64 (u.next), .int .i64 (u.wait), .slice u.A u.txs.length u.cap]) siz_Coord rfl rfl rfl rfl rfl (by kernel_rfl) (by kernel_rfl) fun w16 H =>Zl (Wi rfl)<|Zn<|Zs<|Zr<|Zl (Zw agg_Coord H 3 rfl rfl rfl)<|cal cb_coord_Add (addSc_ok q nobody 0 0 42 _ (Hp.co H 2 rfl) hb2 nobody_ok (by omega) (by omega)) rfl rfl ?_
 rintro _ w17 ⟨z, rfl, haz, hnz⟩; replace H := H.learn hnz.2 (FCo w16.heap.size w17.heap.size z) hnz.1 (Nat.le_refl _) (Nat.le_refl _); clear hnz
 rw [haq, no_body hci]
 refine Zl (Yu rfl)<|Zl (Xa rfl rfl)<|Zl (Xi rfl rfl)<|alo H z_Coord rfl fun w18 b20 H =>stN H 0 (#[.int .i64 (z.clock), .int .i64 (z.next), .int .i64 (z.wait), .slice z.A z.txs.length z.cap]) siz_Coord rfl rfl rfl rfl rfl (by kernel_rfl) (by kernel_rfl) fun w19 H =>Zl (Wi rfl)<|Zn<|Zs<|Zr<|Zl (Yb rfl)<|Zl (Yb rfl)<|ZG<|Zl (Yi rfl)<|ZG ?_
 refine Zl (eqlT_r rfl rfl rfl)<|Zl (Kt rfl rfl)<|Zl (Yb rfl)<|ZG<|Zl (Yi rfl)<|ZG<|Zl (eqlT_r rfl rfl rfl)<|Zl (Kt rfl rfl)<|Zl (Yb rfl)<|ZG<|Zl (Yi rfl)<|ZG<|Zl (eqlT_r rfl rfl rfl)<|Zl (Kt rfl rfl) ?_
 refine Zl (Yb rfl)<|ZG<|Zl (Yi rfl)<|ZG<|Zl (eqlT_r rfl rfl rfl)<|Zl (Kt rfl rfl)<|Zl (Yb rfl)<|ZG<|Zl (Yi rfl)<|ZG<|Zl (eqlT_r rfl rfl (dee_new hN _))<|Zl (Kt rfl rfl)<|Zl (Yb rfl)<|ZG ?_
 refine Zl (Yi rfl)<|ZG<|Zl (eqlT_r rfl rfl rfl)<|Zl (Kt rfl rfl)<|Zl (Yb rfl)<|ZG<|Zl (Yi rfl)<|ZG<|Zl (eqlT_r rfl rfl rfl)<|Zl (Kt rfl rfl)<|Zl (Yb rfl)<|ZG<|Zl (Yi rfl)<|ZG ?_
 refine Zl (eqlT_r rfl rfl rfl)<|Zl (Kt rfl rfl)<|Zl (Wb rfl)<|Zn<|Zt ?_
 exact fin1 (v := .bool true) rfl rfl ⟨rfl, H.below⟩
set_option maxHeartbeats 4000000 in
set_option maxRecDepth 10000 in
theorem coordWaits_ok (k_ n_ : Int) (w : World) (hk : i64 k_) (hn : i64 n_) : Ret Try.prog i_tailracekeep_CoordWaits [.int .i64 k_, .int .i64 n_] w fun v w2 => v = .bool true ∧ Below w.heap.size w w2 := by
 refine ret_of fn_tailracekeep_CoordWaits rfl rfl ?_
 have H := Hp.start w
 refine Zs<|Zr<|Zl (Wb rfl)<|Zn<|Zs<|Zr<|Zl (Yi rfl)<|cal cb_tailracekeep_picked (picked_ok k_ (50) _ hk.1 hk.2 (by omega) (by omega)) rfl rfl ?_
 rintro _ w1 ⟨rfl, hb⟩; replace H := H.later hb; clear hb
 have hpkk := pk_lt k_ (show 0 < 50 by omega)
 refine Zl (add_r rfl rfl (by omega) (by omega)) ?_
 obtain ⟨k, hk, hk1, hk4⟩ : ∃ k : Nat, (1 : Int) + ((pk k_ (50) : Nat) : Int) = (k : Nat) ∧ 1 ≤ k ∧ k ≤ 50 := ⟨1 + pk k_ (50), by omega, by omega, by omega⟩
 rw [hk]
 refine Zl (Wi rfl)<|Zn<|Zs<|Zr<|Zl (Yi rfl)<|cal cb_tailracekeep_picked (picked_ok n_ (100) _ hn.1 hn.2 (by omega) (by omega)) rfl rfl ?_
 rintro _ w2 ⟨rfl, hb⟩; replace H := H.later hb; clear hb
 have hpt := pk_lt n_ (show 0 < 100 by omega)
 obtain ⟨t, htd⟩ : ∃ t, pk n_ 100 = t := ⟨_, rfl⟩
 rw [htd] at hpt ⊢
 refine Zl (Wi rfl)<|Zn<|Zs<|Zr<|Zl (Yi rfl)<|cal cb_coord_New (coordNew_ok (k : Nat) _ (by omega) (by omega)) rfl rfl ?_
 rintro _ w3 ⟨rfl, hb⟩; replace H := H.later hb; clear hb
 refine Zl (Yu rfl)<|Zl (Xa rfl rfl)<|Zl (Xi rfl rfl)<|alo H z_Coord rfl fun w4 b7 H =>stN H 0 (#[.int .i64 (0), .int .i64 (1), .int .i64 (((k : Nat) : Int)), .slice none 0 0]) siz_Coord rfl rfl rfl rfl rfl (by kernel_rfl) (by kernel_rfl) fun w5 H =>Zl (Wi rfl)<|Zn<|Zs ?_
 have hb0 := wt0_ok hk1 hk4
 refine Zr<|Zl (Zw agg_Coord H 0 rfl rfl rfl)<|cal cb_coord_Init (initS_ok (wt0 k) dee 0 _ ⟨Rd.nil, by simp [wt0], by simp [wt0], by simp [wt0], by simp [wt0]⟩ hb0 (by omega) dee_ok) rfl rfl ?_
 have hb1 := init_ok (s := dee) hb0 (by omega) dee_ok rfl
 rintro _ w6 ⟨p2, rfl, hap2, hnp2⟩; replace H := H.learn hnp2.2 (FCo w5.heap.size w6.heap.size p2) hnp2.1 (Nat.le_refl _) (Nat.le_refl _); clear hnp2
 rw [show (wt0 k).a = wt0 k from rfl, wt0_init] at hap2 ⊢
 rw [wt0_init] at hb1
 replace hb1 : CoB 1 p2 := CoB.of_a (hap2 ▸ hb1)
 have hb2 := addS_ok (s := dee) (ver := 0) (p := 1) hb1.a (by omega) (by omega) (by rw [hap2, wt1_add])
 refine Zl (Yu rfl)<|Zl (Xa rfl rfl)<|Zl (Xi rfl rfl)<|Zl (Xi rfl rfl)<|Zl (Xi rfl rfl)<|stN H 0 (#[.int .i64 (p2.clock), .int .i64 (p2.next), .int .i64 (p2.wait), .slice p2.A p2.txs.length p2.cap]) siz_Coord rfl rfl rfl rfl rfl (by kernel_rfl) (by kernel_rfl) fun w7 H =>Zl (Wi rfl)<|Zl (Wi rfl)<|Zl (Wi rfl)<|Zn<|Zs<|Zr<|Zl (Zw agg_Coord H 0 rfl rfl rfl)<|Zl (Yi rfl) ?_
 refine cal cb_coord_Add (addSc_ok p2 dee 0 1 1 _ (Hp.co H 0 rfl) hb1 dee_ok (by omega) (by omega)) rfl rfl ?_
 rintro _ w8 ⟨p3, rfl, hap3, hnp3⟩; replace H := H.learn hnp3.2 (FCo w7.heap.size w8.heap.size p3) hnp3.1 (Nat.le_refl _) (Nat.le_refl _); clear hnp3
 rw [hap2, wt1_add] at hap3 hb2 ⊢
 replace hb2 : CoB 2 p3 := CoB.of_a (hap3 ▸ hb2)
 have hb3 := tickS_ok (n := (t : Nat)) hb2.a (by omega) (by omega) (by rw [hap3, wt2_tick hpt])
 refine Zl (Yu rfl)<|Zl (Xa rfl rfl)<|Zl (Xi rfl rfl)<|stN H 0 (#[.int .i64 (p3.clock), .int .i64 (p3.next), .int .i64 (p3.wait), .slice p3.A p3.txs.length p3.cap]) siz_Coord rfl rfl rfl rfl rfl (by kernel_rfl) (by kernel_rfl) fun w9 H =>Zl (Wi rfl)<|Zn<|Zs<|Zr<|Zl (Zw agg_Coord H 0 rfl rfl rfl)<|Zl (Yi rfl)<|cal cb_coord_Tick (tickSc_ok p3 (t : Nat) 2 _ (Hp.co H 0 rfl) hb2 (by omega) (by omega)) rfl rfl ?_
 rintro _ w10 ⟨p4, rfl, hap4, hnp4⟩; replace H := H.learn hnp4.2 (FCo w9.heap.size w10.heap.size p4) hnp4.1 (Nat.le_refl _) (Nat.le_refl _); clear hnp4
 rw [hap3, wt2_tick hpt] at hap4 hb3 ⊢
 replace hb3 : CoB 3 p4 := CoB.of_a (hap4 ▸ hb3)
 dsimp only at hap4
 refine Zl (Yu rfl)<|Zl (Xa rfl rfl)<|Zl (Xi rfl rfl)<|stN H 0 (#[.int .i64 (p4.clock), .int .i64 (p4.next), .int .i64 (p4.wait), .slice p4.A p4.txs.length p4.cap]) siz_Coord rfl rfl rfl rfl rfl (by kernel_rfl) (by kernel_rfl) fun w11 H =>Zl (Wi rfl)<|Zn<|Zs<|Zr<|Zl (Zw agg_Coord H 0 rfl rfl rfl)<|Zl (Yi rfl)<|cal cb_coord_End (endSc_ok p4 dee 0 true 3 _ (Hp.co H 0 rfl) hb3 dee_ok) rfl rfl ?_
 rintro _ w12 ⟨p5, rfl, hap5, hnp5⟩; replace H := H.learn hnp5.2 (FCo w11.heap.size w12.heap.size p5) hnp5.1 (Nat.le_refl _) (Nat.le_refl _); clear hnp5
 refine Zl (Yu rfl)<|Zl (Xa rfl rfl)<|Zl (Xi rfl rfl)<|alo H z_Coord rfl fun w13 b14 H =>stN H 0 (#[.int .i64 (p5.clock), .int .i64 (p5.next), .int .i64 (p5.wait), .slice p5.A p5.txs.length p5.cap]) siz_Coord rfl rfl rfl rfl rfl (by kernel_rfl) (by kernel_rfl) fun w14 H =>Zl (Wi rfl)<|Zn<|Zs<|Zr<|Zl (Zw agg_Coord H 1 rfl rfl rfl)<|cal cb_coord_Next (nextT_ok p4 0 _ (Hp.co H 1 rfl) hb3.ok (by omega)) rfl rfl ?_
 rintro _ w15 ⟨rfl, hb⟩; replace H := H.later hb; clear hb
 refine Zl (Yu rfl)<|Zl (exT_r rfl rfl)<|Zl (Xi rfl rfl)<|Zl (Xa rfl rfl)<|Zl (Xi rfl rfl)<|alo H z_Entry rfl fun w16 b18 H =>Zl (Wt rfl)<|Zl (Wi rfl)<|stN H 0 (#[.int .i64 (0), .int .i64 (nextPid (nthEnd p4.a.txs 0)), .int .i64 (nextVer (nthEnd p4.a.txs 0)), .int .i64 (0), .int .i64 (nextKd (nthEnd p4.a.txs 0)), .bool (nextB (nthEnd p4.a.txs 0)), .string (⟨#[]⟩)]) siz_Entry rfl rfl rfl rfl rfl (by kernel_rfl) (by kernel_rfl) fun w17 H =>Zl (Wi rfl)<|Zn<|Zs<|Zr<|Zl (Zw agg_Coord H 2 rfl rfl rfl) ?_
 refine cal cb_coord_Tick (tickSc_ok p4 1001 3 _ (Hp.co H 1 rfl) hb3 (by omega) (by omega)) rfl rfl ?_
 rintro _ w18 ⟨p6, rfl, hap6, hnp6⟩; replace H := H.learn hnp6.2 (FCo w17.heap.size w18.heap.size p6) hnp6.1 (Nat.le_refl _) (Nat.le_refl _); clear hnp6
 rw [hap4, wt3_far]
 refine Zl (Yu rfl)<|Zl (Xa rfl rfl)<|Zl (Xi rfl rfl)<|alo H z_Coord rfl fun w19 b20 H =>stN H 0 (#[.int .i64 (p6.clock), .int .i64 (p6.next), .int .i64 (p6.wait), .slice p6.A p6.txs.length p6.cap]) siz_Coord rfl rfl rfl rfl rfl (by kernel_rfl) (by kernel_rfl) fun w20 H =>Zl (Wi rfl)<|Zn<|Zs<|Zs<|Zr<|Zl (Yi rfl)<|Zl (neqF_r rfl rfl rfl)<|Zl (Yb rfl)<|ZG ?_
 refine Zl (Yi rfl)<|ZG<|Zl (neqF_r rfl rfl rfl)<|Zl (Kf rfl rfl)<|Zl (Yb rfl)<|ZG<|Zl (Yi rfl)<|ZG<|Zl (neqF_r rfl rfl rfl)<|Zl (Kf rfl rfl)<|Zl (Yb rfl)<|ZG<|Zl (Yi rfl)<|ZG ?_
 refine Zl (neqF_r rfl rfl rfl)<|Zl (Kf rfl rfl)<|Zl (Yb rfl)<|ZG<|Zl (Yi rfl)<|ZG<|Zl (neqF_r rfl rfl rfl)<|Zl (Kf rfl rfl)<|Zn<|ZF rfl<|Zk<|Zs<|Zs<|Zr ?_
 refine Zl (Yi rfl)<|Zl (Yi rfl) ?_
 refine lwD (geq_r rfl rfl) rfl rfl rfl (fun h89 => ?_) (fun h89 => ?_)
 ·
  have hL := wt3_late (show k ≤ t by omega)
  refine Zn<|ZT rfl<|Zs<|Zr<|Zl (Yi rfl)<|Zl (eqlT_r rfl rfl hL.1)<|Zl (Yb rfl)<|ZG<|Zl (Yi rfl)<|ZG<|Zl (eqlT_r rfl rfl (by rw [hL.2]; rfl))<|Zl (Kt rfl rfl)<|Zl (Yb rfl)<|ZG ?_
  refine Zl (Zf fd_Entry_4 rfl)<|ZG<|Zl (Zd one_int H 1 rfl rfl rfl)<|ZG<|Zl (eqlT_r rfl rfl (by rw [hap4, hL.2]; rfl))<|Zl (Kt rfl rfl)<|Zl (Yb rfl)<|ZG<|Zl (Zf fd_Entry_2 rfl)<|ZG<|Zl (Zd one_int H 1 rfl rfl rfl)<|ZG<|Zl (Yi rfl)<|ZG ?_
  refine Zl (add_r rfl rfl (by show (-9000000000000000000 : Int) ≤ 0 + 1; decide) (by show (0 : Int) + 1 ≤ 9000000000000000000; decide))<|ZG<|Zl (eqlT_r rfl rfl (by rw [hap4, hL.2]; rfl))<|Zl (Kt rfl rfl)<|Zl (Wb rfl)<|Zn<|Zt ?_
  exact fin1 (v := .bool true) rfl rfl ⟨rfl, H.below⟩
 ·
  have hL := wt3_soon (show t < k by omega)
  refine Zn<|ZF rfl<|Zk<|Zs<|Zr<|Zl (Yi rfl)<|Zl (eqlT_r rfl rfl hL.1)<|Zl (Yb rfl)<|ZG<|Zl (Yi rfl)<|ZG<|Zl (eqlT_r rfl rfl (by rw [hL.2]; rfl))<|Zl (Kt rfl rfl)<|Zl (Wb rfl) ?_
  refine Zn<|Zt ?_
  exact fin1 (v := .bool true) rfl rfl ⟨rfl, H.below⟩
end Go.Proofs.Ytemnchkebhclpaa
end
