/- G0B: a part of the proofs over this seat: what stands in its theorems holds for every input that they name. -/
import Derived.Test.YtemnchkebhclpaaGZ
import Derived.Test.YtemnchkebhclpaaG0A
import Derived.Test.YtemnchkebhclpaaEngZ
open Go.Eng renaming lw_nil → Zn, cw_seq → Zs, cw_region → Zr, cw_skip → Zk, cw_ret → Zt, cw_block → Zb, cw_exit → Zx, mvI_r → Yi, mvB_r → Yb, mvS_r → Ys, mvP_r → Yp, mvT_r → Yt, mvU_r → Yu, mvA_r → Ya, asI_r → Wi, asB_r → Wb, asS_r → Ws, asP_r → Wp, asT_r → Wt, fad_r → Zf, exI_r → Xi, exA_r → Xa, exB_r → Xb, exS_r → Xs, pkTB_r → Kt, pkFB_r → Kf, cw_true → ZT, cw_false → ZF
section
namespace Go.Proofs.Ytemnchkebhclpaa
open Go Go.Eng Go.RowKit
set_option linter.unusedSimpArgs false
theorem setM_same {α : Type} {l : List α} {k : Nat} {a : α} (h : l[k]? = some a) : l.set k a = l := by
 apply List.ext_getElem?
 intro i
 rw [List.getElem?_set]
 split
 ·
  rename_i hi
  subst hi
  split
  ·
   exact h.symm
  ·
   rename_i hl
   rw [List.getElem?_eq_none (by omega)] at h; cases h
 ·
  rfl
/-- where a member is, and what it is -/
def findM (g : Gr) (s : ByteArray) : Option (Nat × Mem) := (g.ms.findIdx? fun p => decide (p.name = s)).bind fun i => g.ms[i]?.map fun t => (i, t)
theorem findM_none {g : Gr} {s : ByteArray} (h : findM g s = none) : gIdx g s = -1 := by
 unfold findM at h
 unfold gIdx
 cases hi : g.ms.findIdx? fun p => decide (p.name = s) with
 | none => rfl
 | some i =>
  obtain ⟨hl, -⟩ := List.findIdx?_eq_some_iff_getElem.1 hi
  rw [hi] at h
  simp [List.getElem?_eq_getElem hl] at h
theorem findM_some {g : Gr} {s : ByteArray} {i : Nat} {t : Mem} (h : findM g s = some (i, t)) : gIdx g s = i ∧ g.ms[i]? = some t ∧ t.name = s := by
 unfold findM at h
 unfold gIdx
 cases hi : g.ms.findIdx? fun p => decide (p.name = s) with
 | none => rw [hi] at h; cases h
 | some j =>
  obtain ⟨hl, hn, -⟩ := List.findIdx?_eq_some_iff_getElem.1 hi
  rw [hi] at h
  simp only [Option.bind_some, List.getElem?_eq_getElem hl, Option.map_some, Option.some.injEq, Prod.mk.injEq] at h
  obtain ⟨rfl, rfl⟩ := h
  exact ⟨rfl, List.getElem?_eq_getElem hl, by simpa using hn⟩
theorem findM_a (g : Gr) (s : ByteArray) : findM g.a s = (findM g s).map fun (i, t) => (i, t.a) := by
 have e : g.a.ms.findIdx? (fun p => decide (p.name = s)) = g.ms.findIdx? fun p => decide (p.name = s) := by
  show (g.ms.map Mem.a).findIdx? _ = _
  rw [List.findIdx?_map]
  rfl
 unfold findM
 rw [e]
 cases g.ms.findIdx? fun p => decide (p.name = s) with
 | none => rfl
 | some i =>
  show (g.ms.map Mem.a)[i]?.map _ = (g.ms[i]?.map _).map _
  rw [List.getElem?_map]
  cases g.ms[i]? <;> rfl
theorem findM_no {g : Gr} {s : ByteArray} (h : ∀ t ∈ g.ms, t.name ≠ s) : findM g s = none := by
 unfold findM
 rw [List.findIdx?_eq_none_iff.2 fun t ht => decide_eq_false (h t ht)]
 rfl
theorem no_findM {g : Gr} {s : ByteArray} (h : findM g s = none) : ∀ t ∈ g.ms, t.name ≠ s := by
 have := findM_none h
 unfold gIdx at this
 cases hi : g.ms.findIdx? fun p => decide (p.name = s) with
 | none => rw [List.findIdx?_eq_none_iff] at hi; intro t ht; simpa using hi t ht
 | some i => rw [hi] at this; simp [idxI] at this
theorem findM_mem {g : Gr} (h3 : ApartM g.ms) {t : Mem} (ht : t ∈ g.ms) : ∃ i, findM g t.name = some (i, t) := by
 obtain ⟨i, hi⟩ := List.mem_iff_getElem?.1 ht
 obtain ⟨hl, he⟩ := getE hi
 have : (g.ms.findIdx? fun p => decide (p.name = t.name)) = some i := by
  rw [List.findIdx?_eq_some_iff_getElem]
  refine ⟨hl, by rw [he]; simp, fun j hj => ?_⟩
  unfold ApartM at h3
  rw [List.pairwise_map, List.pairwise_iff_getElem] at h3
  have := h3 j i (by omega) hl hj
  rw [he] at this
  simpa using this
 exact ⟨i, by unfold findM; rw [this]; simp [hi]⟩
/-- P6.4 -/
def joinS (g : Gr) (s : ByteArray) (p : Nat) : Gr × Int := match findM g s with
 | some _ => (zGr, 6)
 | none => if g.ms.length = 6 then (zGr, 16) else (asgG { g with ms := g.ms ++ [newM s g.clock] } p, 0)
def leaveS (g : Gr) (s : ByteArray) (p : Nat) : Gr × Int := match findM g s with
 | none => (zGr, 5)
 | some (i, _) => (asgG (dropM g i) p, 0)
/-- P6.5 -/
def beatS (g : Gr) (s : ByteArray) (gn : Int) : Gr × Int := match findM g s with
 | none => (zGr, 5)
 | some (i, t) => if g.gen = gn then (beatG g i t, 0) else (zGr, 10)
/-- P6.6 -/
def storeS (g : Gr) (s : ByteArray) (gn part at_ : Int) : Gr × Int := match findM g s with
 | none => (zGr, 5)
 | some (_, t) => if g.gen = gn then if 400 < at_ then (zGr, 2) else if part ∈ t.parts then ({ g with os := putOff g.os part at_ }, 0) else (zGr, 12) else (zGr, 10)
def whereS (g : Gr) (s : ByteArray) (part : Int) : Int × Int := match findM g s with
 | none => (0, 5)
 | some (_, t) => if part ∈ t.parts then (whereA g.os part, 0) else (0, 12)
theorem Mem.a_a (m : Mem) : m.a.a = m.a := rfl
theorem Gr.a_a (g : Gr) : g.a.a = g.a := by
 unfold Gr.a
 simp only [List.map_map]
 congr 1
theorem memOk_a (ck : Int) (m : Mem) : memOk ck m.a = memOk ck m := rfl
theorem apartM_a (l : List Mem) : ApartM (l.map Mem.a) ↔ ApartM l := by
 unfold ApartM
 rw [mem_a_name]
theorem grOk_a (g : Gr) : grOk g.a = true ↔ grOk g = true := by
 rw [grOk_iff2, grOk_iff2]
 show (_ ∧ _ ∧ _ ∧ _ ∧ ((g.ms.map Mem.a).length : Int) ≤ 6 ∧ _) ∧ ((∀ m ∈ g.ms.map Mem.a, memOk g.clock m = true) ∧ ApartM (g.ms.map Mem.a)) ∧ _ ∧ _ ↔ _
 rw [List.length_map, apartM_a]
 have : (∀ m ∈ g.ms.map Mem.a, memOk g.clock m = true) ↔ ∀ m ∈ g.ms, memOk g.clock m = true := by
  constructor
  ·
   intro h m hm; exact h m.a (List.mem_map_of_mem hm)
  ·
   intro h m hm
   obtain ⟨x, hx, rfl⟩ := List.mem_map.1 hm
   exact h x hx
 rw [this]
 exact Iff.rfl
/-- a group to which so much was done: names, wait, parts as they are assigned -/
structure GrI (P : ByteArray → Prop) (wt : Int) (p k : Nat) (g : Gr) : Prop where
 ok : grOk g = true
 clock : g.clock ≤ 1000 * k
 gen : g.gen ≤ k
 wait : g.wait = wt
 names : ∀ m ∈ g.ms, P m.name
 asg : g.ms.map Mem.parts = assignL (g.ms.map Mem.name) p
theorem GrI.more {P : ByteArray → Prop} {wt : Int} {p k m : Nat} {g : Gr} (h : GrI P wt p k g) (hm : k ≤ m) : GrI P wt p m g := ⟨h.ok, by have := h.clock; omega, by have := h.gen; omega, h.wait, h.names, h.asg⟩
theorem mem_a_parts (l : List Mem) : (l.map Mem.a).map Mem.parts = l.map Mem.parts := by rw [List.map_map]; rfl
theorem GrI.a_iff {P : ByteArray → Prop} {wt : Int} {p k : Nat} {g : Gr} : GrI P wt p k g.a ↔ GrI P wt p k g := by
 constructor
 ·
  rintro ⟨h1, h2, h3, h4, h5, h6⟩
  refine ⟨(grOk_a g).1 h1, h2, h3, h4, fun m hm => h5 m.a (List.mem_map_of_mem hm), ?_⟩
  have h6 : (g.ms.map Mem.a).map Mem.parts = assignL ((g.ms.map Mem.a).map Mem.name) p := h6
  rw [mem_a_name, mem_a_parts] at h6
  exact h6
 ·
  rintro ⟨h1, h2, h3, h4, h5, h6⟩
  refine ⟨(grOk_a g).2 h1, h2, h3, h4, fun m hm => ?_, ?_⟩
  ·
   obtain ⟨x, hx, rfl⟩ := List.mem_map.1 (show m ∈ g.ms.map Mem.a from hm)
   exact h5 x hx
  ·
   show (g.ms.map Mem.a).map Mem.parts = assignL ((g.ms.map Mem.a).map Mem.name) p
   rw [mem_a_name, mem_a_parts]
   exact h6
theorem GrI.a {P : ByteArray → Prop} {wt : Int} {p k : Nat} {g : Gr} (h : GrI P wt p k g) : GrI P wt p k g.a := GrI.a_iff.2 h
theorem GrI.of_a {P : ByteArray → Prop} {wt : Int} {p k : Nat} {g : Gr} (h : GrI P wt p k g.a) : GrI P wt p k g := GrI.a_iff.1 h
theorem partsOk_of : ∀ (l : List Int) (a : Int), l.Pairwise (· < ·) → (∀ q ∈ l, a < q ∧ q < 4) → partsOk a l = true
 | [], _, _, _ => rfl
 | x :: l, a, hp, hq => by
  obtain ⟨h1, h2⟩ := List.pairwise_cons.1 hp
  unfold partsOk
  have := hq x (List.mem_cons_self ..)
  rw [partsOk_of l x h2 fun q hq' => ⟨h1 q hq', (hq q (List.mem_cons_of_mem _ hq')).2⟩]
  simp [this.1, this.2]
theorem upto_rise (n : Nat) : (upto n).Pairwise (· < ·) := by
 unfold upto
 rw [List.pairwise_map]
 exact List.pairwise_lt_range.imp fun h => by omega
theorem partsTo_ok {names : List ByteArray} {p i : Nat} (hp : p ≤ 4) : partsOk (-1) (partsTo names p i) = true := by
 refine partsOk_of _ _ ((upto_rise p).filter _) fun q hq => ?_
 obtain ⟨j, hj, rfl⟩ := upto_mem.1 (List.mem_filter.1 hq).1
 omega
theorem asgM_name (ms : List Mem) (p : Nat) : (asgM ms p).map Mem.name = ms.map Mem.name := by
 unfold asgM
 rw [List.map_zipWith]
 refine List.ext_getElem? fun i => ?_
 rw [List.getElem?_zipWith, List.getElem?_map]
 unfold assignL
 rw [List.getElem?_map, List.length_map]
 cases h : ms[i]? with
 | none => rfl
 | some m =>
  have := (getE h).1
  rw [List.getElem?_range this]
  rfl
theorem asgM_partsL (ms : List Mem) (p : Nat) : (asgM ms p).map Mem.parts = assignL (ms.map Mem.name) p := by
 unfold asgM
 rw [List.map_zipWith]
 refine List.ext_getElem? fun i => ?_
 rw [List.getElem?_zipWith]
 cases h : ms[i]? with
 | none =>
  have : ms.length ≤ i := by simpa using h
  rw [List.getElem?_eq_none (by rw [assignL_len, List.length_map]; exact this)]
 | some m =>
  have := (getE h).1
  have hl : i < (assignL (ms.map Mem.name) p).length := by rw [assignL_len, List.length_map]; exact this
  rw [List.getElem?_eq_getElem hl]
theorem asgM_heard {ms : List Mem} {p : Nat} {m : Mem} (h : m ∈ asgM ms p) : ∃ x ∈ ms, m.name = x.name ∧ m.heard = x.heard := by
 obtain ⟨i, hi⟩ := List.mem_iff_getElem?.1 h
 unfold asgM at hi
 rw [List.getElem?_zipWith] at hi
 split at hi
 ·
  rename_i x l hx hl
  injection hi with hi
  exact ⟨x, List.mem_of_getElem? hx, by rw [← hi], by rw [← hi]⟩
 ·
  cases hi
/-- a group whose members may be, and whose parts are assigned anew -/
theorem asgG_I {P : ByteArray → Prop} {wt : Int} {p k : Nat} {g : Gr} (hp : p ≤ 4) (hk : k ≤ 100000) (hc : 0 ≤ g.clock ∧ g.clock ≤ 1000 * (k + 1)) (hw : g.wait = wt) (hw1 : 1 ≤ g.wait ∧ g.wait ≤ 1000) (hg : 0 ≤ g.gen ∧ g.gen ≤ k) (hl : (g.ms.length : Int) ≤ 6) (hol : (g.os.length : Int) ≤ 4) (hm : ∀ m ∈ g.ms, nameOk m.name = true ∧ P m.name ∧ 0 ≤ m.heard ∧ m.heard ≤ g.clock) (ha : ApartM g.ms) (ho : (∀ o ∈ g.os, 0 ≤ o.part ∧ o.part < 4 ∧ 0 ≤ o.at_ ∧ o.at_ ≤ 400) ∧ g.os.Pairwise (fun a b => a.part < b.part)) : GrI P wt p (k + 1) (asgG g p) := by
 refine ⟨grOk_iff2.2 ⟨⟨⟨hc.1, by show g.clock ≤ _; omega⟩, hw1.1, hw1.2, ⟨by show 0 ≤ g.gen + 1; omega, by show g.gen + 1 ≤ _; omega⟩, by show ((asgM g.ms p).length : Int) ≤ 6; rw [asgM_len]; exact hl, hol⟩, ⟨fun m hm2 => ?_, ?_⟩, ho⟩, by show g.clock ≤ _; omega, by show g.gen + 1 ≤ _; omega, hw, fun m hm2 => ?_, ?_⟩
 ·
  obtain ⟨x, hx, e1, e2⟩ := asgM_heard hm2
  obtain ⟨i, hi⟩ := asgM_parts hm2
  obtain ⟨a1, a2, a3, a4⟩ := hm x hx
  exact memOk_iff.2 ⟨by rw [e1]; exact a1, by rw [e2]; exact a3, by rw [e2]; exact a4, by rw [hi]; exact partsTo_ok hp⟩
 ·
  unfold ApartM
  show ((asgM g.ms p).map _).Pairwise _
  rw [asgM_name]; exact ha
 ·
  obtain ⟨x, hx, e1, -⟩ := asgM_heard hm2
  rw [e1]; exact (hm x hx).2.1
 ·
  show (asgM g.ms p).map _ = assignL ((asgM g.ms p).map _) p
  rw [asgM_name, asgM_partsL]
theorem GrI.mems {P : ByteArray → Prop} {wt : Int} {p k : Nat} {g : Gr} (h : GrI P wt p k g) : ∀ m ∈ g.ms, nameOk m.name = true ∧ P m.name ∧ 0 ≤ m.heard ∧ m.heard ≤ g.clock := fun m hm => by
 obtain ⟨-, ⟨h2, -⟩, -⟩ := grOk_iff2.1 h.ok
 obtain ⟨a1, a2, a3, -⟩ := memOk_iff.1 (h2 m hm)
 exact ⟨a1, h.names m hm, a2, a3⟩
theorem GrI.join {P : ByteArray → Prop} {wt : Int} {p k : Nat} {g : Gr} {s : ByteArray} (h : GrI P wt p k g) (hp : p ≤ 4) (hk : k ≤ 100000) (hn : nameOk s = true) (hs : P s) (he : (joinS g s p).2 = 0) : GrI P wt p (k + 1) (joinS g s p).1 := by
 obtain ⟨⟨h1, h2, h3, h4, h5, h6⟩, ⟨h7, h8⟩, h9⟩ := grOk_iff2.1 h.ok
 unfold joinS at he ⊢
 cases hf : findM g s with
 | some x => rw [hf] at he; cases he
 | none =>
  rw [hf] at he
  dsimp only at he ⊢
  by_cases hl : g.ms.length = 6
  ·
   rw [if_pos hl] at he; cases he
  ·
   rw [if_neg hl]
   have hno := no_findM hf
   have hck := h.clock
   refine asgG_I hp hk ⟨h1.1, by show g.clock ≤ _; omega⟩ h.wait ⟨h2, h3⟩ ⟨h4.1, h.gen⟩ ?_ h6 (fun m hm => ?_) ?_ h9
   ·
    show ((g.ms ++ [_]).length : Int) ≤ 6
    rw [List.length_append, List.length_singleton]; omega
   ·
    rcases List.mem_append.1 hm with hm | hm
    ·
     exact h.mems m hm
    ·
     rw [List.mem_singleton.1 hm]
     exact ⟨hn, hs, h1.1, Int.le_refl _⟩
   ·
    unfold ApartM at h8 ⊢
    show ((g.ms ++ [newM s g.clock]).map _).Pairwise _
    rw [List.map_append, List.pairwise_append]
    refine ⟨h8, by simp, fun a ha b hb => ?_⟩
    obtain ⟨t, ht, rfl⟩ := List.mem_map.1 ha
    simp only [List.map_cons, List.map_nil, List.mem_singleton] at hb
    subst hb
    exact hno t ht
theorem GrI.leave {P : ByteArray → Prop} {wt : Int} {p k : Nat} {g : Gr} {s : ByteArray} (h : GrI P wt p k g) (hp : p ≤ 4) (hk : k ≤ 100000) (he : (leaveS g s p).2 = 0) : GrI P wt p (k + 1) (leaveS g s p).1 := by
 obtain ⟨⟨h1, h2, h3, h4, h5, h6⟩, ⟨h7, h8⟩, h9⟩ := grOk_iff2.1 h.ok
 unfold leaveS at he ⊢
 cases hf : findM g s with
 | none => rw [hf] at he; cases he
 | some x =>
  obtain ⟨i, t⟩ := x
  have hck := h.clock
  have hsub : (g.ms.take i ++ g.ms.drop (i + 1)).Sublist g.ms := by
   have := (List.Sublist.refl (g.ms.take i)).append (List.drop_sublist_drop_left g.ms (Nat.le_succ i))
   rwa [List.take_append_drop] at this
  refine asgG_I hp hk ⟨h1.1, by show g.clock ≤ _; omega⟩ h.wait ⟨h2, h3⟩ ⟨h4.1, h.gen⟩ ?_ h6 (fun m hm => h.mems m (hsub.subset hm)) ?_ h9
  ·
   have := hsub.length_le
   show ((g.ms.take i ++ g.ms.drop (i + 1)).length : Int) ≤ 6
   omega
  ·
   unfold ApartM at h8 ⊢
   exact h8.sublist (hsub.map _)
theorem apartM_set {l : List Mem} {i : Nat} {t t' : Mem} (h : ApartM l) (hi : l[i]? = some t) (hn : t'.name = t.name) : ApartM (l.set i t') := by
 unfold ApartM at h ⊢
 rw [List.map_set, hn, setM_same (by rw [List.getElem?_map, hi]; rfl)]
 exact h
theorem GrI.beat {P : ByteArray → Prop} {wt : Int} {p k : Nat} {g : Gr} {s : ByteArray} {gn : Int} (h : GrI P wt p k g) (he : (beatS g s gn).2 = 0) : GrI P wt p (k + 1) (beatS g s gn).1 := by
 obtain ⟨⟨h1, h2, h3, h4, h5, h6⟩, ⟨h7, h8⟩, h9⟩ := grOk_iff2.1 h.ok
 unfold beatS at he ⊢
 cases hf : findM g s with
 | none => rw [hf] at he; cases he
 | some x =>
  obtain ⟨i, t⟩ := x
  rw [hf] at he
  dsimp only at he ⊢
  obtain ⟨-, ht, -⟩ := findM_some hf
  have hm := List.mem_of_getElem? ht
  have hck := h.clock
  have hgn := h.gen
  by_cases hg : g.gen = gn
  ·
   rw [if_pos hg]
   refine ⟨grOk_iff2.2 ⟨⟨h1, h2, h3, h4, ?_, h6⟩, ⟨fun m hm2 => ?_, apartM_set h8 ht rfl⟩, h9⟩, ?_, ?_, h.wait, fun m hm2 => ?_, ?_⟩
   ·
    show ((g.ms.set i _).length : Int) ≤ 6
    rw [List.length_set]; exact h5
   ·
    rcases List.mem_or_eq_of_mem_set hm2 with hm2 | rfl
    ·
     exact h7 m hm2
    ·
     have := memOk_iff.1 (h7 t hm)
     exact memOk_iff.2 ⟨this.1, h1.1, Int.le_refl _, this.2.2.2⟩
   ·
    show g.clock ≤ _; omega
   ·
    show g.gen ≤ _; omega
   ·
    rcases List.mem_or_eq_of_mem_set hm2 with hm2 | rfl
    ·
     exact h.names m hm2
    ·
     exact h.names t hm
   ·
    show (g.ms.set i _).map _ = assignL ((g.ms.set i _).map _) p
    rw [List.map_set, List.map_set]
    rw [setM_same (by rw [List.getElem?_map, ht]; rfl), setM_same (by rw [List.getElem?_map, ht]; rfl)]
    exact h.asg
  ·
   rw [if_neg hg] at he; cases he
theorem offAt_le (os : List Off) (part : Int) : offAt os part ≤ os.length := by
 unfold offAt
 exact (List.takeWhile_sublist _).length_le
theorem offAt_take {os : List Off} {part : Int} : ∀ o ∈ os.take (offAt os part), o.part < part := by
 unfold offAt
 intro o ho
 rw [← List.prefix_iff_eq_take.1 (List.takeWhile_prefix _)] at ho
 have := List.all_eq_true.1 (List.all_takeWhile (p := fun o : Off => decide (o.part < part)) (l := os)) o ho
 simpa using this
theorem offAt_drop {os : List Off} {part : Int} (h : os.Pairwise (fun a b => a.part < b.part)) : ∀ o ∈ os.drop (offAt os part), part ≤ o.part := by
 induction os with
 | nil => intro o ho; simp at ho
 | cons x l ih =>
  obtain ⟨h1, h2⟩ := List.pairwise_cons.1 h
  intro o ho
  by_cases hx : x.part < part
  ·
   have e : offAt (x :: l) part = offAt l part + 1 := by unfold offAt; rw [List.takeWhile_cons_of_pos (by simpa using hx)]; rfl
   rw [e, List.drop_succ_cons] at ho
   exact ih h2 o ho
  ·
   have e : offAt (x :: l) part = 0 := by unfold offAt; rw [List.takeWhile_cons_of_neg (by simpa using hx)]; rfl
   rw [e, List.drop_zero] at ho
   rcases List.mem_cons.1 ho with rfl | ho
   ·
    omega
   ·
    have := h1 o ho; omega
theorem offs_few {os : List Off} (h : os.Pairwise (fun a b => a.part < b.part)) (hb : ∀ o ∈ os, 0 ≤ o.part ∧ o.part < 4) : (os.length : Int) ≤ 4 := by
 have h1 : partsOk (-1) (os.map Off.part) = true := partsOk_of _ _ (List.pairwise_map.2 h) fun q hq => by
  obtain ⟨o, ho, rfl⟩ := List.mem_map.1 hq
  have := hb o ho; omega
 have := rise_few h1
 rw [List.length_map] at this
 omega
theorem putOff_ok {os : List Off} {part at_ : Int} (h0 : 0 ≤ part) (h3 : part < 4) (ha0 : 0 ≤ at_) (ha : at_ ≤ 400) (ho : (∀ o ∈ os, 0 ≤ o.part ∧ o.part < 4 ∧ 0 ≤ o.at_ ∧ o.at_ ≤ 400) ∧ os.Pairwise (fun a b => a.part < b.part)) : ((∀ o ∈ putOff os part at_, 0 ≤ o.part ∧ o.part < 4 ∧ 0 ≤ o.at_ ∧ o.at_ ≤ 400) ∧ (putOff os part at_).Pairwise (fun a b => a.part < b.part)) := by
 obtain ⟨h1, h2⟩ := ho
 unfold putOff
 split
 ·
  rename_i hp
  obtain ⟨o, hx, hxp⟩ := Option.map_eq_some_iff.1 hp
  refine ⟨fun y hy => ?_, ?_⟩
  ·
   rcases List.mem_or_eq_of_mem_set hy with hy | rfl
   ·
    exact h1 y hy
   ·
    exact ⟨h0, h3, ha0, ha⟩
  ·
   have : (os.set (offAt os part) ⟨part, at_⟩).map Off.part = os.map Off.part := by
    rw [List.map_set, setM_same (by rw [List.getElem?_map, hx]; show some o.part = some part; rw [hxp])]
   rw [← List.pairwise_map (f := Off.part) (R := fun a b : Int => a < b), this, List.pairwise_map]
   exact h2
 ·
  rename_i hp
  refine ⟨fun y hy => ?_, ?_⟩
  ·
   simp only [List.mem_append, List.mem_singleton] at hy
   rcases hy with (hy | rfl) | hy
   ·
    exact h1 y (List.mem_of_mem_take hy)
   ·
    exact ⟨h0, h3, ha0, ha⟩
   ·
    exact h1 y (List.mem_of_mem_drop hy)
  ·
   have hd : ∀ o ∈ os.drop (offAt os part), part < o.part := fun o ho => by
    have h4 := offAt_drop h2 o ho
    rcases Int.lt_or_eq_of_le h4 with h5 | h5
    ·
     exact h5
    ·
     exfalso
     obtain ⟨j, hj⟩ := List.mem_iff_getElem?.1 ho
     cases hd : os.drop (offAt os part) with
     | nil => rw [hd] at hj; simp at hj
     | cons y l =>
      have hy : os[offAt os part]? = some y := by
       have := congrArg (fun l => l[0]?) hd
       simpa [List.getElem?_drop] using this
      have hyp : y.part ≠ part := fun h => hp (by rw [hy]; exact congrArg some h)
      have hy1 := offAt_drop h2 y (by rw [hd]; exact List.mem_cons_self ..)
      have hpw : (y :: l).Pairwise (fun a b => a.part < b.part) := hd ▸ h2.sublist (List.drop_sublist _ _)
      rw [hd] at ho
      rcases List.mem_cons.1 ho with rfl | ho
      ·
       exact hyp h5.symm
      ·
       have := (List.pairwise_cons.1 hpw).1 o ho; omega
   rw [List.append_assoc, List.pairwise_append]
   refine ⟨h2.sublist (List.take_sublist _ _), ?_, fun a ha b hb => ?_⟩
   ·
    show (_ :: os.drop (offAt os part)).Pairwise _
    exact List.pairwise_cons.2 ⟨hd, h2.sublist (List.drop_sublist _ _)⟩
   ·
    have h5 := offAt_take a ha
    rcases List.mem_append.1 hb with hb | hb
    ·
     rw [List.mem_singleton.1 hb]; exact h5
    ·
     have := hd b hb; omega
theorem whereA_put {os : List Off} {part at_ : Int} : whereA (putOff os part at_) part = at_ := by
 unfold putOff
 have hno : ∀ x ∈ os.take (offAt os part), x.part ≠ part := fun x hx h => by have := offAt_take x hx; omega
 split
 ·
  rename_i hp
  obtain ⟨o, hx, hxp⟩ := Option.map_eq_some_iff.1 hp
  have hl := (getE hx).1
  refine where_hit (k := offAt os part) (o := ⟨part, at_⟩) (List.getElem?_set_self hl) rfl ?_
  rw [List.take_set_of_le (Nat.le_refl _)]
  exact hno
 ·
  have hle := offAt_le os part
  have e : (os.take (offAt os part)).length = offAt os part := by rw [List.length_take]; omega
  refine where_hit (k := offAt os part) (o := ⟨part, at_⟩) ?_ rfl ?_
  ·
   rw [List.append_assoc, List.getElem?_append_right (by omega), e, Nat.sub_self]; rfl
  ·
   rw [List.append_assoc, List.take_append_of_le_length (by omega), List.take_of_length_le (by omega)]
   exact hno
theorem GrI.store {P : ByteArray → Prop} {wt : Int} {p k : Nat} {g : Gr} {s : ByteArray} {gn part at_ : Int} (h : GrI P wt p k g) (ha0 : 0 ≤ at_) (he : (storeS g s gn part at_).2 = 0) : GrI P wt p (k + 1) (storeS g s gn part at_).1 := by
 obtain ⟨⟨h1, h2, h3, h4, h5, h6⟩, ⟨h7, h8⟩, h9⟩ := grOk_iff2.1 h.ok
 unfold storeS at he ⊢
 cases hf : findM g s with
 | none => rw [hf] at he; cases he
 | some x =>
  obtain ⟨i, t⟩ := x
  rw [hf] at he
  dsimp only at he ⊢
  obtain ⟨-, ht, -⟩ := findM_some hf
  have hm := List.mem_of_getElem? ht
  have hck := h.clock
  have hgn := h.gen
  by_cases hg : g.gen = gn
  ·
   rw [if_pos hg] at he ⊢
   by_cases hat : 400 < at_
   ·
    rw [if_pos hat] at he; cases he
   ·
    rw [if_neg hat] at he ⊢
    by_cases hpt : part ∈ t.parts
    ·
     rw [if_pos hpt]
     have hp4 := (partsOk_rise (memOk_iff.1 (h7 t hm)).2.2.2).2 part hpt
     have ho := putOff_ok (by omega) hp4.2 ha0 (by omega) h9
     exact ⟨grOk_iff2.2 ⟨⟨h1, h2, h3, h4, h5, offs_few ho.2 fun o hx => ⟨(ho.1 o hx).1, (ho.1 o hx).2.1⟩⟩, ⟨h7, h8⟩, ho⟩, by show g.clock ≤ _; omega, by show g.gen ≤ _; omega, h.wait, h.names, h.asg⟩
    ·
     rw [if_neg hpt] at he; cases he
  ·
   rw [if_neg hg] at he; cases he
theorem GrI.tick {P : ByteArray → Prop} {wt : Int} {p k : Nat} {g : Gr} {n : Int} (h : GrI P wt p k g) (hp : p ≤ 4) (hk : k ≤ 100000) (hn0 : 0 ≤ n) (hn : n ≤ 1000) : GrI P wt p (k + 1) (tickG g n p) := by
 obtain ⟨⟨h1, h2, h3, h4, h5, h6⟩, ⟨h7, h8⟩, h9⟩ := grOk_iff2.1 h.ok
 have hck := h.clock
 have hgn := h.gen
 unfold tickG
 by_cases hl : (g.ms.filter fun m => !silent g n m).length = g.ms.length
 ·
  rw [if_pos hl]
  refine ⟨grOk_iff2.2 ⟨⟨⟨by show 0 ≤ g.clock + n; omega, by show g.clock + n ≤ _; omega⟩, h2, h3, h4, h5, h6⟩, ⟨fun m hm => ?_, h8⟩, h9⟩, by show g.clock + n ≤ _; omega, by show g.gen ≤ _; omega, h.wait, h.names, h.asg⟩
  obtain ⟨a1, a2, a3, a4⟩ := memOk_iff.1 (h7 m hm)
  exact memOk_iff.2 ⟨a1, a2, by show m.heard ≤ g.clock + n; omega, a4⟩
 ·
  rw [if_neg hl]
  have hsub : (g.ms.filter fun m => !silent g n m).Sublist g.ms := List.filter_sublist
  refine asgG_I hp hk ⟨by show 0 ≤ g.clock + n; omega, by show g.clock + n ≤ _; omega⟩ h.wait ⟨h2, h3⟩ ⟨h4.1, h.gen⟩ ?_ h6 (fun m hm => ?_) ?_ h9
  ·
   have := hsub.length_le
   show ((g.ms.filter fun m => !silent g n m).length : Int) ≤ 6
   omega
  ·
   obtain ⟨a1, a2, a3, a4⟩ := h.mems m (hsub.subset hm)
   exact ⟨a1, a2, a3, by show m.heard ≤ g.clock + n; omega⟩
  ·
   unfold ApartM at h8 ⊢
   exact h8.sublist (hsub.map _)
end Go.Proofs.Ytemnchkebhclpaa
end

section
namespace Go.Proofs.Ytemnchkebhclpaa
open Go Go.Eng Go.RowKit
set_option linter.unusedSimpArgs false
theorem findM_someA {g : Gr} {s : ByteArray} {i : Nat} {t : Mem} (h : findM g s = some (i, t)) : findM g.a s = some (i, t.a) := by rw [findM_a, h]; rfl
theorem findM_noneA {g : Gr} {s : ByteArray} (h : findM g s = none) : findM g.a s = none := by rw [findM_a, h]; rfl
theorem zGr_a : zGr.a = zGr := rfl
theorem zGr_v : zGr.v = .agg #[.int .i64 0, .int .i64 0, .int .i64 0, .slice none 0 0, .slice none 0 0] := rfl
/-- a group, and an error, that a call yields -/
abbrev GrRet (f : FuncId) (args : List Value) (w : World) (x : Gr × Int) : Prop := Ret Try.prog f args w fun v w2 => ∃ g' : Gr, v = .tuple #[g'.v, .int .i64 x.2] ∧ g'.a = x.1 ∧ NewGr w w2 g'
theorem joinSc_ok (g : Gr) (s : ByteArray) (p : Nat) (w : World) (h : g.rd 0 w.heap.size w) (hok : grOk g = true) (hn : nameOk s = true) (hp : p ≤ 4) (hg1 : g.gen < 1073741824) : GrRet i_group_Join [g.v, .string s, .int .i64 (p : Nat)] w (joinS g.a s p) := by
 unfold GrRet joinS
 cases hf : findM g s with
 | none =>
  rw [findM_noneA hf]
  dsimp only
  by_cases hl : g.ms.length = 6
  ·
   rw [if_pos (show g.a.ms.length = 6 by simpa [Gr.a] using hl)]
   exact (join_full g s p w h hok hn hp hg1 (findM_none hf) hl).mono fun v w2 ⟨h1, h2⟩ => ⟨zGr, h1, rfl, zGr_new h2⟩
  ·
   rw [if_neg (show ¬ g.a.ms.length = 6 by simpa [Gr.a] using hl)]
   exact join_ok g s p w h hok hn hp hg1 (findM_none hf) hl
 | some x =>
  obtain ⟨i, t⟩ := x
  rw [findM_someA hf]
  exact (join_twice g s p w h hok hn hp hg1 i (findM_some hf).1).mono fun v w2 ⟨h1, h2⟩ => ⟨zGr, h1, rfl, zGr_new h2⟩
theorem leaveSc_ok (g : Gr) (s : ByteArray) (p : Nat) (w : World) (h : g.rd 0 w.heap.size w) (hok : grOk g = true) (hn : nameOk s = true) (hp : p ≤ 4) (hg1 : g.gen < 1073741824) : GrRet i_group_Leave [g.v, .string s, .int .i64 (p : Nat)] w (leaveS g.a s p) := by
 unfold GrRet leaveS
 cases hf : findM g s with
 | none =>
  rw [findM_noneA hf]
  exact (leave_none g s p w h hok hn hp hg1 (findM_none hf)).mono fun v w2 ⟨h1, h2⟩ => ⟨zGr, h1, rfl, zGr_new h2⟩
 | some x =>
  obtain ⟨i, t⟩ := x
  rw [findM_someA hf]
  exact leave_ok g s p w h hok hn hp hg1 i (findM_some hf).1
theorem beatSc_ok (g : Gr) (s : ByteArray) (gn : Int) (w : World) (h : g.rd 0 w.heap.size w) (hok : grOk g = true) (hn : nameOk s = true) : GrRet i_group_Beat [g.v, .string s, .int .i64 gn] w (beatS g.a s gn) := by
 unfold GrRet beatS
 cases hf : findM g s with
 | none =>
  rw [findM_noneA hf]
  exact (beat_none g s gn w h hok hn (findM_none hf)).mono fun v w2 ⟨h1, h2⟩ => ⟨zGr, h1, rfl, zGr_new h2⟩
 | some x =>
  obtain ⟨i, t⟩ := x
  rw [findM_someA hf]
  obtain ⟨hi, ht, -⟩ := findM_some hf
  dsimp only
  by_cases hg : g.gen = gn
  ·
   rw [if_pos (show g.a.gen = gn from hg)]
   exact beat_ok g s gn w h hok hn i t hi ht hg
  ·
   rw [if_neg (show ¬ g.a.gen = gn from hg)]
   exact (beat_fence g s gn w h hok hn i hi hg).mono fun v w2 ⟨h1, h2⟩ => ⟨zGr, h1, rfl, zGr_new h2⟩
theorem storeSc_ok (g : Gr) (s : ByteArray) (gn part at_ : Int) (w : World) (h : g.rd 0 w.heap.size w) (hok : grOk g = true) (hn : nameOk s = true) (ha : 0 ≤ at_) : GrRet i_group_Store [g.v, .string s, .int .i64 gn, .int .i64 part, .int .i64 at_] w (storeS g.a s gn part at_) := by
 unfold GrRet storeS
 cases hf : findM g s with
 | none =>
  rw [findM_noneA hf]
  exact (store_none g s gn part at_ w h hok hn (findM_none hf)).mono fun v w2 ⟨h1, h2⟩ => ⟨zGr, h1, rfl, zGr_new h2⟩
 | some x =>
  obtain ⟨i, t⟩ := x
  rw [findM_someA hf]
  obtain ⟨hi, ht, -⟩ := findM_some hf
  dsimp only
  by_cases hg : g.gen = gn
  ·
   rw [if_pos (show g.a.gen = gn from hg)]
   by_cases hat : 400 < at_
   ·
    rw [if_pos hat]
    exact (store_range g s gn part at_ w h hok hn i hi hg hat).mono fun v w2 ⟨h1, h2⟩ => ⟨zGr, h1, rfl, zGr_new h2⟩
   ·
    rw [if_neg hat]
    by_cases hp : part ∈ t.parts
    ·
     rw [if_pos (show part ∈ t.a.parts from hp)]
     exact store_ok g s gn part at_ w h hok hn i t hi ht hg ha (by omega) hp
    ·
     rw [if_neg (show ¬ part ∈ t.a.parts from hp)]
     exact (store_state g s gn part at_ w h hok hn i t hi ht hg ha (by omega) hp).mono fun v w2 ⟨h1, h2⟩ => ⟨zGr, h1, rfl, zGr_new h2⟩
  ·
   rw [if_neg (show ¬ g.a.gen = gn from hg)]
   exact (store_fence g s gn part at_ w h hok hn i hi hg).mono fun v w2 ⟨h1, h2⟩ => ⟨zGr, h1, rfl, zGr_new h2⟩
theorem whereSc_ok (g : Gr) (s : ByteArray) (part : Int) (w : World) (h : g.rd 0 w.heap.size w) (hok : grOk g = true) (hn : nameOk s = true) : Ret Try.prog i_group_Where [g.v, .string s, .int .i64 part] w fun v w2 => v = .tuple #[.int .i64 (whereS g.a s part).1, .int .i64 (whereS g.a s part).2] ∧ Below w.heap.size w w2 := by
 unfold whereS
 cases hf : findM g s with
 | none =>
  rw [findM_noneA hf]
  exact where_none g s part w h hok hn (findM_none hf)
 | some x =>
  obtain ⟨i, t⟩ := x
  rw [findM_someA hf]
  obtain ⟨hi, ht, -⟩ := findM_some hf
  dsimp only
  by_cases hp : part ∈ t.parts
  ·
   rw [if_pos (show part ∈ t.a.parts from hp)]
   exact where_ok g s part w h hok hn i t hi ht hp
  ·
   rw [if_neg (show ¬ part ∈ t.a.parts from hp)]
   exact where_state g s part w h hok hn i t hi ht hp
def grD : Deep Gr := ⟨fun g => g.rd, fun _ _ _ _ _ hk h => h.st hk, fun _ _ _ _ _ _ h h1 h2 => h.mono h1 h2⟩
theorem newGr_rd (wt : Int) (w : World) : NewGr w w ⟨0, wt, 0, [], none, 0, [], none, 0⟩ := ⟨⟨Rd.nil, by simp, Rd.nil, by simp, by simp, by simp, by simp⟩, Below.refl _ _⟩
theorem newGr_I (P : ByteArray → Prop) {wt : Int} (p : Nat) (h1 : 1 ≤ wt) (h2 : wt ≤ 1000) : GrI P wt p 0 ⟨0, wt, 0, [], none, 0, [], none, 0⟩ := ⟨grOk_iff2.2 ⟨⟨⟨by simp, by simp⟩, h1, h2, ⟨by simp, by simp⟩, by simp, by simp⟩, ⟨by simp, by simp [ApartM]⟩, by simp, by simp⟩, by simp, by simp, rfl, by simp, by simp [assignL]⟩
/-- the next state of a group, whatever was asked -/
theorem GrI.next {P : ByteArray → Prop} {wt : Int} {p k : Nat} {q : Gr} {r : Gr × Int} (h : r.2 = 0 → GrI P wt p (k + 1) r.1) (ha : q.a = r.1) : r.2 = 0 → GrI P wt p (k + 1) q := fun h0 => GrI.of_a (ha ▸ h h0)
theorem Hp.grRow {w0 w : World} {L : List (Nat × Obj)} {F : List Fact} {lo hi : Nat} {g : Gr} (H : Hp w0 w L F) (i : Nat) (hF : F[i]? = some (FGr lo hi g)) : Hp w0 w L (FRd memL lo hi g.mA g.ms :: F) := by
 refine ⟨H.below, H.ents, H.nodup, fun f hf => ?_⟩
 rcases List.mem_cons.1 hf with rfl | hf
 ·
  obtain ⟨h1, h2, h3⟩ := H.facts _ (List.mem_of_getElem? hF)
  exact ⟨h1.row, h2, h3⟩
 ·
  exact H.facts f hf
theorem Hp.grParts {w0 w : World} {L : List (Nat × Obj)} {F : List Fact} {lo hi : Nat} {g : Gr} (H : Hp w0 w L F) (i : Nat) (hF : F[i]? = some (FGr lo hi g)) {m : Mem} (hm : m ∈ g.ms) : Hp w0 w L (FRd intL lo hi m.A m.parts :: F) := by
 refine ⟨H.below, H.ents, H.nodup, fun f hf => ?_⟩
 rcases List.mem_cons.1 hf with rfl | hf
 ·
  obtain ⟨h1, h2, h3⟩ := H.facts _ (List.mem_of_getElem? hF)
  exact ⟨h1.parts m hm, h2, h3⟩
 ·
  exact H.facts f hf
end Go.Proofs.Ytemnchkebhclpaa
end

section
namespace Go.Proofs.Ytemnchkebhclpaa
open Go Go.Eng Go.RowKit
set_option linter.unusedSimpArgs false
def ltr (i : Nat) : ByteArray := ⟨#[UInt8.ofNat (97 + i)]⟩
theorem ltr_ok {i : Nat} (h : i < 12) : nameOk (ltr i) = true := by
 have : (List.range 12).all (fun i => nameOk (ltr i)) = true := by kernel_rfl
 exact List.all_eq_true.1 this i (by simp; omega)
def seven (s : ByteArray) : Prop := ∃ m, m < 7 ∧ s = ltr m
def gtickS (g : Gr) (n : Int) (p : Nat) : Gr × Int := (tickG g n p, 0)
theorem gtickSc_ok (g : Gr) (n : Int) (p : Nat) (w : World) (h : g.rd 0 w.heap.size w) (hok : grOk g = true) (hp : p ≤ 4) (hg1 : g.gen < 1073741824) (hn0 : 0 ≤ n) (hn1 : n ≤ 1000) (hcl : g.clock + n ≤ 1073741824) : GrRet i_group_Tick [g.v, .int .i64 n, .int .i64 (p : Nat)] w (gtickS g.a n p) := gtick_ok g n p w h hok hp hg1 hn0 hn1 hcl
set_option maxHeartbeats 4000000 in
set_option maxRecDepth 10000 in
theorem grouped_ok (l : List Raw) (A : Option Addr) (c0 p most : Nat) (w : World) (hr : Rd rawL 0 w.heap.size A l w) (hok : ∀ r ∈ l, r.ok) (hl : l.length ≤ 9223372036854775807) (hm : most ≤ 100) (hp : p ≤ 4) :
  Ret Try.prog i_tailracekeep_grouped [.slice A l.length c0, .int .i64 (p : Nat), .int .i64 (most : Nat)] w fun v w2 => ∃ g : Gr, v = .tuple #[g.v, .bool true] ∧ GrI seven 10 p most g ∧ NewGr w w2 g := by
 refine ret_of fn_tailracekeep_grouped rfl rfl ?_
 have H := Hp.startRd hr
 refine Zs<|Zr<|alo H z_Group rfl fun w1 b6 H =>Zl (Wb rfl)<|Zn<|Zs<|Zr<|cal cb_group_New (gNew_ok 10 _ (by omega) (by omega)) rfl rfl ?_
 rintro _ w2 ⟨rfl, hb⟩; replace H := H.later hb; clear hb
 refine Zl (Yu rfl)<|Zl (Xa rfl rfl)<|Zl (Xi rfl rfl)<|alo H z_Group rfl fun w3 b8 H =>stN H 0 (#[.int .i64 (0), .int .i64 (10), .int .i64 (0), .slice none 0 0, .slice none 0 0]) siz_Group rfl rfl rfl rfl rfl (by kernel_rfl) (by kernel_rfl) fun w4 H =>Zl (Wi rfl)<|Zn<|Zs<|Zr<|Zl (Yi rfl)<|Zl (eqlT_r rfl rfl rfl)<|Zl (Wb rfl)<|Zn<|Zs ?_
 refine Zs ?_
 replace H := H.learn (newGr_rd 10 _).2 (FGr w4.heap.size w4.heap.size ⟨0, 10, 0, [], none, 0, [], none, 0⟩) (newGr_rd 10 _).1 (Nat.le_refl _) (Nat.le_refl _)
 have hlo0 := H.size
 refine Zr<|Zl (Wi rfl)<|Zn<|Zb ?_
 refine cw_loop (τ := Nat × Gr × Nat × Nat) [11, 12, 13, 14, 15, 22, 23, 24, 25, 26, 27, 28, 29, 30, 31, 32, 33, 34, 35, 36, 37, 38, 39, 40, 41, 42, 43, 44, 45, 46, 47, 48, 49, 50, 51, 52, 53, 54, 55, 56, 57, 58, 59, 60, 61, 62, 63, 64, 65, 66, 67, 68, 69, 70, 71, 72, 73, 74, 75, 76, 77, 78, 79, 80, 81, 82, 83, 84, 85, 86, 87, 88, 89, 90, 91, 92, 93, 94, 95, 96, 97, 98, 99, 100, 101, 102, 103, 104, 105, 106, 107, 108, 109, 110, 111] (fun (i, _, _, _) => [(11, .int .i64 (i : Nat))]) (fun (i, g, lo, hi) w' => i ≤ l.length ∧ i ≤ most ∧ GrI seven 10 p i g ∧ w.heap.size ≤ lo ∧ Hp w w' [(b8, .cells #[.int .i64 (g.clock), .int .i64 (g.wait), .int .i64 (g.gen), .slice g.mA g.ms.length g.mC, .slice g.oA g.os.length g.oC] T_Group (0, 0)), (b6, .cells #[.int .i64 0, .int .i64 0, .int .i64 0, .slice none 0 0, .slice none 0 0] T_Group (0, 0))] [FGr lo hi g, FRd rawL 0 w.heap.size A l]) (fun (i, _) => l.length - i) (0, ⟨0, 10, 0, [], none, 0, [], none, 0⟩, _, _) ⟨by omega, by omega, newGr_I _ _ (by decide) (by decide), hlo0, H⟩ (sl1 rfl) ?_
 rintro ⟨i, g, lo, hi⟩ ρ1 w5 ⟨hil, him, hgi, hlo, H⟩
 show CW _ _ _ _ (updL (ovr _ _ ρ1) [(11, .int .i64 (i : Nat))]) w5
 refine Zs<|Zs<|Zr<|Zl (Yi rfl)<|Zl (Ys rfl)<|Zl (lenS_r len_LRaw rfl) ?_
 refine lwD (lss_r rfl rfl) rfl rfl rfl (fun h25 => ?_) (fun h25 => ?_)
 ·
  refine Zl (Yb rfl)<|ZG<|Zl (Yi rfl)<|ZG<|Zl (Yi rfl)<|ZG ?_
  refine lwD (lss_r rfl rfl) rfl rfl rfl (fun h29 => ?_) (fun h29 => ?_)
  ·
   refine Zl (Kt rfl rfl)<|Zl (Yb rfl)<|ZG<|Zl (Yb rfl)<|Zl (Kt rfl rfl)<|Zn<|ZT rfl<|Zk<|Zs<|Zb<|Zs ?_
   obtain ⟨x, hx⟩ : ∃ x, l[i]? = some x := ⟨_, List.getElem?_eq_getElem (by omega)⟩
   have hxo := hok x (List.mem_of_getElem? hx)
   have hpa := pk_lt x.a (show 0 < 7 by decide)
   have hgn := hgi.gen
   have hck := hgi.clock
   obtain ⟨⟨⟨k1, -⟩, -, -, ⟨k5, -⟩, -, -⟩, -⟩ := grOk_iff2.1 hgi.ok
   refine Zr<|Zl (Ys rfl)<|Zl (Yi rfl)<|ixF H 1 rfl sl_LRaw rfl rfl (by omega) (by omega) rfl fun bq6 o6 x6 e6 => ?_
   obtain rfl : x = x6 := by have := e6.at_; rw [hx] at this; exact Option.some.inj this
   refine Zl (ldA_r (xs := Raw.cs x) agg_Raw rfl rfl e6.cl)<|alo H z_Raw rfl fun w7 b12 H =>stN H 0 (#[.int .i64 (x.kind), .int .i64 (x.a), .int .i64 (x.b), .int .i64 (x.c)]) siz_Raw rfl rfl rfl rfl rfl (by kernel_rfl) (by kernel_rfl) fun w8 H =>Zn<|Zs<|Zr<|Zl (Zf fd_Raw_1 rfl)<|Zl (Zd one_int H 0 rfl rfl rfl)<|cal cb_tailracekeep_picked (picked_ok x.a (7) _ hxo.2.1.1 hxo.2.1.2 (by omega) (by omega)) rfl rfl ?_
   rintro _ w9 ⟨rfl, hb⟩; replace H := H.later hb; clear hb
   refine Zl (add_r rfl rfl (by omega) (by omega)) ?_
   rw [show (97 : Int) + ((pk x.a 7 : Nat) : Int) = ((97 + pk x.a 7 : Nat) : Int) by omega]
   refine Zl (cvI_r (b := ((97 + pk x.a 7 : Nat) : Int)) int_int int_int32 rfl (wrap31 (by omega)))<|Zl (cvIT_r (m := 97 + pk x.a 7) int_int32 str_string rfl (by omega) (by omega))<|Zl (Wt rfl)<|Zn<|Zs<|Zr<|Zl (Zw agg_Group H 1 rfl rfl rfl)<|alo H z_Group rfl fun w10 b14 H =>stN H 0 (#[.int .i64 (g.clock), .int .i64 (g.wait), .int .i64 (g.gen), .slice g.mA g.ms.length g.mC, .slice g.oA g.os.length g.oC]) siz_Group rfl rfl rfl rfl rfl (by kernel_rfl) (by kernel_rfl) fun w11 H =>Zn<|Zs<|Zr<|Zl (Wi rfl)<|Zn ?_
   refine Zs<|Zs<|Zr<|Zl (Zf fd_Raw_0 rfl)<|Zl (Zd one_int H 1 rfl rfl rfl)<|cal cb_tailracekeep_picked (picked_ok x.kind (7) _ hxo.1.1 hxo.1.2 (by omega) (by omega)) rfl rfl ?_
   rintro _ w12 ⟨rfl, hb⟩; replace H := H.later hb; clear hb
   refine Zn ?_
   refine cw_cut (τ := Gr × Int × Nat × Nat) [15, 50, 51, 52, 53, 54, 55, 56, 57, 58, 59, 60, 61, 62, 63, 64, 65, 66, 67, 68, 69, 70, 71, 72, 73, 74, 75, 76, 77, 78, 79, 80, 81, 82, 83, 84, 85, 86, 87, 88, 89, 90, 91, 92, 93, 94, 95, 96, 97, 98, 99, 100, 101, 102, 103, 104, 105, 106, 107, 108] (fun (_, e, _, _) => [(15, .int .i64 e)]) (fun (q, e, lo2, hi2) w' => (e = 0 → GrI seven 10 p (i + 1) q) ∧ w.heap.size ≤ lo2 ∧ Hp w w' [(b14, .cells #[.int .i64 (q.clock), .int .i64 (q.wait), .int .i64 (q.gen), .slice q.mA q.ms.length q.mC, .slice q.oA q.os.length q.oC] T_Group (0, 0)), (b12, .cells #[.int .i64 (x.kind), .int .i64 (x.a), .int .i64 (x.b), .int .i64 (x.c)] T_Raw (0, 0)), (b8, .cells #[.int .i64 (g.clock), .int .i64 (g.wait), .int .i64 (g.gen), .slice g.mA g.ms.length g.mC, .slice g.oA g.os.length g.oC] T_Group (0, 0)), (b6, .cells #[.int .i64 0, .int .i64 0, .int .i64 0, .slice none 0 0, .slice none 0 0] T_Group (0, 0))] (FGr lo2 hi2 q :: [FGr lo hi g, FRd rawL 0 w.heap.size A l])) ?_ ?_
   ·
    skip
    refine Zb<|Zs<|Zs<|Zr ?_
    refine lwD (eql_r rfl rfl) rfl rfl rfl (fun h60 => ?_) (fun h60 => ?_)
    ·
     refine Zl (Wb rfl)<|Zn<|ZT rfl<|Zk<|ZT rfl<|Zr<|Zl (Zw agg_Group H 2 rfl rfl rfl)<|Zl (Yt rfl)<|Zl (Yi rfl)<|cal cb_group_Join (joinSc_ok g (ltr (pk x.a 7)) p _ (Hp.gr H 0 rfl) hgi.ok (ltr_ok (by omega)) hp (by omega)) rfl rfl ?_
     have hloq := H.size
     have hga := hgi.a
     rintro _ w13 ⟨q, rfl, haq, hnq⟩; replace H := H.learn hnq.2 (FGr w12.heap.size w13.heap.size q) hnq.1 (Nat.le_refl _) (Nat.le_refl _); clear hnq
     refine Zl (Yu rfl)<|Zl (Xa rfl rfl)<|Zl (Xi rfl rfl)<|stN H 0 (#[.int .i64 (q.clock), .int .i64 (q.wait), .int .i64 (q.gen), .slice q.mA q.ms.length q.mC, .slice q.oA q.os.length q.oC]) siz_Group rfl rfl rfl rfl rfl (by kernel_rfl) (by kernel_rfl) fun w14 H =>Zl (Wi rfl)<|Zn ?_
     exact ⟨(q, (joinS g.a (ltr (pk x.a 7)) p).2, _, _), ⟨GrI.next (r := joinS g.a (ltr (pk x.a 7)) p) (hga.join hp (by omega) (ltr_ok (by omega)) ⟨_, hpa, rfl⟩) haq, hloq, H.forget (List.Sublist.refl _) (fun _ h => h)⟩, sl1 rfl, by repeat (first | exact Agr.refl _ _ | exact agr_ovr | refine agr_upd rfl ?_ | refine agr_updL _ rfl ?_ | refine agr_ovr2 rfl ?_)⟩
    ·
     refine Zl (Wb rfl)<|Zn<|ZF rfl<|Zr ?_
     refine lwD (eql_r rfl rfl) rfl rfl rfl (fun h61 => ?_) (fun h61 => ?_)
     ·
      refine Zl (Wb rfl)<|Zn<|ZT rfl<|Zr<|Zl (Zw agg_Group H 2 rfl rfl rfl)<|Zl (Yt rfl)<|Zl (Yi rfl)<|cal cb_group_Join (joinSc_ok g (ltr (pk x.a 7)) p _ (Hp.gr H 0 rfl) hgi.ok (ltr_ok (by omega)) hp (by omega)) rfl rfl ?_
      have hloq := H.size
      have hga := hgi.a
      rintro _ w15 ⟨q, rfl, haq, hnq⟩; replace H := H.learn hnq.2 (FGr w12.heap.size w15.heap.size q) hnq.1 (Nat.le_refl _) (Nat.le_refl _); clear hnq
      refine Zl (Yu rfl)<|Zl (Xa rfl rfl)<|Zl (Xi rfl rfl)<|stN H 0 (#[.int .i64 (q.clock), .int .i64 (q.wait), .int .i64 (q.gen), .slice q.mA q.ms.length q.mC, .slice q.oA q.os.length q.oC]) siz_Group rfl rfl rfl rfl rfl (by kernel_rfl) (by kernel_rfl) fun w16 H =>Zl (Wi rfl)<|Zn ?_
      exact ⟨(q, (joinS g.a (ltr (pk x.a 7)) p).2, _, _), ⟨GrI.next (r := joinS g.a (ltr (pk x.a 7)) p) (hga.join hp (by omega) (ltr_ok (by omega)) ⟨_, hpa, rfl⟩) haq, hloq, H.forget (List.Sublist.refl _) (fun _ h => h)⟩, sl1 rfl, by repeat (first | exact Agr.refl _ _ | exact agr_ovr | refine agr_upd rfl ?_ | refine agr_updL _ rfl ?_ | refine agr_ovr2 rfl ?_)⟩
     ·
      refine Zl (Wb rfl)<|Zn<|ZF rfl<|Zs<|Zr ?_
      refine lwD (eql_r rfl rfl) rfl rfl rfl (fun h70 => ?_) (fun h70 => ?_)
      ·
       refine Zl (Wb rfl)<|Zn<|ZT rfl<|Zr<|Zl (Zw agg_Group H 2 rfl rfl rfl)<|Zl (Yt rfl)<|Zl (Yi rfl)<|cal cb_group_Leave (leaveSc_ok g (ltr (pk x.a 7)) p _ (Hp.gr H 0 rfl) hgi.ok (ltr_ok (by omega)) hp (by omega)) rfl rfl ?_
       have hloq := H.size
       have hga := hgi.a
       rintro _ w17 ⟨q, rfl, haq, hnq⟩; replace H := H.learn hnq.2 (FGr w12.heap.size w17.heap.size q) hnq.1 (Nat.le_refl _) (Nat.le_refl _); clear hnq
       refine Zl (Yu rfl)<|Zl (Xa rfl rfl)<|Zl (Xi rfl rfl)<|stN H 0 (#[.int .i64 (q.clock), .int .i64 (q.wait), .int .i64 (q.gen), .slice q.mA q.ms.length q.mC, .slice q.oA q.os.length q.oC]) siz_Group rfl rfl rfl rfl rfl (by kernel_rfl) (by kernel_rfl) fun w18 H =>Zl (Wi rfl)<|Zn ?_
       exact ⟨(q, (leaveS g.a (ltr (pk x.a 7)) p).2, _, _), ⟨GrI.next (r := leaveS g.a (ltr (pk x.a 7)) p) (hga.leave hp (by omega)) haq, hloq, H.forget (List.Sublist.refl _) (fun _ h => h)⟩, sl1 rfl, by repeat (first | exact Agr.refl _ _ | exact agr_ovr | refine agr_upd rfl ?_ | refine agr_updL _ rfl ?_ | refine agr_ovr2 rfl ?_)⟩
      ·
       refine Zl (Wb rfl)<|Zn<|ZF rfl<|Zs<|Zr ?_
       refine lwD (eql_r rfl rfl) rfl rfl rfl (fun h79 => ?_) (fun h79 => ?_)
       ·
        refine Zl (Wb rfl)<|Zn<|ZT rfl ?_
               
        have hloq := H.size
        have hga := hgi.a
        have hpb := pk_lt x.b (show 0 < 2 by decide)
        refine cw_draw mixed [0, 1, 2, 3, 4, 5, 6, 7, 8, 9, 10, 11] [12, 13] [6, 8] [1, 2, 4, 7, 9, 10, 11] (sp [(6, Sp.one (.int .i64 ((pk x.b 2 : Nat) : Int))), (8, Sp.deep w12.heap.size grD (fun g : Gr => g.c.toArray) (fun cs => .tuple #[.agg cs, .int .i64 (beatS g.a (ltr (pk x.a 7)) (g.gen - (pk x.b 2 : Nat))).2]) (fun cq : Gr => cq.a = (beatS g.a (ltr (pk x.a 7)) (g.gen - (pk x.b 2 : Nat))).1))]) (by kernel_rfl) (by kernel_rfl) (by kernel_rfl) (by kernel_rfl) (fun _ _ _ h => h) (sp_st _) ?_
        refine aw rfl rfl rfl rfl rfl (fun w' hw' => ldW_r agg_Group rfl ((H.later hw').ent (i := 2) rfl) rfl)<|aw rfl rfl rfl rfl rfl (fun w' hw' => Yt rfl)<|aw rfl rfl rfl rfl rfl (fun w' hw' => Zf fd_Group_2 rfl)<|aw rfl rfl rfl rfl rfl (fun w' hw' => ld_r one_int rfl (cellE ((H.later hw').ent (i := 2) rfl) rfl))<|aw rfl rfl rfl rfl rfl (fun w' hw' => Zf fd_Raw_2 rfl)<|aw rfl rfl rfl rfl rfl (fun w' hw' => ld_r one_int rfl (cellE ((H.later hw').ent (i := 1) rfl) rfl))<|awCalV cb_tailracekeep_picked rfl rfl rfl rfl rfl (fun w' hw' => picked_ok x.b 2 w' hxo.2.2.1.1 hxo.2.2.1.2 (by omega) (by omega)) rfl<|aw rfl rfl rfl rfl rfl (fun w' hw' => sub_r rfl rfl (by omega) (by omega))<|awDeep (gv := (fun cs => .tuple #[.agg cs, .int .i64 (beatS g.a (ltr (pk x.a 7)) (g.gen - (pk x.b 2 : Nat))).2])) cb_group_Beat rfl rfl rfl rfl rfl (fun w' hw' => hw'.size) (fun w' hw' => beatSc_ok g (ltr (pk x.a 7)) (g.gen - (pk x.b 2 : Nat)) w' (Hp.gr (H.later hw') 0 rfl) hgi.ok (ltr_ok (by omega))) rfl fun cs89 =>aw rfl rfl rfl rfl rfl (fun w' hw' => Yu rfl)<|aw rfl rfl rfl rfl rfl (fun w' hw' => Xa rfl rfl)<|aw rfl rfl rfl rfl rfl (fun w' hw' => Xi rfl rfl)<|aw_nil ?_
        intro w19 hw' hF
        obtain ⟨hF, q, eq, haq, hrd89⟩ := hF; cases eq
        obtain ⟨hF, -⟩ := hF
        replace H := H.learn hw' (FGr w12.heap.size w19.heap.size q) hrd89 (Nat.le_refl _) (Nat.le_refl _)
        clear hw' hF
        refine stN H 0 (#[.int .i64 (q.clock), .int .i64 (q.wait), .int .i64 (q.gen), .slice q.mA q.ms.length q.mC, .slice q.oA q.os.length q.oC]) siz_Group rfl rfl rfl rfl rfl (by kernel_rfl) (by kernel_rfl) fun w20 H =>Zl (Wi rfl)<|Zn ?_
        exact ⟨(q, (beatS g.a (ltr (pk x.a 7)) (g.gen - (pk x.b 2 : Nat))).2, _, _), ⟨GrI.next (r := beatS g.a (ltr (pk x.a 7)) (g.gen - (pk x.b 2 : Nat))) (hga.beat) haq, hloq, H.forget (List.Sublist.refl _) (fun _ h => h)⟩, sl1 rfl, by repeat (first | exact Agr.refl _ _ | exact agr_ovr | refine agr_upd rfl ?_ | refine agr_updL _ rfl ?_ | refine agr_ovr2 rfl ?_)⟩
       ·
        refine Zl (Wb rfl)<|Zn<|ZF rfl<|Zs<|Zs<|Zr ?_
        refine lwD (eql_r rfl rfl) rfl rfl rfl (fun h93 => ?_) (fun h93 => ?_)
        ·
         refine Zl (Wb rfl)<|Zn<|ZT rfl<|Zk<|ZT rfl ?_
                 
         have hloq := H.size
         have hga := hgi.a
         refine cw_draw mixed [0, 1, 2, 3, 4, 5, 7, 8, 6, 9, 10, 11, 12, 13] [14, 15] [6, 9, 10] [1, 2, 4, 7, 11, 12, 13] (sp [(6, Sp.one (.int .i64 ((pk x.b 4 : Nat) : Int))), (9, Sp.one (.int .i64 ((pk x.c 50 : Nat) : Int))), (10, Sp.deep w12.heap.size grD (fun g : Gr => g.c.toArray) (fun cs => .tuple #[.agg cs, .int .i64 (storeS g.a (ltr (pk x.a 7)) g.gen (pk x.b 4) (pk x.c 50)).2]) (fun cq : Gr => cq.a = (storeS g.a (ltr (pk x.a 7)) g.gen (pk x.b 4) (pk x.c 50)).1))]) (by kernel_rfl) (by kernel_rfl) (by kernel_rfl) (by kernel_rfl) (fun _ _ _ h => h) (sp_st _) ?_
         refine aw rfl rfl rfl rfl rfl (fun w' hw' => ldW_r agg_Group rfl ((H.later hw').ent (i := 2) rfl) rfl)<|aw rfl rfl rfl rfl rfl (fun w' hw' => Yt rfl)<|aw rfl rfl rfl rfl rfl (fun w' hw' => Zf fd_Group_2 rfl)<|aw rfl rfl rfl rfl rfl (fun w' hw' => ld_r one_int rfl (cellE ((H.later hw').ent (i := 2) rfl) rfl))<|aw rfl rfl rfl rfl rfl (fun w' hw' => Zf fd_Raw_2 rfl)<|aw rfl rfl rfl rfl rfl (fun w' hw' => ld_r one_int rfl (cellE ((H.later hw').ent (i := 1) rfl) rfl))<|aw rfl rfl rfl rfl rfl (fun w' hw' => Zf fd_Raw_3 rfl)<|aw rfl rfl rfl rfl rfl (fun w' hw' => ld_r one_int rfl (cellE ((H.later hw').ent (i := 1) rfl) rfl))<|awCalV cb_tailracekeep_picked rfl rfl rfl rfl rfl (fun w' hw' => picked_ok x.b 4 w' hxo.2.2.1.1 hxo.2.2.1.2 (by omega) (by omega)) rfl<|awCalV cb_tailracekeep_picked rfl rfl rfl rfl rfl (fun w' hw' => picked_ok x.c 50 w' hxo.2.2.2.1 hxo.2.2.2.2 (by omega) (by omega)) rfl<|awDeep (gv := (fun cs => .tuple #[.agg cs, .int .i64 (storeS g.a (ltr (pk x.a 7)) g.gen (pk x.b 4) (pk x.c 50)).2])) cb_group_Store rfl rfl rfl rfl rfl (fun w' hw' => hw'.size) (fun w' hw' => storeSc_ok g (ltr (pk x.a 7)) g.gen (pk x.b 4) (pk x.c 50) w' (Hp.gr (H.later hw') 0 rfl) hgi.ok (ltr_ok (by omega)) (by omega)) rfl fun cs106 =>aw rfl rfl rfl rfl rfl (fun w' hw' => Yu rfl)<|aw rfl rfl rfl rfl rfl (fun w' hw' => Xa rfl rfl)<|aw rfl rfl rfl rfl rfl (fun w' hw' => Xi rfl rfl) ?_
         refine aw_nil ?_
         intro w21 hw' hF
         obtain ⟨hF, q, eq, haq, hrd106⟩ := hF; cases eq
         obtain ⟨hF, -⟩ := hF
         obtain ⟨hF, -⟩ := hF
         replace H := H.learn hw' (FGr w12.heap.size w21.heap.size q) hrd106 (Nat.le_refl _) (Nat.le_refl _)
         clear hw' hF
         refine stN H 0 (#[.int .i64 (q.clock), .int .i64 (q.wait), .int .i64 (q.gen), .slice q.mA q.ms.length q.mC, .slice q.oA q.os.length q.oC]) siz_Group rfl rfl rfl rfl rfl (by kernel_rfl) (by kernel_rfl) fun w22 H =>Zl (Wi rfl)<|Zn ?_
         exact ⟨(q, (storeS g.a (ltr (pk x.a 7)) g.gen (pk x.b 4) (pk x.c 50)).2, _, _), ⟨GrI.next (r := storeS g.a (ltr (pk x.a 7)) g.gen (pk x.b 4) (pk x.c 50)) (hga.store (by omega)) haq, hloq, H.forget (List.Sublist.refl _) (fun _ h => h)⟩, sl1 rfl, by repeat (first | exact Agr.refl _ _ | exact agr_ovr | refine agr_upd rfl ?_ | refine agr_updL _ rfl ?_ | refine agr_ovr2 rfl ?_)⟩
        ·
         refine Zl (Wb rfl)<|Zn<|ZF rfl<|Zr ?_
         refine lwD (eql_r rfl rfl) rfl rfl rfl (fun h94 => ?_) (fun h94 => ?_)
         ·
          refine Zl (Wb rfl)<|Zn<|ZT rfl ?_
                   
          have hloq := H.size
          have hga := hgi.a
          refine cw_draw mixed [0, 1, 2, 3, 4, 5, 7, 8, 6, 9, 10, 11, 12, 13] [14, 15] [6, 9, 10] [1, 2, 4, 7, 11, 12, 13] (sp [(6, Sp.one (.int .i64 ((pk x.b 4 : Nat) : Int))), (9, Sp.one (.int .i64 ((pk x.c 50 : Nat) : Int))), (10, Sp.deep w12.heap.size grD (fun g : Gr => g.c.toArray) (fun cs => .tuple #[.agg cs, .int .i64 (storeS g.a (ltr (pk x.a 7)) g.gen (pk x.b 4) (pk x.c 50)).2]) (fun cq : Gr => cq.a = (storeS g.a (ltr (pk x.a 7)) g.gen (pk x.b 4) (pk x.c 50)).1))]) (by kernel_rfl) (by kernel_rfl) (by kernel_rfl) (by kernel_rfl) (fun _ _ _ h => h) (sp_st _) ?_
          refine aw rfl rfl rfl rfl rfl (fun w' hw' => ldW_r agg_Group rfl ((H.later hw').ent (i := 2) rfl) rfl)<|aw rfl rfl rfl rfl rfl (fun w' hw' => Yt rfl)<|aw rfl rfl rfl rfl rfl (fun w' hw' => Zf fd_Group_2 rfl)<|aw rfl rfl rfl rfl rfl (fun w' hw' => ld_r one_int rfl (cellE ((H.later hw').ent (i := 2) rfl) rfl))<|aw rfl rfl rfl rfl rfl (fun w' hw' => Zf fd_Raw_2 rfl)<|aw rfl rfl rfl rfl rfl (fun w' hw' => ld_r one_int rfl (cellE ((H.later hw').ent (i := 1) rfl) rfl))<|aw rfl rfl rfl rfl rfl (fun w' hw' => Zf fd_Raw_3 rfl)<|aw rfl rfl rfl rfl rfl (fun w' hw' => ld_r one_int rfl (cellE ((H.later hw').ent (i := 1) rfl) rfl))<|awCalV cb_tailracekeep_picked rfl rfl rfl rfl rfl (fun w' hw' => picked_ok x.b 4 w' hxo.2.2.1.1 hxo.2.2.1.2 (by omega) (by omega)) rfl<|awCalV cb_tailracekeep_picked rfl rfl rfl rfl rfl (fun w' hw' => picked_ok x.c 50 w' hxo.2.2.2.1 hxo.2.2.2.2 (by omega) (by omega)) rfl<|awDeep (gv := (fun cs => .tuple #[.agg cs, .int .i64 (storeS g.a (ltr (pk x.a 7)) g.gen (pk x.b 4) (pk x.c 50)).2])) cb_group_Store rfl rfl rfl rfl rfl (fun w' hw' => hw'.size) (fun w' hw' => storeSc_ok g (ltr (pk x.a 7)) g.gen (pk x.b 4) (pk x.c 50) w' (Hp.gr (H.later hw') 0 rfl) hgi.ok (ltr_ok (by omega)) (by omega)) rfl fun cs106 =>aw rfl rfl rfl rfl rfl (fun w' hw' => Yu rfl)<|aw rfl rfl rfl rfl rfl (fun w' hw' => Xa rfl rfl)<|aw rfl rfl rfl rfl rfl (fun w' hw' => Xi rfl rfl) ?_
          refine aw_nil ?_
          intro w23 hw' hF
          obtain ⟨hF, q, eq, haq, hrd106⟩ := hF; cases eq
          obtain ⟨hF, -⟩ := hF
          obtain ⟨hF, -⟩ := hF
          replace H := H.learn hw' (FGr w12.heap.size w23.heap.size q) hrd106 (Nat.le_refl _) (Nat.le_refl _)
          clear hw' hF
          refine stN H 0 (#[.int .i64 (q.clock), .int .i64 (q.wait), .int .i64 (q.gen), .slice q.mA q.ms.length q.mC, .slice q.oA q.os.length q.oC]) siz_Group rfl rfl rfl rfl rfl (by kernel_rfl) (by kernel_rfl) fun w24 H =>Zl (Wi rfl)<|Zn ?_
          exact ⟨(q, (storeS g.a (ltr (pk x.a 7)) g.gen (pk x.b 4) (pk x.c 50)).2, _, _), ⟨GrI.next (r := storeS g.a (ltr (pk x.a 7)) g.gen (pk x.b 4) (pk x.c 50)) (hga.store (by omega)) haq, hloq, H.forget (List.Sublist.refl _) (fun _ h => h)⟩, sl1 rfl, by repeat (first | exact Agr.refl _ _ | exact agr_ovr | refine agr_upd rfl ?_ | refine agr_updL _ rfl ?_ | refine agr_ovr2 rfl ?_)⟩
         ·
          refine Zl (Wb rfl)<|Zn<|ZF rfl ?_
                   
          have hloq := H.size
          have hga := hgi.a
          have hpc := pk_lt x.c (show 0 < 8 by decide)
          refine cw_draw mixed [0, 1, 2, 4, 3, 5, 6, 7, 8] [9, 10] [3, 5] [1, 4, 6, 7, 8] (sp [(3, Sp.one (.int .i64 ((pk x.c 8 : Nat) : Int))), (5, Sp.deep w12.heap.size grD (fun g : Gr => g.c.toArray) (fun cs => .tuple #[.agg cs, .int .i64 (gtickS g.a (pk x.c 8) p).2]) (fun cq : Gr => cq.a = (gtickS g.a (pk x.c 8) p).1))]) (by kernel_rfl) (by kernel_rfl) (by kernel_rfl) (by kernel_rfl) (fun _ _ _ h => h) (sp_st _) ?_
          refine aw rfl rfl rfl rfl rfl (fun w' hw' => ldW_r agg_Group rfl ((H.later hw').ent (i := 2) rfl) rfl)<|aw rfl rfl rfl rfl rfl (fun w' hw' => Zf fd_Raw_3 rfl)<|aw rfl rfl rfl rfl rfl (fun w' hw' => ld_r one_int rfl (cellE ((H.later hw').ent (i := 1) rfl) rfl))<|aw rfl rfl rfl rfl rfl (fun w' hw' => Yi rfl)<|awCalV cb_tailracekeep_picked rfl rfl rfl rfl rfl (fun w' hw' => picked_ok x.c 8 w' hxo.2.2.2.1 hxo.2.2.2.2 (by omega) (by omega)) rfl<|awDeep (gv := (fun cs => .tuple #[.agg cs, .int .i64 (gtickS g.a (pk x.c 8) p).2])) cb_group_Tick rfl rfl rfl rfl rfl (fun w' hw' => hw'.size) (fun w' hw' => gtickSc_ok g (pk x.c 8) p w' (Hp.gr (H.later hw') 0 rfl) hgi.ok hp (by omega) (by omega) (by omega) (by omega)) rfl fun cs56 =>aw rfl rfl rfl rfl rfl (fun w' hw' => Yu rfl)<|aw rfl rfl rfl rfl rfl (fun w' hw' => Xa rfl rfl)<|aw rfl rfl rfl rfl rfl (fun w' hw' => Xi rfl rfl)<|aw_nil ?_
          intro w25 hw' hF
          obtain ⟨hF, q, eq, haq, hrd56⟩ := hF; cases eq
          obtain ⟨hF, -⟩ := hF
          replace H := H.learn hw' (FGr w12.heap.size w25.heap.size q) hrd56 (Nat.le_refl _) (Nat.le_refl _)
          clear hw' hF
          refine stN H 0 (#[.int .i64 (q.clock), .int .i64 (q.wait), .int .i64 (q.gen), .slice q.mA q.ms.length q.mC, .slice q.oA q.os.length q.oC]) siz_Group rfl rfl rfl rfl rfl (by kernel_rfl) (by kernel_rfl) fun w26 H =>Zl (Wi rfl)<|Zn ?_
          exact ⟨(q, (gtickS g.a (pk x.c 8) p).2, _, _), ⟨GrI.next (r := gtickS g.a (pk x.c 8) p) (fun _ => hga.tick hp (by omega) (by omega) (by omega)) haq, hloq, H.forget (List.Sublist.refl _) (fun _ h => h)⟩, sl1 rfl, by repeat (first | exact Agr.refl _ _ | exact agr_ovr | refine agr_upd rfl ?_ | refine agr_updL _ rfl ?_ | refine agr_ovr2 rfl ?_)⟩
   rintro ⟨q, e, lo2, hi2⟩ ρ1 w27 ⟨heq, hloq, H⟩
   show CW _ _ _ _ (updL (ovr _ _ ρ1) [(15, .int .i64 e)]) w27
   refine Zs<|Zr<|Zl (Yi rfl) ?_
   refine lwD (eql_r rfl rfl) rfl rfl rfl (fun h110 => ?_) (fun h110 => ?_)
   ·
    refine Zn<|ZT rfl<|Zr<|Zl (Zw agg_Group H 0 rfl rfl rfl)<|stN H 2 (#[.int .i64 (q.clock), .int .i64 (q.wait), .int .i64 (q.gen), .slice q.mA q.ms.length q.mC, .slice q.oA q.os.length q.oC]) siz_Group rfl rfl rfl rfl rfl (by kernel_rfl) (by kernel_rfl) fun w28 H =>Zn<|Zr<|Zl (Yi rfl)<|Zl (add_r rfl rfl (by omega) (by omega))<|Zl (Wi rfl)<|Zn ?_
    exact ⟨(i + 1, q, lo2, hi2), ⟨by omega, by omega, heq h110, hloq, H.forget (.cons _ (.cons _ (List.Sublist.refl _))) (fun f hf => by simp only [List.mem_cons] at hf ⊢; grind)⟩, sl1 rfl, by repeat (first | exact Agr.refl _ _ | exact agr_ovr | refine agr_upd rfl ?_ | refine agr_updL _ rfl ?_ | refine agr_ovr2 rfl ?_), by show l.length - (i + 1) < l.length - i; omega⟩
   ·
    refine Zn<|ZF rfl<|Zk<|Zr<|Zl (Yi rfl)<|Zl (add_r rfl rfl (by omega) (by omega))<|Zl (Wi rfl)<|Zn ?_
    exact ⟨(i + 1, g, lo, hi), ⟨by omega, by omega, hgi.more (by omega), hlo, H.forget (.cons _ (.cons _ (List.Sublist.refl _))) (fun f hf => by simp only [List.mem_cons] at hf ⊢; grind)⟩, sl1 rfl, by repeat (first | exact Agr.refl _ _ | exact agr_ovr | refine agr_upd rfl ?_ | refine agr_updL _ rfl ?_ | refine agr_ovr2 rfl ?_), by show l.length - (i + 1) < l.length - i; omega⟩
  ·
   refine Zl (Kt rfl rfl)<|Zl (Yb rfl)<|ZN<|Zl (Kf rfl rfl)<|Zn<|ZF rfl<|Zx<|Zs<|Zr<|Zl (Zw agg_Group H 0 rfl rfl rfl)<|Zl (Yb rfl)<|stN H 1 (#[.int .i64 (g.clock), .int .i64 (g.wait), .int .i64 (g.gen), .slice g.mA g.ms.length g.mC, .slice g.oA g.os.length g.oC]) siz_Group rfl rfl rfl rfl rfl (by kernel_rfl) (by kernel_rfl) fun w29 H =>Zl (Wb rfl)<|Zn ?_
   refine Zt ?_
   exact finCTn (cs0 := #[.int .i64 (g.clock), .int .i64 (g.wait), .int .i64 (g.gen), .slice g.mA g.ms.length g.mC, .slice g.oA g.os.length g.oC]) (v1 := .bool true) rfl agg_Group rfl (H.ent (i := 1) rfl) rfl rfl ⟨g, rfl, hgi.more (by omega), Gr.rd.mono (H.fact (i := 0) rfl) hlo (H.facts _ (List.mem_of_getElem? (i := 0) rfl)).2.1, H.below⟩
 ·
  refine Zl (Yb rfl)<|ZN<|ZN<|ZN<|Zl (Kf rfl rfl)<|Zl (Yb rfl)<|ZN<|Zl (Kf rfl rfl)<|Zn<|ZF rfl<|Zx<|Zs<|Zr<|Zl (Zw agg_Group H 0 rfl rfl rfl) ?_
  refine Zl (Yb rfl)<|stN H 1 (#[.int .i64 (g.clock), .int .i64 (g.wait), .int .i64 (g.gen), .slice g.mA g.ms.length g.mC, .slice g.oA g.os.length g.oC]) siz_Group rfl rfl rfl rfl rfl (by kernel_rfl) (by kernel_rfl) fun w30 H =>Zl (Wb rfl)<|Zn<|Zt ?_
  exact finCTn (cs0 := #[.int .i64 (g.clock), .int .i64 (g.wait), .int .i64 (g.gen), .slice g.mA g.ms.length g.mC, .slice g.oA g.os.length g.oC]) (v1 := .bool true) rfl agg_Group rfl (H.ent (i := 1) rfl) rfl rfl ⟨g, rfl, hgi.more (by omega), Gr.rd.mono (H.fact (i := 0) rfl) hlo (H.facts _ (List.mem_of_getElem? (i := 0) rfl)).2.1, H.below⟩
end Go.Proofs.Ytemnchkebhclpaa
end

section
namespace Go.Proofs.Ytemnchkebhclpaa
open Go Go.Eng Go.RowKit
set_option linter.unusedSimpArgs false
def gr0 (k : Nat) : Gr := ⟨0, k, 0, [], none, 0, [], none, 0⟩
theorem gr0_rd (k : Nat) (w : World) : (gr0 k).rd 0 w.heap.size w := ⟨Rd.nil, by simp [gr0], Rd.nil, by simp [gr0], by simp [gr0], by simp [gr0], by simp [gr0]⟩
theorem gr0_ok {k : Nat} (h1 : 1 ≤ k) (h2 : k ≤ 1000) : grOk (gr0 k) = true := (newGr_I (fun _ => True) 0 (wt := (k : Nat)) (by omega) (by omega)).ok
theorem tells_join : (joinS (gr0 10) ⟨#[97]⟩ 1).2 = 0 ∧ (joinS (gr0 10) ⟨#[97]⟩ 1).1.ms.length = 1 := ⟨by kernel_rfl, by kernel_rfl⟩
theorem partsOk_few {l : List Int} (h : partsOk (-1) l = true) : l.length ≤ 4 := by have := rise_few h; omega
theorem len_of_a {q g : Gr} (h : q.a = g) : q.ms.length = g.ms.length := by rw [← h]; simp [Gr.a]
set_option maxHeartbeats 4000000 in
set_option maxRecDepth 10000 in
theorem groupTells_ok (w : World) : Ret Try.prog i_tailracekeep_groupTells [] w fun v w2 => v = .bool true ∧ Below w.heap.size w w2 := by
 refine ret_of fn_tailracekeep_groupTells rfl rfl ?_
 have H := Hp.start w
 refine Zs<|Zr<|Zl (Wb rfl)<|Zn<|Zs<|Zr<|cal cb_group_New (gNew_ok 10 _ (by omega) (by omega)) rfl rfl ?_
 rintro _ w1 ⟨rfl, hb⟩; replace H := H.later hb; clear hb
 refine Zl (Yu rfl)<|Zl (Xa rfl rfl)<|Zl (Xi rfl rfl)<|alo H z_Group rfl fun w2 b1 H =>stN H 0 (#[.int .i64 (0), .int .i64 (10), .int .i64 (0), .slice none 0 0, .slice none 0 0]) siz_Group rfl rfl rfl rfl rfl (by kernel_rfl) (by kernel_rfl) fun w3 H =>Zl (Wi rfl)<|Zn<|Zs<|Zr<|Zl (Zw agg_Group H 0 rfl rfl rfl)<|cal cb_group_Join (joinSc_ok (gr0 10) ⟨#[97]⟩ 1 _ (gr0_rd 10 _) (gr0_ok (by omega) (by omega)) (by kernel_rfl) (by omega) (by decide)) rfl rfl ?_
 rintro _ w4 ⟨q, rfl, haq, hnq⟩; replace H := H.learn hnq.2 (FGr w3.heap.size w4.heap.size q) hnq.1 (Nat.le_refl _) (Nat.le_refl _); clear hnq
 rw [show (gr0 10).a = gr0 10 from rfl] at haq ⊢
 have hql := len_of_a haq
 rw [tells_join.2] at hql
 rw [tells_join.1]
 refine Zl (Yu rfl)<|Zl (Xa rfl rfl)<|Zl (Xi rfl rfl)<|alo H z_Group rfl fun w5 b3 H =>stN H 0 (#[.int .i64 (q.clock), .int .i64 (q.wait), .int .i64 (q.gen), .slice q.mA q.ms.length q.mC, .slice q.oA q.os.length q.oC]) siz_Group rfl rfl rfl rfl rfl (by kernel_rfl) (by kernel_rfl) fun w6 H =>Zl (Wi rfl)<|Zn<|Zs<|Zr<|Zl (Yi rfl)<|Zl (eqlT_r rfl rfl rfl)<|Zl (Yb rfl)<|ZG<|Zl (Yi rfl) ?_
 refine ZG<|Zl (eqlT_r rfl rfl rfl)<|Zl (Kt rfl rfl)<|Zl (Yb rfl)<|ZG<|Zl (Zf fd_Group_3 rfl)<|ZG<|Zl (Zd one_LMember H 0 rfl rfl rfl)<|ZG<|Zl (lenS_r len_LMember rfl)<|ZG<|Zl (eqlT_r rfl rfl (by omega))<|Zl (Kt rfl rfl)<|Zl (Wb rfl) ?_
 refine Zn<|Zt ?_
 exact fin1 (v := .bool true) rfl rfl ⟨rfl, H.below⟩
set_option maxHeartbeats 4000000 in
set_option maxRecDepth 10000 in
theorem groupGood_ok (l : List Raw) (A : Option Addr) (c0 : Nat) (n_ : Int) (w : World) (hr : Rd rawL 0 w.heap.size A l w) (hok : ∀ r ∈ l, r.ok) (hl : l.length ≤ 9223372036854775807) (hn : i64 n_) : Ret Try.prog i_tailracekeep_GroupGood [.slice A l.length c0, .int .i64 n_] w fun v w2 => v = .bool true ∧ Below w.heap.size w w2 := by
 refine ret_of fn_tailracekeep_GroupGood rfl rfl ?_
 have H := Hp.startRd hr
 refine Zs<|Zr<|Zl (Wb rfl)<|Zn<|Zs<|Zr<|Zl (Ys rfl)<|Zl (Yi rfl)<|cal cb_tailracekeep_picked (picked_ok n_ (5) _ hn.1 hn.2 (by omega) (by omega)) rfl rfl ?_
 rintro _ w1 ⟨rfl, hb⟩; replace H := H.later hb; clear hb
 have hpk := pk_lt n_ (show 0 < 5 by omega)
 obtain ⟨p, hpd⟩ : ∃ p, pk n_ 5 = p := ⟨_, rfl⟩
 rw [hpd] at hpk ⊢
 refine cal cb_tailracekeep_grouped (grouped_ok l A c0 p 60 _ (H.rd0 0 rfl) hok hl (by omega) (by omega)) rfl rfl ?_
 rintro _ w2 ⟨g, rfl, hgi, hng⟩; replace H := H.learn hng.2 (FGr w1.heap.size w2.heap.size g) hng.1 (Nat.le_refl _) (Nat.le_refl _); clear hng
 refine Zl (Yu rfl)<|Zl (Xa rfl rfl)<|Zl (Xb rfl rfl)<|alo H z_Group rfl fun w3 b5 H =>stN H 0 (#[.int .i64 (g.clock), .int .i64 (g.wait), .int .i64 (g.gen), .slice g.mA g.ms.length g.mC, .slice g.oA g.os.length g.oC]) siz_Group rfl rfl rfl rfl rfl (by kernel_rfl) (by kernel_rfl) fun w4 H =>Zl (Wb rfl)<|Zn<|Zs<|Zr<|Zl (Yb rfl)<|Zl (Yb rfl)<|ZG<|Zl (Zw agg_Group H 0 rfl rfl rfl)<|ZG ?_
 refine cal cb_group_Check (gCheck_ok g _ (Hp.gr H 0 rfl) hgi.ok) rfl rfl ?_
 rintro _ w5 ⟨rfl, hb⟩; replace H := H.later hb; clear hb
 refine ZG<|Zl (eqlT_r rfl rfl rfl)<|Zl (Kt rfl rfl)<|Zl (Yb rfl)<|ZG<|Zl (Zw agg_Group H 0 rfl rfl rfl)<|ZG<|cal cb_group_Copy (gCopy_ok g _ (Hp.gr H 0 rfl)) rfl rfl ?_
 rintro _ w6 ⟨q, Lm, Lo, rfl, ho⟩; have haq := ho.1; have hqi := GrI.of_a (haq ▸ hgi.a); have hnq := ho.new (by obtain ⟨⟨_, _, _, _, h, _⟩, _⟩ := grOk_iff2.1 hqi.ok; omega) (by obtain ⟨⟨_, _, _, _, _, h⟩, _⟩ := grOk_iff2.1 hqi.ok; omega) (fun m hm => partsOk_few (memOk_iff.1 ((grOk_iff2.1 hqi.ok).2.1.1 m hm)).2.2.2); replace H := H.learn hnq.2 (FGr w5.heap.size w6.heap.size q) hnq.1 (Nat.le_refl _) (Nat.le_refl _); clear hnq ho
 refine ZG<|cal cb_group_Check (gCheck_ok q _ (Hp.gr H 0 rfl) hqi.ok) rfl rfl ?_
 rintro _ w7 ⟨rfl, hb⟩; replace H := H.later hb; clear hb
 refine ZG<|Zl (eqlT_r rfl rfl rfl)<|Zl (Kt rfl rfl)<|Zl (Yb rfl)<|ZG<|Zl (bld_r (cs := #[.int .i64 (0), .int .i64 (0), .int .i64 (0), .slice none 0 0, .slice none 0 0]) st_Group z_Group (by kernel_rfl))<|ZG<|cal cb_group_Check (gCheck_zero _) rfl rfl ?_
 rintro _ w8 ⟨rfl, hb⟩; replace H := H.later hb; clear hb
 refine ZG<|Zl (eqlT_r rfl rfl rfl)<|Zl (Kt rfl rfl)<|Zl (Wb rfl)<|Zn<|Zt ?_
 exact fin1 (v := .bool true) rfl rfl ⟨rfl, H.below⟩
end Go.Proofs.Ytemnchkebhclpaa
end
