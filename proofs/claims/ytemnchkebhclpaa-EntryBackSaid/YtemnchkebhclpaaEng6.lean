/- Eng6: a part of the proofs over this seat: what stands in its theorems holds for every input that they name. -/
import Derived.Test.YtemnchkebhclpaaEng5
namespace Go.Eng
open Go Go.RowKit

/-- how elements lie in memory: sz cells each -/
structure Lay (α : Type) where
  f : α → List Value
  sz : Nat
  len : ∀ a, (f a).length = sz
  pos : 0 < sz
  one : ∀ a, ∀ u ∈ f a, u.oneCell' = true

def Lay.all {α : Type} (Y : Lay α) (es : List α) : List Value := es.flatMap Y.f
section
variable {α : Type} {Y : Lay α}
theorem Lay.length (es : List α) : (Y.all es).length = es.length * Y.sz := by
  induction es with
  | nil => simp [Lay.all]
  | cons e es ih =>
    simp only [Lay.all] at ih
    simp only [Lay.all, List.flatMap_cons, List.length_append, ih, Y.len, List.length_cons]
    rw [Nat.add_mul]; omega
theorem Lay.all_one (es : List α) : ∀ u ∈ Y.all es, u.oneCell' = true := by
  intro u hu
  simp only [Lay.all, List.mem_flatMap] at hu
  obtain ⟨a, _, ha⟩ := hu
  exact Y.one a u ha
theorem Lay.get {es : List α} {k j : Nat} (hk : k < es.length) (hj : j < Y.sz) : (Y.all es)[k * Y.sz + j]? = (Y.f es[k])[j]? := by
  induction es generalizing k with
  | nil => simp at hk
  | cons e es ih =>
    simp only [Lay.all, List.flatMap_cons]
    cases k with
    | zero => simp; rw [List.getElem?_append_left (by rw [Y.len]; exact hj)]
    | succ k =>
      have : (k + 1) * Y.sz + j = Y.sz + (k * Y.sz + j) := by rw [Nat.add_mul]; omega
      rw [this, List.getElem?_append_right (by rw [Y.len]; omega), Y.len]
      simp only [List.getElem_cons_succ, Nat.add_sub_cancel_left]
      exact ih (by simpa using hk)
theorem Lay.all_append (a b : List α) : Y.all (a ++ b) = Y.all a ++ Y.all b := by simp [Lay.all]
theorem Lay.all_take (es : List α) (k : Nat) : Y.all (es.take k) = (Y.all es).take (k * Y.sz) := by
  induction es generalizing k with
  | nil => simp [Lay.all]
  | cons e es ih =>
    cases k with
    | zero => simp [Lay.all]
    | succ k =>
      simp only [Lay.all] at ih
      simp only [Lay.all, List.take_succ_cons, List.flatMap_cons, ih]
      rw [Nat.add_mul, Nat.one_mul, Nat.add_comm, List.take_append, Y.len, Nat.add_sub_cancel_left]
      rw [List.take_of_length_le (l := Y.f e) (by rw [Y.len]; omega)]
theorem Lay.all_drop (es : List α) (k : Nat) : Y.all (es.drop k) = (Y.all es).drop (k * Y.sz) := by
  induction es generalizing k with
  | nil => simp [Lay.all]
  | cons e es ih =>
    cases k with
    | zero => simp [Lay.all]
    | succ k =>
      simp only [Lay.all] at ih
      simp only [Lay.all, List.drop_succ_cons, List.flatMap_cons, ih]
      rw [Nat.add_mul, Nat.one_mul, Nat.add_comm, List.drop_append, Y.len, Nat.add_sub_cancel_left]
      rw [List.drop_of_length_le (l := Y.f e) (by rw [Y.len]; omega), List.nil_append]

/-- the slice at A (es.length elements) reads as es; its block lies from lo to below hi -/
def Rd (Y : Lay α) (lo hi : Nat) (A : Option Addr) (es : List α) (w : World) : Prop :=
  0 < es.length → ∃ b o, A = some ⟨b, o, none⟩ ∧ lo ≤ b ∧ b < hi ∧ ∀ j u, (Y.all es)[j]? = some u → w.cell? ⟨b, o + j, none⟩ = some u
variable {lo hi lo' hi' : Nat} {A : Option Addr} {es : List α} {w w' : World}
theorem Rd.nil : Rd Y lo hi A [] w := fun h => absurd h (by simp)
theorem Rd.st (hk : ∀ k, lo ≤ k → k < hi → w'.heap[k]? = w.heap[k]?) (h : Rd Y lo hi A es w) : Rd Y lo hi A es w' := fun h0 => by
  obtain ⟨b, o, hA, h1, h2, hc⟩ := h h0
  exact ⟨b, o, hA, h1, h2, fun j u hj => (World.cell?_of_block (hk b h1 h2)).trans (hc j u hj)⟩
theorem Rd.mono (h : Rd Y lo hi A es w) (hl : lo' ≤ lo) (hh : hi ≤ hi') : Rd Y lo' hi' A es w := fun h0 => by
  obtain ⟨b, o, hA, h1, h2, hc⟩ := h h0
  exact ⟨b, o, hA, Nat.le_trans hl h1, Nat.lt_of_lt_of_le h2 hh, hc⟩
theorem Rd.below (h : Rd Y lo hi A es w) (hb : Below hi w w') : Rd Y lo hi A es w' := h.st fun k _ hk => hb.block k hk
theorem Rd.src (h : Rd Y lo hi A es w) : Src w A es.length Y.sz (Y.all es) :=
  ⟨Lay.length es, fun h0 => by obtain ⟨b, o, hA, _, _, hc⟩ := h h0; exact ⟨_, hA, fun j u hj => by rw [Addr.add_lit]; exact hc j u hj⟩⟩
/-- an element -/
theorem Rd.at_ (h : Rd Y lo hi A es w) {k : Nat} (hk : k < es.length) : ∃ b o, A = some ⟨b, o, none⟩ ∧ lo ≤ b ∧ b < hi ∧ ∀ j u, (Y.f es[k])[j]? = some u → w.cell? ⟨b, o + k * Y.sz + j, none⟩ = some u := by
  obtain ⟨b, o, hA, h1, h2, hc⟩ := h (by omega)
  refine ⟨b, o, hA, h1, h2, fun j u hj => ?_⟩
  rw [Nat.add_assoc]
  refine hc _ u ?_
  have hjs : j < Y.sz := by
    have := (List.getElem?_eq_some_iff.1 hj).1
    rwa [Y.len] at this
  rw [Lay.get hk hjs]
  exact hj
theorem Rd.take (h : Rd Y lo hi A es w) (k : Nat) : Rd Y lo hi A (es.take k) w := fun h0 => by
  obtain ⟨b, o, hA, h1, h2, hc⟩ := h (by simp at h0; omega)
  refine ⟨b, o, hA, h1, h2, fun j u hj => hc j u ?_⟩
  rw [Lay.all_take, List.getElem?_take] at hj
  split at hj
  · exact hj
  · cases hj
theorem Rd.from_ (h : Rd Y lo hi A es w) {k len : Nat} {A' : Option Addr} (hf : From A A' k len Y.sz) (hk : k < es.length → k < len) : Rd Y lo hi A' (es.drop k) w := fun h0 => by
  have hlt : k < es.length := by simp at h0; omega
  obtain ⟨b, o, hA, h1, h2, hc⟩ := h (by omega)
  refine ⟨b, o + k * Y.sz, hf (hk hlt) b o hA, h1, h2, fun j u hj => ?_⟩
  rw [Nat.add_assoc]
  refine hc _ u ?_
  rw [Lay.all_drop, List.getElem?_drop] at hj
  exact hj
/-- as a fact -/
def FRd (Y : Lay α) (lo hi : Nat) (A : Option Addr) (es : List α) : Fact := ⟨lo, hi, Rd Y lo hi A es, fun _ _ hk h => h.st hk⟩
end

/-- a slice of the call's own -/
def Own {α : Type} (Y : Lay α) (v : Value) (e : TypeId) (es : List α) (L : List (Nat × Obj)) : Prop := OwnE v e Y.sz es.length (Y.all es) L
section
variable {α : Type} {Y : Lay α} {v : Value} {e : TypeId} {es : List α} {L K M : List (Nat × Obj)} {w0 w : World} {F : List Fact}
theorem Own.nil : Own Y (.slice none 0 0) e ([] : List α) [] := OwnE.nil e Y.sz
theorem Own.form (h : Own Y v e es L) : ∃ A c, v = .slice A es.length c ∧ es.length ≤ c ∧ c ≤ maxLen := by
  rcases h.2 with ⟨_, hn, A, rfl⟩ | ⟨g, cap, cur, _, rfl, h1, h2, _⟩
  · exact ⟨A, 0, by rw [hn], by omega, by simp [maxLen]⟩
  · exact ⟨_, _, rfl, h1, h2⟩
theorem Own.rd {A : Option Addr} {n c : Nat} (h : Own Y (.slice A n c) e es L) (H : Hp w0 w (K ++ L ++ M) F) : Rd Y w0.heap.size w.heap.size A es w := fun h0 => by
  rcases h.2 with ⟨_, hn, _⟩ | ⟨g, cap, cur, rfl, hv, h1, h2, h3, h4⟩
  · omega
  · have hg : w.heap[g]? = some (.cells cur e (0, 0)) := H.ent (i := K.length) (by simp)
    simp only [Value.slice.injEq] at hv
    refine ⟨g, 0, hv.1, H.ge (i := K.length) (b := g) (by simp; rfl), lt_of_heap hg, fun j u hj => ?_⟩
    rw [Nat.zero_add]
    refine cellE hg ?_
    rw [← h4, List.getElem?_take] at hj
    split at hj
    · simpa using hj
    · cases hj
end

def apB (P : Program) (T e sz by_ : Nat) : Bool :=
  sliceB P T e sz && match P.info? e with
    | some i => Nat.beq i.bytes by_ && Nat.blt 0 by_ && Nat.blt 0 sz && match i.zero with | some z => Nat.beq z.cells.size sz | none => false
    | none => false
section
variable {P : Program} {n : Nat} {Q : Post} {ρ : Env} {w : World} {ops : Array Oper} {rest : List Oper} {d : Nat} {t : TypeId} {p : String} {af : Array Edge}
variable {w0 : World} {F : List Fact}
theorem ap_of {T e sz by_ : Nat} (h : apB P T e sz by_ = true) : ∃ i z, P.underlying T = some (.slice e) ∧ P.info? e = some i ∧ i.zero = some z ∧ i.size = sz ∧ i.bytes = by_ ∧ z.cells.size = sz ∧ 0 < sz ∧ 0 < by_ := by
  unfold apB at h
  simp only [Bool.and_eq_true] at h
  obtain ⟨h1, h2⟩ := h
  obtain ⟨hu, i, hi, hs⟩ := slice_of h1
  rw [hi] at h2
  simp only [Bool.and_eq_true] at h2
  obtain ⟨⟨⟨h3, h4'⟩, h4⟩, h5⟩ := h2
  cases hz : i.zero with
  | none => rw [hz] at h5; cases h5
  | some z =>
    rw [hz] at h5
    exact ⟨i, z, hu, hi, hz, hs, Nat.eq_of_beq_eq_true h3, Nat.eq_of_beq_eq_true h5, by simpa [Nat.blt_eq] using h4, by simpa [Nat.blt_eq] using h4'⟩

theorem apO {α : Type} {Y : Lay α} {T e by_ : Nat} (hT : apB P T e Y.sz by_ = true) {K L M : List (Nat × Obj)} (H : Hp w0 w (K ++ L ++ M) F) {v : Value} {es news : List α} (ho : Own Y v e es L) {s x : Operand} {X : Option Addr} {m c : Nat}
    (hs : ev ρ s = v) (hx : ev ρ x = .slice X m c) (hm : m = news.length) (hsrc : Src w X news.length Y.sz (Y.all news)) (hb : (es.length + news.length) * by_ ≤ 140737488355328) (hdn : Nat.blt d n = true)
    (h : ∀ A cp w' L', (es ++ news).length ≤ cp → cp ≤ maxLen → Own Y (.slice A (es ++ news).length cp) e (es ++ news) L' → Hp w0 w' (K ++ L' ++ M) F → LW P n ops rest Q (upd ρ d (.slice A (es ++ news).length cp)) w') :
    LW P n ops (O d (.call { callee := .builtin .append, args := #[s, x], argTypes := #[T, T] }) t p af :: rest) Q ρ w := by
  obtain ⟨i, z, h1, h2, h3, h4, h5, h6, h7, h8⟩ := ap_of hT
  subst hm
  have h63 : es.length + news.length ≤ maxLen := by
    have := Nat.le_mul_of_pos_right (es.length + news.length) h8
    simp only [maxLen]; omega
  obtain ⟨v', w', L', hr, ho', H'⟩ := run_app (ty := t) (c := c) h1 h2 h3 h4 h5 h6 h7 H ho hsrc (Lay.all_one news) hb h63
  have ho2 : Own Y v' e (es ++ news) L' := by
    unfold Own; rw [List.length_append, Lay.all_append]; exact ho'
  obtain ⟨A, cp, rfl, hc1, hc2⟩ := ho2.form
  refine lw_val rfl rfl hdn ?_ (h A cp w' L' hc1 hc2 ho2 H')
  simp [execOp, resolve, invoke, builtin, hs, hx, hr]
end
end Go.Eng
