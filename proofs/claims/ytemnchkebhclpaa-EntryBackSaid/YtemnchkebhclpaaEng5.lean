/- Eng5: a part of the proofs over this seat: what stands in its theorems holds for every input that they name. -/
import Derived.Test.YtemnchkebhclpaaEng4
namespace Go.Eng
open Go Go.RowKit

/-- the slice value v of n elements of type e (sz cells each) is the call's own: its row is all of L, or there is none -/
def OwnE (v : Value) (e sz n : Nat) (xs : List Value) (L : List (Nat × Obj)) : Prop :=
  xs.length = n * sz ∧ ((L = [] ∧ n = 0 ∧ ∃ A, v = .slice A 0 0) ∨
    ∃ g cap cur, L = [(g, .cells cur e (0, 0))] ∧ v = .slice (some ⟨g, 0, none⟩) n cap ∧ n ≤ cap ∧ cap ≤ maxLen ∧ cur.size = cap * sz ∧ cur.toList.take (n * sz) = xs)
theorem OwnE.nil (e sz : Nat) : OwnE (.slice none 0 0) e sz 0 [] [] := ⟨by simp, .inl ⟨rfl, rfl, none, rfl⟩⟩
theorem OwnE.lit {e sz : Nat} {g n : Nat} {cur : Array Value} (hn : n ≤ maxLen) (hs : cur.size = n * sz) : OwnE (.slice (some ⟨g, 0, none⟩) n n) e sz n cur.toList [(g, .cells cur e (0, 0))] :=
  ⟨by simpa using hs, .inr ⟨g, n, cur, rfl, rfl, Nat.le_refl _, hn, hs, by rw [List.take_of_length_le (by simp [hs])]⟩⟩
/-- the cells news of m elements lie at X -/
def Src (w : World) (X : Option Addr) (m sz : Nat) (news : List Value) : Prop :=
  news.length = m * sz ∧ (0 < m → ∃ ad, X = some ad ∧ ∀ j u, news[j]? = some u → w.cell? (ad.add j) = some u)
theorem Src.row {w : World} {b : Nat} {cs : Array Value} {T : TypeId} {fr : Nat × Nat} {m sz : Nat} (h : w.heap[b]? = some (.cells cs T fr)) (hs : cs.size = m * sz) : Src w (some ⟨b, 0, none⟩) m sz cs.toList :=
  ⟨by simpa using hs, fun _ => ⟨_, rfl, fun j u hj => by rw [Addr.add_lit, Nat.zero_add]; exact cellE h (by simpa using hj)⟩⟩

theorem Hp.addIn {w0 w w' : World} {F : List Fact} {K M : List (Nat × Obj)} {g : Nat} {o : Obj} (H : Hp w0 w (K ++ M) F) (hb : Below w.heap.size w w') (hg : w'.heap[g]? = some o) (hge : w.heap.size ≤ g) : Hp w0 w' (K ++ [(g, o)] ++ M) F := by
  have h := H.later hb
  have h1 := h.adopt hg (Nat.le_trans H.size hge) (fun e he => by have := H.ltAll e he; omega) (fun f hf => .inr (by have := (H.facts f hf).2.1; omega))
  have hp' : List.Perm (K ++ [(g, o)] ++ M) ((g, o) :: (K ++ M)) := by
    simp only [List.append_assoc, List.singleton_append]
    exact List.perm_middle
  refine ⟨h1.below, fun e he => h1.ents e (hp'.mem_iff.1 he), (hp'.map _).nodup_iff.2 h1.nodup, fun f hf => ?_⟩
  obtain ⟨a, b, c⟩ := h1.facts f hf
  exact ⟨a, b, fun e he => c e (hp'.mem_iff.1 he)⟩
theorem Hp.dropIn {w0 w : World} {F : List Fact} {K M N : List (Nat × Obj)} (H : Hp w0 w (K ++ N ++ M) F) : Hp w0 w (K ++ M) F :=
  H.forget (by simp) (fun _ h => h)

section
variable {P : Program} {w0 w : World} {F : List Fact}
theorem run_app {T ty e sz by_ : Nat} {i : TypeInfo} {z : Value} (ht : P.underlying T = some (.slice e)) (hi : P.info? e = some i) (hz : i.zero = some z) (hsz : i.size = sz) (hby : i.bytes = by_) (hzs : z.cells.size = sz) (hpos : 0 < sz)
    {K L M : List (Nat × Obj)} (H : Hp w0 w (K ++ L ++ M) F) {v : Value} {n : Nat} {xs : List Value} (ho : OwnE v e sz n xs L) {X : Option Addr} {m c : Nat} {news : List Value} (hs : Src w X m sz news) (h1 : ∀ u ∈ news, u.oneCell' = true)
    (hb : (n + m) * by_ ≤ 140737488355328) (h63 : n + m ≤ maxLen) :
    ∃ v' w' L', (Builtin.append_ #[T, T] ty #[v, .slice X m c]).run P w = .ok v' w' ∧ OwnE v' e sz (n + m) (xs ++ news) L' ∧ Hp w0 w' (K ++ L' ++ M) F := by
  subst hsz hby
  obtain ⟨hx, ho⟩ := ho
  obtain ⟨hl, hc⟩ := hs
  have hlen : (xs ++ news).length = (n + m) * i.size := by rw [List.length_append, hx, hl, Nat.add_mul]
  have hsmall : n + m ≤ 9223372036854775807 := by simp only [maxLen] at h63; omega
  have big : ∀ (b : Addr) (cap : Nat), n ≤ cap → cap < n + m → (∀ j u, xs[j]? = some u → w.cell? (b.add j) = some u) → v = .slice (some b) n cap →
      ∃ v' w' L', (Builtin.append_ #[T, T] ty #[v, .slice X m c]).run P w = .ok v' w' ∧ OwnE v' e i.size (n + m) (xs ++ news) L' ∧ Hp w0 w' (K ++ L' ++ M) F := by
    intro b cap hn hg holds hv
    obtain ⟨ad, rfl, hnews⟩ := hc (by omega)
    subst hv
    have hr := run_append_grow (P := P) w T ty e i z ht hi hz b n cap xs hx holds ad m c news hl hnews hg (by omega) (growslice_fits hg hb)
    have hge := grownCap_ge w (n + m) cap e
    refine ⟨_, _, _, hr, ⟨hlen, .inr ⟨_, _, _, rfl, rfl, hge, grownCap_le_maxLen w (n + m) cap e h63, ?_, ?_⟩⟩, H.dropIn.addIn ((Below.refl _ _).drew.alloc (Nat.le_refl _) _) (heap_alloc_new w.drew _) (Nat.le_refl _)⟩
    · simp only [Array.size_append, List.size_toArray, size_zeroCells, hzs, hx, hl, ← Nat.add_mul]
      congr 1
      omega
    · simp only [Array.toList_append, List.append_assoc]
      rw [← List.append_assoc, ← hlen]
      exact List.take_left
  rcases ho with ⟨rfl, rfl, A, rfl⟩ | ⟨g, cap, cur, rfl, rfl, hnc, hcm, hcs, htake⟩
  · have hx0 : xs = [] := List.eq_nil_of_length_eq_zero (by simpa using hx)
    subst hx0
    by_cases hm : m = 0
    · subst hm
      have hn : news = [] := List.eq_nil_of_length_eq_zero (by simpa using hl)
      subst hn
      refine ⟨.slice A 0 0, w, [], ?_, ⟨by simp, .inl ⟨rfl, rfl, A, rfl⟩⟩, H⟩
      cases A <;> cases X <;> simp [Builtin.append_, run_underlying ht, Go.sizeOf, typeInfo, hi, Builtin.lenOf, Builtin.firstCells, loadCells, loadCellsFrom, storeCells]
    · cases A with
      | some b => exact big b 0 (Nat.le_refl _) (by omega) (by simp) rfl
      | none =>
        obtain ⟨ad, rfl, hnews⟩ := hc (by omega)
        have hr := run_append_nil (P := P) w T ty e i z ht hi hz ad m c news hl hnews (by omega) (by omega) (by simp only [Nat.zero_add] at hb; omega)
        have hge := grownCap_ge w m 0 e
        refine ⟨_, _, _, hr, ⟨hlen, .inr ⟨_, _, _, rfl, by simp, by omega, grownCap_le_maxLen w m 0 e (by omega), ?_, ?_⟩⟩, H.dropIn.addIn ((Below.refl _ _).drew.alloc (Nat.le_refl _) _) (heap_alloc_new w.drew _) (Nat.le_refl _)⟩
        · simp only [Array.size_append, List.size_toArray, size_zeroCells, hzs, hl, ← Nat.add_mul]
          congr 1
          omega
        · simp only [Array.toList_append, List.nil_append, Nat.zero_add]
          rw [← hl]
          exact List.take_left
  · have hg : w.heap[g]? = some (.cells cur e (0, 0)) := H.ent (i := K.length) (by simp)
    by_cases hroom : n + m ≤ cap
    · by_cases hm : m = 0
      · subst hm
        have hn : news = [] := List.eq_nil_of_length_eq_zero (by simpa using hl)
        subst hn
        refine ⟨_, w, _, ?_, ⟨hlen, .inr ⟨g, cap, cur, rfl, rfl, hnc, hcm, hcs, by simpa using htake⟩⟩, H⟩
        cases X <;> simp [Builtin.append_, run_underlying ht, Go.sizeOf, typeInfo, hi, Builtin.lenOf, Builtin.firstCells, loadCells, loadCellsFrom, storeCells, hnc]
      · obtain ⟨ad, rfl, hnews⟩ := hc (by omega)
        have hfit : n * i.size + news.length ≤ cur.size := by rw [hl, hcs, ← Nat.add_mul]; exact Nat.mul_le_mul_right _ hroom
        have hr := run_append_room (P := P) w T ty e i ht hi g n cap cur hg ad m c news hl hnews h1 hroom hfit
        have hH := H.put (i := K.length) (b := g) (o := .cells cur e) (by simp) (o' := .cells (cur.toList.take (n * i.size) ++ news ++ cur.toList.drop (n * i.size + news.length)).toArray e) (w' := w.setRow g (cur.toList.take (n * i.size) ++ news ++ cur.toList.drop (n * i.size + news.length)).toArray) (setRow_heap w g cur _ e _ hg) (by simp [World.setRow]) rfl rfl rfl (fun k hk => setRow_other w g k _ hk)
        refine ⟨_, _, [(g, .cells (cur.toList.take (n * i.size) ++ news ++ cur.toList.drop (n * i.size + news.length)).toArray e (0, 0))], hr, ⟨hlen, .inr ⟨g, cap, _, rfl, rfl, hroom, hcm, ?_, ?_⟩⟩, by simpa using hH⟩
        · simp only [List.size_toArray, List.length_append, List.length_take, List.length_drop, Array.length_toList]
          omega
        · rw [htake, ← hlen]
          exact List.take_left
    · exact big ⟨g, 0, none⟩ cap hnc (by omega) (fun j u hj => by
        rw [Addr.add_lit, Nat.zero_add]
        refine cellE hg ?_
        rw [← htake] at hj
        rw [List.getElem?_take] at hj
        split at hj
        · simpa using hj
        · cases hj) rfl
end
end Go.Eng
