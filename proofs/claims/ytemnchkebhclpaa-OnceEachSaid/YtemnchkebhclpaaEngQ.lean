/- EngQ: a part of the proofs over this seat: what stands in its theorems holds for every input that they name. -/
import Derived.Test.YtemnchkebhclpaaGB
namespace Go.Eng
open Go Go.RowKit
/-- a row of new memory within a call's value -/
def Sp.nrow {α : Type} (lo : Nat) (Y : Lay α) (es : List α) (gv : Option Addr → Nat → Value) : Sp := ⟨fun v w => ∃ A c, v = gv A c ∧ es.length ≤ c ∧ Rd Y lo w.heap.size A es w, fun _ _ _ hb ⟨A, c, h1, h2, h3⟩ => ⟨A, c, h1, h2, (h3.below hb).mono (Nat.le_refl _) hb.size⟩⟩
section
variable {P : Program} {n : Nat} {ρ : Env} {ops : Array Oper} {d : Nat} {t : TypeId} {p : String} {af : Array Edge} {g : Option (Nat × Bool)}
variable {C : Fct} {lo pu : List Nat} {spec : Nat → Value → Fct} {T : Env → Fct → Prop} {r : List Nat} {Fc : Fct} {i : Nat} {α : Type} {Y : Lay α}
theorem awNRow {es : List α} {lo' : Nat} {gv : Option Addr → Nat → Value} {f : FuncId} {xs : List Operand} {ats : Array TypeId} {vs : List Value} (hf : callB P f = true) (hi : ops[i]? = some (Og (some d) (.call { callee := .value (.func f), args := xs.toArray, argTypes := ats }) t p af g)) (hw : wantE ops ρ (Og (some d) (.call { callee := .value (.func f), args := xs.toArray, argTypes := ats }) t p af g) = true) (hl : lo.contains i = true) (hdn : Nat.blt d n = true)
    (hs : spec i = (Sp.nrow lo' Y es gv).V) (hC : ∀ w', C w' → lo' ≤ w'.heap.size) (hc : ∀ w', C w' → Ret P f vs w' fun v w2 => ∃ A c, v = gv A c ∧ es.length ≤ c ∧ Rd Y w'.heap.size w2.heap.size A es w2 ∧ Below w'.heap.size w' w2) (hv : xs.map (ev ρ) = vs)
    (h : ∀ A c, es.length ≤ c → AW P n ops C lo pu spec T r (upd ρ d (gv A c)) (fun w => Fc w ∧ (Sp.nrow lo' Y es gv).V (gv A c) w)) : AW P n ops C lo pu spec T (i :: r) ρ Fc :=
  awCal hf hi hw hl hdn (fun w' hw' => (hc w' hw').mono fun v w2 ⟨A, c, h1, h2, h3, h4⟩ => ⟨h4, by rw [hs]; exact ⟨A, c, h1, h2, h3.mono (hC w' hw') (Nat.le_refl _)⟩⟩) hv fun v ⟨w', _, hv'⟩ => by
    rw [hs] at hv' ⊢
    obtain ⟨A, c, rfl, h2, _⟩ := hv'
    exact h A c h2
end
/-- a row of new memory beside a new block that is not its own -/
theorem Hp.learnApart {α : Type} {Y : Lay α} {w0 w w' : World} {L : List (Nat × Obj)} {F F0 : List Fact} {b : Nat} {o : Obj} {A : Option Addr} {es : List α} (H0 : Hp w0 w L F0) (H : Hp w0 w' ((b, o) :: L) F) (hw : w.heap.size ≤ w'.heap.size) (hr : Rd Y w.heap.size w'.heap.size A es w')
    (hap : 0 < es.length → ∃ (j : Nat) (u : Value), (Y.all es)[j]? = some u ∧ ∀ k, w'.cell? ⟨b, k, none⟩ ≠ some u) : ∃ lo hi, w.heap.size ≤ lo ∧ Hp w0 w' ((b, o) :: L) (FRd Y lo hi A es :: F) := by
  by_cases h0 : 0 < es.length
  · obtain ⟨b', o', hA, h1, h2, hc⟩ := hr h0
    obtain ⟨j, u, hj, hu⟩ := hap h0
    have hne : b ≠ b' := fun e => hu _ (e ▸ hc j u hj)
    refine ⟨b', b' + 1, h1, H.below, H.ents, H.nodup, fun f hf => ?_⟩
    rcases List.mem_cons.1 hf with rfl | hf
    · refine ⟨fun _ => ⟨b', o', hA, Nat.le_refl _, Nat.lt_succ_self _, hc⟩, h2, fun e he => ?_⟩
      show e.1 < b' ∨ b' + 1 ≤ e.1
      rcases List.mem_cons.1 he with rfl | he
      · dsimp only; omega
      · have := H0.ltAll e he
        omega
    · exact H.facts f hf
  · refine ⟨w.heap.size, w.heap.size, Nat.le_refl _, H.below, H.ents, H.nodup, fun f hf => ?_⟩
    rcases List.mem_cons.1 hf with rfl | hf
    · refine ⟨fun h => absurd h h0, hw, fun e _ => ?_⟩
      show e.1 < w.heap.size ∨ w.heap.size ≤ e.1
      omega
    · exact H.facts f hf
theorem Hp.joinR {w0 w w' : World} {L L' : List (Nat × Obj)} {F : List Fact} (H : Hp w0 w L F) (H' : Hp w w' L' []) : Hp w0 w' (L ++ L' ++ []) F := by
  rw [List.append_nil]; exact (H.join H').perm List.perm_append_comm
theorem cell_in {w : World} {b k : Nat} {cs : Array Value} {T : TypeId} {fr : Nat × Nat} {u : Value} (h : w.heap[b]? = some (.cells cs T fr)) (hc : w.cell? ⟨b, k, none⟩ = some u) : u ∈ cs := by
  simp only [World.cell?, h] at hc
  simp at hc
  exact Array.mem_of_getElem? hc
end Go.Eng
