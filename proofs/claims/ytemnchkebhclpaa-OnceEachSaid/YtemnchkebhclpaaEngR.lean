/- EngR: a part of the proofs over this seat: what stands in its theorems holds for every input that they name. -/
import Derived.Test.YtemnchkebhclpaaEngQ
import Derived.Deep.OwnRows
namespace Go.Eng
open Go Go.RowKit
section
variable {P : Program} {n : Nat} {Q : Post} {ρ : Env} {w : World} {ops : Array Oper} {rest : List Oper} {d : Nat} {t : TypeId} {p : String} {af : Array Edge}
variable {w0 : World} {L : List (Nat × Obj)} {F : List Fact}
/-- make([]T, m), T of one cell -/
theorem mks (H : Hp w0 w L F) {T E bytes m : Nat} {z : Value} {kx ky : IntKind} {x y : Operand} (hT : sliceB P T E 1 = true) (hI : (P.info? E).map (fun i => (i.zero, i.size, i.bytes)) = some (some z, 1, bytes)) (hz1 : z.cells = #[z])
    (hx : ev ρ x = .int kx (m : Nat)) (hy : ev ρ y = .int ky (m : Nat)) (hb : bytes * m ≤ 281474976710656) (h63 : m ≤ 9223372036854775807) (hdn : Nat.blt d n = true)
    (h : ∀ w' b, Hp w0 w' ((b, .cells (List.replicate m z).toArray E) :: L) F → LW P n ops rest Q (upd ρ d (.slice (some ⟨b, 0, none⟩) m m)) w') : LW P n ops (O d (.makeSlice T x y) t p af :: rest) Q ρ w := by
  obtain ⟨hu, -, -⟩ := slice_of hT
  have hm : madeCells #[z] m = (List.replicate m z).toArray := by
    apply Array.ext
    · simp [madeCells]
    · intro i h1 h2
      simp [madeCells, Nat.mod_one]
  refine lw_val rfl rfl hdn ?_ (h _ _ (H.alloc (.cells (List.replicate m z).toArray E)))
  have := run_make_row' (P := P) T E z bytes hu hI hz1 kx ky m hb h63 w
  rw [hm] at this
  simp only [execOp, hx, hy, Sem.run_bind, this]
  rfl
end
/-- a block of the call's own that is not written any more: a row to be read -/
theorem Hp.seal {α : Type} {Y : Lay α} {w0 w : World} {L : List (Nat × Obj)} {F : List Fact} {b : Nat} {cs : Array Value} {T : TypeId} {fr : Nat × Nat} {es : List α} (H : Hp w0 w ((b, .cells cs T fr) :: L) F) (hc : cs.toList = Y.all es) : Hp w0 w L (FRd Y b (b + 1) (some ⟨b, 0, none⟩) es :: F) := by
  have hb := (H.ents _ (List.mem_cons_self ..)).1
  refine ⟨H.below, fun e he => H.ents e (List.mem_cons_of_mem _ he), (List.nodup_cons.1 H.nodup).2, fun f hf => ?_⟩
  rcases List.mem_cons.1 hf with rfl | hf
  · refine ⟨fun _ => ⟨b, 0, rfl, Nat.le_refl _, Nat.lt_succ_self _, fun j u hj => ?_⟩, lt_of_heap hb, fun e he => ?_⟩
    · rw [Nat.zero_add]
      rw [← hc] at hj
      exact cellE hb (by simpa using hj)
    · show e.1 < b ∨ b + 1 ≤ e.1
      have hne : e.1 ≠ b := fun h => (List.nodup_cons.1 H.nodup).1 (by
        show b ∈ _
        exact h ▸ List.mem_map_of_mem he)
      omega
  · obtain ⟨h1, h2, h3⟩ := H.facts f hf
    exact ⟨h1, h2, fun e he => h3 e (List.mem_cons_of_mem _ he)⟩
end Go.Eng
