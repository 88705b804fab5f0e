/- EngJ: a part of the proofs over this seat: what stands in its theorems holds for every input that they name. -/
import Derived.Test.YtemnchkebhclpaaEngI
namespace Go.Eng
open Go Go.RowKit
/-- what a callee made, joined to what the caller has -/
theorem Hp.join {w0 w w' : World} {L L' : List (Nat × Obj)} {F : List Fact} (H : Hp w0 w L F) (H' : Hp w w' L' []) : Hp w0 w' (L' ++ L) F := by
  have h := H.later H'.below
  refine ⟨h.below, fun e he => ?_, ?_, fun f hf => ?_⟩
  · rcases List.mem_append.1 he with he | he
    · exact ⟨(H'.ents e he).1, Nat.le_trans H.size (H'.ents e he).2⟩
    · exact h.ents e he
  · rw [List.map_append]
    refine List.nodup_append.2 ⟨H'.nodup, h.nodup, fun a ha b hb => ?_⟩
    obtain ⟨e, he, rfl⟩ := List.mem_map.1 ha
    obtain ⟨e2, he2, rfl⟩ := List.mem_map.1 hb
    have h1 := (H'.ents e he).2
    have h2 := H.ltAll e2 he2
    omega
  · obtain ⟨h1, h2, h3⟩ := h.facts f hf
    refine ⟨h1, h2, fun e he => ?_⟩
    rcases List.mem_append.1 he with he | he
    · exact .inr (Nat.le_trans (H.facts f hf).2.1 (H'.ents e he).2)
    · exact h3 e he
section
variable {P : Program} {n : Nat} {Q : Post} {ρ : Env} {w : World} {ops : Array Oper} {rest : List Oper} {d : Nat} {t : TypeId} {p : String} {af : Array Edge} {g : Option (Nat × Bool)} {dst : Option Nat}
variable {w0 : World} {L : List (Nat × Obj)} {F : List Fact}
theorem bs0 (H : Hp w0 w L F) {T E sz : Nat} (hT : sliceB P T E sz = true) (hdn : Nat.blt d n = true)
    (h : ∀ w' b, Hp w0 w' ((b, .cells #[] E) :: L) F → LW P n ops rest Q (upd ρ d (.slice (some ⟨b, 0, none⟩) 0 0)) w') : LW P n ops (O d (.buildSlice T 0 #[]) t p af :: rest) Q ρ w := by
  obtain ⟨hu, q, h3, h4⟩ := slice_of hT
  refine lw_val rfl rfl hdn ?_ (h _ _ (H.alloc (.cells #[] E)))
  simp only [execOp, Instr.buildSlice, Sem.run_bind, run_underlying hu, Result.andThen_ok, run_size h3, Nat.zero_mul]
  have e0 : ∀ z : Array Value, (Array.range 0).map (fun i => z[i % z.size]!) = #[] := fun z => by simp
  have hm' : ¬ (0 > 2 ^ 24) := by decide
  have e1 : (Array.map (fun (x : Nat × Operand) => (x.fst, ev ρ x.snd)) #[]).toList = [] := by simp
  simp only [if_true, e0, if_neg hm', Sem.run_bind, Sem.run_pure, Result.andThen_ok, e1, Instr.fill, newRow, newObj]
  rfl
theorem slnil_r {x : Operand} {ty ty' : TypeId} {A : Option Addr} {l c : Nat} (hT : lenB P ty = true) (hx : ev ρ x = .slice A l c) : (execOp (ev ρ) (Og dst (.binOp .eql ty x (.const (.slice none 0 0)) ty') t p af g)).run P w = .ok (.value (.bool A.isNone)) w := by
  have e : ev ρ (.const (.slice none 0 0)) = .slice none 0 0 := rfl
  have key : (Op.equal ty (.slice A l c) (.slice none 0 0)).run P w = .ok A.isNone w := by
    unfold lenB at hT
    split at hT
    · rename_i q hu
      show (Op.equalIn (9999 + 1) ty _ _).run P w = _
      cases A <;> (unfold Op.equalIn; simp only [Sem.run_bind, run_underlying hu, Result.andThen_ok, Sem.run_pure]; try rfl)
    · cases hT
  simp only [execOp, e, hx, eqGuard, Sem.run_bind, Sem.run_pure]
  simp [binOp, key]
end
end Go.Eng
