/- W10: a part of the proofs over this seat: what stands in its theorems holds for every input that they name. -/
import Derived.Test.YtemnchkebhclpaaW9
import Derived.Test.YtemnchkebhclpaaEngF
namespace Go.Proofs.Ytemnchkebhclpaa
open Go Go.Eng Go.RowKit
theorem ent_struct : Try.prog.underlying T_Entry = some (.struct (Try.prog.fieldsOf T_Entry)) := by kernel_rfl
theorem ent_stood : Try.prog.stoodInHeld T_Entry = false := by kernel_rfl
theorem ent_guard : Try.prog.eqGuardType Try.prog.depth T_Entry = false := by kernel_rfl
theorem ent_cmp (e f : Ent) : cmpB Try.prog 0 (Try.prog.fieldsOf T_Entry).toList e.c f.c = true := by kernel_rfl
theorem ent_inj (e f : Ent) : decide (e = f) = true ↔ e.c = f.c := by
  rw [decide_eq_true_iff]
  obtain ⟨_, _, _, _, _, _, _⟩ := e
  obtain ⟨_, _, _, _, _, _, _⟩ := f
  simp [Ent.c]
end Go.Proofs.Ytemnchkebhclpaa
