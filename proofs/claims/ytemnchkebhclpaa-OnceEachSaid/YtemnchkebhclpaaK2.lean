/- K2: a part of the proofs over this seat: what stands in its theorems holds for every input that they name. -/
import Derived.Test.YtemnchkebhclpaaGU
import Derived.Test.YtemnchkebhclpaaGE
namespace Go.Proofs.Ytemnchkebhclpaa
open Go Go.Eng Go.RowKit
open Go.Maps (Keyed)
set_option linter.unusedSimpArgs false
theorem und3 : Try.prog.underlying 3 = some (.int .i64) := by kernel_rfl
theorem und54 : Try.prog.underlying 54 = some (.array 2 3) := by kernel_rfl
theorem und53 : Try.prog.underlying 53 = some (.map 3 3) := by kernel_rfl
theorem und52 : Try.prog.underlying 52 = some (.map 54 3) := by kernel_rfl
theorem kta54 : Try.prog.keyTypeAt 2 54 = true := by kernel_rfl
theorem til54 : Try.prog.tiled 2 54 = true := by kernel_rfl
theorem kty54 : Try.prog.keyType 54 = true := by kernel_rfl
theorem cel54 : Try.prog.cellsOf 54 = 2 := by kernel_rfl
theorem cel3 : Try.prog.cellsOf 3 = 1 := by kernel_rfl
theorem typs : Try.prog.types.size = (Try.prog.types.size - 1) + 1 := by kernel_rfl
theorem agg_54 : aggB Try.prog 54 2 = true := by kernel_rfl
theorem siz_54 : (Try.prog.info? 54).map (·.size) = some 2 := by kernel_rfl
theorem z_54 : (Try.prog.info? 54).bind (·.zero) = some (.agg #[.int .i64 0, .int .i64 0]) := by kernel_rfl
theorem K3 : Keyed Try.prog 3 := Maps.int_keyed und3
theorem K54 : Keyed Try.prog 54 := Maps.Keyed.of_law (deep_law (m := 2) (by decide) kta54 til54 (by rw [und54]))
theorem wfI {a : Int} (h1 : 0 ≤ a) (h2 : a ≤ 1073741824) : (Lit.int .i64 a).wf = true := by
  have e1 : IntKind.min .i64 = -9223372036854775808 := by decide
  have e2 : IntKind.max .i64 = 9223372036854775807 := by decide
  simp only [Lit.wf, e1, e2]
  simp; omega
theorem key3 {a : Int} (h1 : 0 ≤ a) (h2 : a ≤ 1073741824) : keyOf Try.prog 3 (.int .i64 a) = some (.int .i64 a) := Maps.keyOf_int_mk und3 (wfI h1 h2)
def kvP (k : Int × Int) : Value := .agg #[.int .i64 k.1, .int .i64 k.2]
theorem kvP_inj (a b : Int × Int) (h : kvP a = kvP b) : a = b := by
  unfold kvP at h
  simp at h
  exact Prod.ext h.1 h.2
theorem key54 {a b : Int} (h1 : 0 ≤ a) (h2 : a ≤ 1073741824) (h3 : 0 ≤ b) (h4 : b ≤ 1073741824) : keyOf Try.prog 54 (kvP (a, b)) = some (.string (keyBytes [.int .i64 a, .int .i64 b])) := by
  have hl : ∀ m, Try.prog.keyLits (m + 1 + 1) 54 [.int .i64 a, .int .i64 b] = some [.int .i64 a, .int .i64 b] := fun m => by
    unfold Program.keyLits
    rw [und54]
    simp [cel54, cel3, Program.keyLits, und3, wfI h1 h2, wfI h3 h4, List.range_succ]
  unfold keyOf
  rw [und54]
  dsimp only
  rw [typs, show (kvP (a, b)).cells.toList = [.int .i64 a, .int .i64 b] from rfl, hl]
  simp [kty54, Value.formed, kvP, und54, cel54]
end Go.Proofs.Ytemnchkebhclpaa
