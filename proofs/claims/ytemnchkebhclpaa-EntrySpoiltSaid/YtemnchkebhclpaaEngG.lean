/- EngG: a part of the proofs over this seat: what stands in its theorems holds for every input that they name. -/
import Derived.Test.YtemnchkebhclpaaEngF
namespace Go.Eng
open Go Go.RowKit
theorem wrapF {n : Int} (h1 : -9223372036854775808 ≤ n) (h2 : n ≤ 9223372036854775807) : IntKind.i64.wrap n = n := by
  simp [IntKind.wrap, IntKind.signed, IntKind.bits]
  omega
section
variable {P : Program} {w : World} {ρ : Env} {t : TypeId} {p : String} {af : Array Edge} {g : Option (Nat × Bool)} {dst : Option Nat}
theorem addF_r {x y : Operand} {ty ty' : TypeId} {a b : Int} (hx : ev ρ x = .int .i64 a) (hy : ev ρ y = .int .i64 b) (h1 : -9223372036854775808 ≤ a + b) (h2 : a + b ≤ 9223372036854775807) : (execOp (ev ρ) (Og dst (.binOp .add ty x y ty') t p af g)).run P w = .ok (.value (.int .i64 (a + b))) w := by
  simp [execOp, hx, hy, eqGuard, binOp, Op.intArith, wrapF h1 h2]
theorem negF_r {x : Operand} {ty : TypeId} {a : Int} (hx : ev ρ x = .int .i64 a) (h1 : -9223372036854775808 ≤ -a) (h2 : -a ≤ 9223372036854775807) : (execOp (ev ρ) (Og dst (.unOp .neg ty x) t p af g)).run P w = .ok (.value (.int .i64 (-a))) w := by
  simp [execOp, hx, Op.unary, Op.intArith, wrapF h1 h2]
end
end Go.Eng
