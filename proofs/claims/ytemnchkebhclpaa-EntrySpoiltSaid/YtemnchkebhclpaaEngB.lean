/- EngB: a part of the proofs over this seat: what stands in its theorems holds for every input that they name. -/
import Derived.Test.YtemnchkebhclpaaEngA
import Derived.Laws.StructEq
namespace Go.Eng
open Go Go.RowKit
theorem toList_inj {a b : ByteArray} : a.toList = b.toList ↔ a = b := by
  rw [ByteArray.toList_eq, ByteArray.toList_eq]
  obtain ⟨⟨x⟩⟩ := a
  obtain ⟨⟨y⟩⟩ := b
  simp
theorem toList_beq (a b : ByteArray) : (a.toList == b.toList) = decide (a = b) := by
  rw [Bool.eq_iff_iff]
  simp [toList_inj]
section
variable {P : Program} {n : Nat} {Q : Post} {ρ : Env} {w : World} {ops : Array Oper} {rest : List Oper} {d : Nat} {t : TypeId} {p : String} {af : Array Edge} {g : Option (Nat × Bool)} {dst : Option Nat}
theorem seql_r {x y : Operand} {ty ty' : TypeId} {a b : ByteArray} (hx : ev ρ x = .string a) (hy : ev ρ y = .string b) : (execOp (ev ρ) (Og dst (.binOp .eql ty x y ty') t p af g)).run P w = .ok (.value (.bool (decide (a = b)))) w := by
  simp [execOp, hx, hy, eqGuard, binOp, Op.stringOp, toList_beq]
theorem sneq_r {x y : Operand} {ty ty' : TypeId} {a b : ByteArray} (hx : ev ρ x = .string a) (hy : ev ρ y = .string b) : (execOp (ev ρ) (Og dst (.binOp .neq ty x y ty') t p af g)).run P w = .ok (.value (.bool (!decide (a = b)))) w := by
  simp [execOp, hx, hy, eqGuard, binOp, Op.stringOp, toList_beq]
theorem seqlT_r {x y : Operand} {ty ty' : TypeId} {a b : ByteArray} (hx : ev ρ x = .string a) (hy : ev ρ y = .string b) (h : a = b) : (execOp (ev ρ) (Og dst (.binOp .eql ty x y ty') t p af g)).run P w = .ok (.value (.bool true)) w := by rw [seql_r hx hy]; simp [h]
theorem seqlF_r {x y : Operand} {ty ty' : TypeId} {a b : ByteArray} (hx : ev ρ x = .string a) (hy : ev ρ y = .string b) (h : ¬ a = b) : (execOp (ev ρ) (Og dst (.binOp .eql ty x y ty') t p af g)).run P w = .ok (.value (.bool false)) w := by rw [seql_r hx hy]; simp [h]
theorem sneqT_r {x y : Operand} {ty ty' : TypeId} {a b : ByteArray} (hx : ev ρ x = .string a) (hy : ev ρ y = .string b) (h : ¬ a = b) : (execOp (ev ρ) (Og dst (.binOp .neq ty x y ty') t p af g)).run P w = .ok (.value (.bool true)) w := by rw [sneq_r hx hy]; simp [h]
theorem sneqF_r {x y : Operand} {ty ty' : TypeId} {a b : ByteArray} (hx : ev ρ x = .string a) (hy : ev ρ y = .string b) (h : a = b) : (execOp (ev ρ) (Og dst (.binOp .neq ty x y ty') t p af g)).run P w = .ok (.value (.bool false)) w := by rw [sneq_r hx hy]; simp [h]
end
end Go.Eng
