/- EngZ: a part of the proofs over this seat: what stands in its theorems holds for every input that they name. -/
import Derived.Test.YtemnchkebhclpaaGE
namespace Go.Eng
open Go Go.RowKit
section
variable {P : Program} {n : Nat} {Q : Post} {ρ : Env} {w : World} {ops : Array Oper} {rest : List Oper} {d : Nat} {t : TypeId} {p : String} {af : Array Edge} {g : Option (Nat × Bool)} {dst : Option Nat} {op : Op}
/-! short names of what is said most often -/
theorem Zl {v : Value} (hr : (execOp (ev ρ) (O d op t p af)).run P w = .ok (.value v) w) (h : LW P n ops rest Q (upd ρ d v) w) (hdn : Nat.blt d n = true := by rfl) : LW P n ops (O d op t p af :: rest) Q ρ w := lw_val rfl rfl hdn hr h
theorem ZG {o : Oper} (h : LW P n ops ({ o with guard := none } :: rest) Q ρ w) (hw : wantE ops ρ o = true := by rfl) : LW P n ops (o :: rest) Q ρ w := lwG hw h
theorem ZN (h : LW P n ops rest Q (upd ρ d undef) w) (hw : wantE ops ρ (Og (some d) op t p af g) = false := by rfl) (hdn : Nat.blt d n = true := by rfl) : LW P n ops (Og (some d) op t p af g :: rest) Q ρ w := lwN hw rfl hdn h
theorem Zd {w0 : World} {L : List (Nat × Obj)} {F : List Fact} {x : Operand} {T b o : Nat} {v : Value} {cs : Array Value} {tt : TypeId} {fr : Nat × Nat} (hT : oneB P T = true) (H : Hp w0 w L F) (i : Nat) (hx : ev ρ x = .pointer (some ⟨b, o, none⟩)) (hi : L[i]? = some (b, .cells cs tt fr)) (hc : cs[o]? = some v) : (execOp (ev ρ) (Og dst (.load T x) t p af g)).run P w = .ok (.value v) w :=
  ld_r hT hx (cellE (H.ent hi) hc)
theorem Zw {w0 : World} {L : List (Nat × Obj)} {F : List Fact} {x : Operand} {T sz b : Nat} {cs : Array Value} {tt : TypeId} {fr : Nat × Nat} (hT : aggB P T sz = true) (H : Hp w0 w L F) (i : Nat) (hx : ev ρ x = .pointer (some ⟨b, 0, none⟩)) (hi : L[i]? = some (b, .cells cs tt fr)) (hs : cs.size = sz) : (execOp (ev ρ) (Og dst (.load T x) t p af g)).run P w = .ok (.value (.agg cs)) w :=
  ldW_r hT hx (H.ent hi) hs
end
end Go.Eng
