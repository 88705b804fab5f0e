/- EngE: a part of the proofs over this seat: what stands in its theorems holds for every input that they name. -/
import Derived.Test.YtemnchkebhclpaaEngD
namespace Go.Eng
open Go Go.RowKit
theorem Hp.adoptNew {w0 w w' : World} {L : List (Nat × Obj)} {F : List Fact} (H : Hp w0 w L F) (hw : Below w.heap.size w w') {b : Nat} {o : Obj} (hb : w'.heap[b]? = some o) (hge : w.heap.size ≤ b) : Hp w0 w' ((b, o) :: L) F := H.addIn (K := []) hw hb hge
section
variable {P : Program} {n : Nat} {Q : Post} {ρ : Env} {w : World} {ops : Array Oper} {rest : List Oper} {d : Nat} {t : TypeId} {p : String} {af : Array Edge} {g : Option (Nat × Bool)} {dst : Option Nat}
theorem ldW_r {x : Operand} {T sz b : Nat} {cs : Array Value} {tt : TypeId} {fr : Nat × Nat} (hT : aggB P T sz = true) (hx : ev ρ x = .pointer (some ⟨b, 0, none⟩)) (hb : w.heap[b]? = some (.cells cs tt fr)) (hs : cs.size = sz) : (execOp (ev ρ) (Og dst (.load T x) t p af g)).run P w = .ok (.value (.agg cs)) w := by
  have := ldA_r (P := P) (dst := dst) (t := t) (p := p) (af := af) (g := g) (w := w) (xs := cs.toList) hT hx (by simpa using hs) (fun j v hj => by rw [Nat.zero_add]; exact cellE hb (by simpa using hj))
  exact this
end
end Go.Eng
