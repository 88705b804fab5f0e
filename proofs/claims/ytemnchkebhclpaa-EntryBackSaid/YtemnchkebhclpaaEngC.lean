/- EngC: a part of the proofs over this seat: what stands in its theorems holds for every input that they name. -/
import Derived.Test.YtemnchkebhclpaaEngB
namespace Go.Eng
open Go Go.RowKit
theorem Hp.perm {w0 w : World} {L L' : List (Nat × Obj)} {F : List Fact} (H : Hp w0 w L F) (hp : L'.Perm L) : Hp w0 w L' F :=
  ⟨H.below, fun e he => H.ents e (hp.mem_iff.1 he), (hp.map _).nodup_iff.2 H.nodup, fun f hf => by
    obtain ⟨a, b, c⟩ := H.facts f hf
    exact ⟨a, b, fun e he => c e (hp.mem_iff.1 he)⟩⟩
theorem Hp.swap {w0 w : World} {a b : Nat × Obj} {L : List (Nat × Obj)} {F : List Fact} (H : Hp w0 w (a :: b :: L) F) : Hp w0 w (b :: a :: L) F := H.perm (List.Perm.swap _ _ _)
/-- the own row is given away: it is read only from here on -/
theorem Own.rd' {α : Type} {Y : Lay α} {e : TypeId} {es : List α} {L K M : List (Nat × Obj)} {w0 w : World} {F : List Fact} {A : Option Addr} {n c : Nat} (h : Own Y (.slice A n c) e es L) (H : Hp w0 w (K ++ L ++ M) F) : Rd Y w0.heap.size w.heap.size A es w := h.rd H
end Go.Eng
