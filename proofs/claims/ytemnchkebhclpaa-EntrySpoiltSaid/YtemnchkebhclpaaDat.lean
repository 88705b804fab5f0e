/- Dat: a part of the proofs over this seat: what stands in its theorems holds for every input that they name. -/
import Derived.Test.YtemnchkebhclpaaTy
namespace Go.Proofs.Ytemnchkebhclpaa
open Go Go.Eng Go.RowKit

structure Ent where
  epoch : Int
  pid : Int
  ver : Int
  seq : Int
  kind : Int
  txn : Bool
  text : ByteArray
  deriving DecidableEq

def Ent.c (e : Ent) : List Value := [.int .i64 e.epoch, .int .i64 e.pid, .int .i64 e.ver, .int .i64 e.seq, .int .i64 e.kind, .bool e.txn, .string e.text]
abbrev Ent.v (e : Ent) : Value := .agg e.c.toArray
def entL : Lay Ent := ⟨Ent.c, 7, fun _ => rfl, by decide, fun a u hu => by
  simp only [Ent.c, List.mem_cons, List.mem_nil_iff, or_false] at hu
  rcases hu with h | h | h | h | h | h | h <;> subst h <;> rfl⟩
def intL : Lay Int := ⟨fun n => [.int .i64 n], 1, fun _ => rfl, by decide, fun a u hu => by
  simp only [List.mem_cons, List.mem_nil_iff, or_false] at hu
  subst hu; rfl⟩
def byteL : Lay UInt8 := ⟨fun n => [.int .u8 n.toNat], 1, fun _ => rfl, by decide, fun a u hu => by
  simp only [List.mem_cons, List.mem_nil_iff, or_false] at hu
  subst hu; rfl⟩
def strL : Lay ByteArray := ⟨fun s => [.string s], 1, fun _ => rfl, by decide, fun a u hu => by
  simp only [List.mem_cons, List.mem_nil_iff, or_false] at hu
  subst hu; rfl⟩
end Go.Proofs.Ytemnchkebhclpaa
