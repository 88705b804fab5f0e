/- EngD: a part of the proofs over this seat: what stands in its theorems holds for every input that they name. -/
import Derived.Test.YtemnchkebhclpaaEngC
namespace Go.Eng
open Go Go.RowKit
def structB (P : Program) (T : TypeId) (pl : List (Nat × Nat)) : Bool := match P.underlying T with
  | some (.struct fs) => decide (fs.toList.map (fun f => (f.offset, (P.info? f.type).map (·.size))) = pl.map fun q => (q.1, some q.2))
  | _ => false
theorem struct_places {P : Program} : ∀ (l : List Field) (pl : List (Nat × Nat)) (w : World), l.map (fun f => (f.offset, (P.info? f.type).map (·.size))) = pl.map (fun q => (q.1, some q.2)) →
    (l.mapM (fun f => Prod.mk f.offset <$> sizeOf f.type)).run P w = .ok pl w
  | [], [], w, _ => by simp
  | [], _ :: _, _, h => by simp at h
  | _ :: _, [], _, h => by simp at h
  | f :: l, q :: pl, w, h => by
    simp only [List.map_cons, List.cons.injEq, Prod.mk.injEq] at h
    obtain ⟨⟨h1, h2⟩, h3⟩ := h
    cases hi : P.info? f.type with
    | none => rw [hi] at h2; cases h2
    | some i =>
      rw [hi] at h2
      simp only [Option.map_some, Option.some.injEq] at h2
      have := struct_places l pl w h3
      simp [run_size hi, h1, h2, this]
section
variable {P : Program} {n : Nat} {Q : Post} {ρ : Env} {w : World} {ops : Array Oper} {rest : List Oper} {d : Nat} {t : TypeId} {p : String} {af : Array Edge} {g : Option (Nat × Bool)} {dst : Option Nat}
theorem bld_r {T : TypeId} {pl : List (Nat × Nat)} {z : Value} {parts : List (Nat × Operand)} {cs : Array Value} (hT : structB P T pl = true) (hz : (P.info? T).bind (·.zero) = some z)
    (hf : Instr.fill (fun i => pl[i]?) z.cells (parts.map fun q => (q.1, ev ρ q.2)) = some cs) : (execOp (ev ρ) (Og dst (.build T parts.toArray) t p af g)).run P w = .ok (.value (.agg cs)) w := by
  unfold structB at hT
  split at hT
  · rename_i fs hu
    have hp := struct_places (P := P) fs.toList pl w (of_decide_eq_true hT)
    cases hii : P.info? T with
    | none => rw [hii] at hz; cases hz
    | some ii =>
      rw [hii] at hz
      simp only [Option.bind_some] at hz
      simp [execOp, Instr.build, run_underlying hu, run_typeInfo hii, zeroValue, hz, Array.mapM_eq_mapM_toList, hp, hf]
  · cases hT
/-- the bytes of a row as a string -/
theorem cvBT_r {x : Operand} {S T e : TypeId} {A : Option Addr} {l : List UInt8} {m c : Nat} {lo hi : Nat} {Y : Lay UInt8} (hS : sliceB P S e 1 = true) (he : intB P e .u8 = true) (hT : strB P T = true) (hx : ev ρ x = .slice A m c) (hm : m = l.length) (hY : ∀ c : UInt8, Y.f c = [.int .u8 c.toNat]) (hr : Rd Y lo hi A l w) :
    (execOp (ev ρ) (Og dst (.convert S T x) t p af g)).run P w = .ok (.value (.string ⟨l.toArray⟩)) w := by
  obtain ⟨hS1, -, -⟩ := slice_of hS
  have he1 : P.underlying e = some (.int .u8) := by
    unfold intB at he
    split at he
    · rename_i k hk; rw [hk, of_decide_eq_true he]
    · cases he
  have hT1 : P.underlying T = some .string := by
    unfold strB at hT
    split at hT
    · assumption
    · cases hT
  subst hm
  have hall : ∀ l, Y.all l = (l.map fun c => Value.int .u8 c.toNat) := fun l => by
    unfold Lay.all
    induction l with
    | nil => rfl
    | cons a l ih =>
      rw [List.flatMap_cons, hY, ih]
      rfl
  have key : (convert S T (.slice A l.length c)).run P w = .ok (.string ⟨l.toArray⟩) w := by
    cases A with
    | none =>
      have : l = [] := by
        cases l with
        | nil => rfl
        | cons a l => obtain ⟨b, o, h, _⟩ := hr (by simp); cases h
      subst this
      exact run_convert_bytes_nil w S e hS1 he1 _ _ T hT1
    | some a =>
      have hl : (loadCells a l.length).run P w = .ok ((l.map fun c => (c.toNat : Int)).map (Value.int .u8)).toArray w := by
        have := run_loadCells_list (P := P) w a (l.map fun c => Value.int .u8 c.toNat) (fun j v hj => by
          have hjl : j < l.length := by
            have := (List.getElem?_eq_some_iff.1 hj).1
            simpa using this
          obtain ⟨b, o, h, _, _, hc⟩ := hr (by omega)
          cases h
          rw [Addr.add_lit]
          exact hc j v (by rw [hall]; exact hj))
        rw [List.length_map] at this
        rw [this]
        simp
      rw [run_convert_bytes_string w S T e _ l.length c hS1 he1 hT1, run_bytesToString w a l.length c _ hl, foldl_push_bytes]
      have e : l.map ((fun n : Int => UInt8.ofNat n.toNat) ∘ fun c : UInt8 => (c.toNat : Int)) = l := by simp [Function.comp_def]
      simp [ByteArray.empty, ByteArray.emptyWithCapacity, e]
      rfl
  simp [execOp, hx, key]
theorem finCT {fn : Func} {R : Value → World → Prop} {a u T sz b : Nat} {cs : Array Value} {tt : TypeId} {fr : Nat × Nat} {v2 : Value} (h : fn.results = #[.cell a T, .tmp u]) (hT : aggB P T sz = true) (ha : ρ a = .pointer (some ⟨b, 0, none⟩)) (hb : w.heap[b]? = some (.cells cs tt fr)) (hs : cs.size = sz) (hv2 : ρ u = v2) (hR : R (.tuple #[.agg cs, v2]) w) : Fin P fn R .ret ρ w :=
  ⟨_, fun ac hac => by
    have hl := run_loadAgg (P := P) (w := w) (a := ⟨b, 0, none⟩) (xs := cs.toList) hT (by simpa using hs) (fun j v hj => by rw [Addr.add_lit, Nat.zero_add]; exact cellE hb (by simpa using hj))
    have h1 := hac.get a
    rw [ha, Array.getD_eq_getD_getElem?] at h1
    rw [← hv2, ← hac.get u]
    simp [results, h, h1, asAddr, hl], hR⟩
end
end Go.Eng
