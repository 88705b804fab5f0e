/- EngI: a part of the proofs over this seat: what stands in its theorems holds for every input that they name. -/
import Derived.Test.YtemnchkebhclpaaEngH
import Derived.Laws.Runes
namespace Go.Eng
open Go Go.RowKit
theorem wrap31 {n : Nat} (h : n < 2147483648) : IntKind.i32.wrap (n : Int) = n := by
  simp [IntKind.wrap, IntKind.signed, IntKind.bits]
  omega
section
variable {P : Program} {n : Nat} {Q : Post} {ρ : Env} {w : World} {ops : Array Oper} {rest : List Oper} {d : Nat} {t : TypeId} {p : String} {af : Array Edge} {g : Option (Nat × Bool)} {dst : Option Nat}
theorem enc_ascii {m : Nat} (h : m < 128) : Utf8.encode (m : Int) = ⟨#[UInt8.ofNat m]⟩ := by
  have hv : Utf8.valid (m : Int) = true := by simp [Utf8.valid]; omega
  have hc : m < 0x80 := h
  simp [Utf8.encode, hv, hc]
theorem cvIT_r {x : Operand} {S T : TypeId} {k : IntKind} {a : Int} {m : Nat} (hS : intB P S k = true) (hT : strB P T = true) (hx : ev ρ x = .int k a) (ha : a = m) (hm : m < 128) : (execOp (ev ρ) (Og dst (.convert S T x) t p af g)).run P w = .ok (.value (.string ⟨#[UInt8.ofNat m]⟩)) w := by
  have h1 : (P.underlying S).isSome = true := by
    unfold intB at hS
    split at hS
    · rename_i k hk; simp [hk]
    · cases hS
  have h2 : P.underlying T = some .string := by
    unfold strB at hT
    split at hT
    · assumption
    · cases hT
  subst ha
  have := run_convert_int_string (P := P) w S T k (m : Int) h1 h2
  rw [enc_ascii hm] at this
  simp [execOp, hx, this]
variable {C : Fct} {lo pu : List Nat} {spec : Nat → Value → Fct} {T : Env → Fct → Prop} {r : List Nat} {Fc : Fct} {i : Nat} {o : Oper}
/-- a call, in a region that draws, that yields one known value -/
theorem awCalV {u : Value} {f : FuncId} {xs : List Operand} {ats : Array TypeId} {vs : List Value} (hf : callB P f = true) (hi : ops[i]? = some (Og (some d) (.call { callee := .value (.func f), args := xs.toArray, argTypes := ats }) t p af g)) (hw : wantE ops ρ (Og (some d) (.call { callee := .value (.func f), args := xs.toArray, argTypes := ats }) t p af g) = true) (hl : lo.contains i = true) (hdn : Nat.blt d n = true)
    (hs : spec i = fun v _ => v = u) (hc : ∀ w', C w' → Ret P f vs w' fun v w2 => v = u ∧ Below w'.heap.size w' w2) (hv : xs.map (ev ρ) = vs)
    (h : AW P n ops C lo pu spec T r (upd ρ d u) (fun w => Fc w ∧ True)) : AW P n ops C lo pu spec T (i :: r) ρ Fc :=
  awCal hf hi hw hl hdn (fun w' hw' => (hc w' hw').mono fun v w2 ⟨h1, h2⟩ => ⟨h2, by rw [hs]; exact h1⟩) hv fun v ⟨w', _, hv'⟩ => by
    rw [hs] at hv' ⊢
    subst hv'
    simpa using h
/-- a new block, in a region that draws -/
theorem awAl {T' : TypeId} {z : Value} {lo' : Nat} (hz : (P.info? T').bind (·.zero) = some z) (hi : ops[i]? = some (Og (some d) (.alloc T') t p af g)) (hw : wantE ops ρ (Og (some d) (.alloc T') t p af g) = true) (hl : lo.contains i = true) (hdn : Nat.blt d n = true)
    (hs : spec i = (Sp.blk lo' z T').V) (hC : ∀ w', C w' → lo' ≤ w'.heap.size)
    (h : ∀ b, AW P n ops C lo pu spec T r (upd ρ d (.pointer (some ⟨b, 0, none⟩))) (fun w => Fc w ∧ (Sp.blk lo' z T').V (.pointer (some ⟨b, 0, none⟩)) w)) : AW P n ops C lo pu spec T (i :: r) ρ Fc :=
  awAlo hz hi hw hl hdn (fun w' w2 b hC' hb hh => by rw [hs]; exact ⟨b, rfl, Nat.le_trans (hC w' hC') hb, hh⟩) fun v ⟨w', _, hv'⟩ => by
    rw [hs] at hv' ⊢
    obtain ⟨b, rfl, _, _⟩ := hv'
    exact h b
end
section
variable {P : Program} {n : Nat} {Q : Post} {ρ : Env} {w : World} {ops : Array Oper} {rest : List Oper} {d : Nat} {t : TypeId} {p : String} {af : Array Edge}
variable {w0 : World} {L : List (Nat × Obj)} {F : List Fact}
/-- a store, what the block holds then being named -/
theorem stN (H : Hp w0 w L F) (i : Nat) (cs' : Array Value) {x y : Operand} {T : TypeId} {b o sz : Nat} {cs : Array Value} {tt : TypeId} {v : Value} (hT : (P.info? T).map (·.size) = some sz) (hx : ev ρ x = .pointer (some ⟨b, o, none⟩)) (hy : ev ρ y = v) (hi : L[i]? = some (b, .cells cs tt (0, 0)))
    (hs : v.cells.size = sz) (hf : Nat.ble (o + sz) cs.size = true) (h1 : v.cells.toList.all (·.oneCell') = true) (hc : lay cs o v.cells.toList = cs')
    (h : ∀ w', Hp w0 w' (L.set i (b, .cells cs' tt)) F → LW P n ops rest Q ρ w') : LW P n ops ({ dst := none, op := .store T x y, type := t, pos := p, after := af, guard := none } :: rest) Q ρ w :=
  stv H i hT hx hy hi hs (Nat.le_of_ble_eq_true hf) h1 fun w' h' => h w' (by rw [hc] at h'; exact h')
end
section
variable {P : Program} {ρ : Env} {w : World}
theorem finC {fn : Func} {R : Value → World → Prop} {a0 T0 sz0 b0 : Nat} {cs0 : Array Value} {tt0 : TypeId} {fr0 : Nat × Nat} (h : fn.results = #[.cell a0 T0]) (hT0 : aggB P T0 sz0 = true) (ha0 : ρ a0 = .pointer (some ⟨b0, 0, none⟩)) (hb0 : w.heap[b0]? = some (.cells cs0 tt0 fr0)) (hs0 : cs0.size = sz0) (hR : R (.agg cs0) w) : Fin P fn R .ret ρ w :=
  ⟨_, fun ac hac => by
    have hl0 := run_loadAgg (P := P) (w := w) (a := ⟨b0, 0, none⟩) (xs := cs0.toList) hT0 (by simpa using hs0) (fun j v hj => by rw [Addr.add_lit, Nat.zero_add]; exact cellE hb0 (by simpa using hj))
    have h10 := hac.get a0
    rw [ha0, Array.getD_eq_getD_getElem?] at h10
    simp [results, h, asAddr, h10, hl0], hR⟩
theorem finCTT {fn : Func} {R : Value → World → Prop} {a0 T0 sz0 b0 : Nat} {cs0 : Array Value} {tt0 : TypeId} {fr0 : Nat × Nat} {u1 : Nat} {v1 : Value} {u2 : Nat} {v2 : Value} (h : fn.results = #[.cell a0 T0, .tmp u1, .tmp u2]) (hT0 : aggB P T0 sz0 = true) (ha0 : ρ a0 = .pointer (some ⟨b0, 0, none⟩)) (hb0 : w.heap[b0]? = some (.cells cs0 tt0 fr0)) (hs0 : cs0.size = sz0) (hv1 : ρ u1 = v1) (hv2 : ρ u2 = v2) (hR : R (.tuple #[.agg cs0, v1, v2]) w) : Fin P fn R .ret ρ w :=
  ⟨_, fun ac hac => by
    have hl0 := run_loadAgg (P := P) (w := w) (a := ⟨b0, 0, none⟩) (xs := cs0.toList) hT0 (by simpa using hs0) (fun j v hj => by rw [Addr.add_lit, Nat.zero_add]; exact cellE hb0 (by simpa using hj))
    have h10 := hac.get a0
    rw [ha0, Array.getD_eq_getD_getElem?] at h10
    rw [← hv1, ← hac.get u1]
    rw [← hv2, ← hac.get u2]
    simp [results, h, asAddr, h10, hl0], hR⟩
theorem finCTTT {fn : Func} {R : Value → World → Prop} {a0 T0 sz0 b0 : Nat} {cs0 : Array Value} {tt0 : TypeId} {fr0 : Nat × Nat} {u1 : Nat} {v1 : Value} {u2 : Nat} {v2 : Value} {u3 : Nat} {v3 : Value} (h : fn.results = #[.cell a0 T0, .tmp u1, .tmp u2, .tmp u3]) (hT0 : aggB P T0 sz0 = true) (ha0 : ρ a0 = .pointer (some ⟨b0, 0, none⟩)) (hb0 : w.heap[b0]? = some (.cells cs0 tt0 fr0)) (hs0 : cs0.size = sz0) (hv1 : ρ u1 = v1) (hv2 : ρ u2 = v2) (hv3 : ρ u3 = v3) (hR : R (.tuple #[.agg cs0, v1, v2, v3]) w) : Fin P fn R .ret ρ w :=
  ⟨_, fun ac hac => by
    have hl0 := run_loadAgg (P := P) (w := w) (a := ⟨b0, 0, none⟩) (xs := cs0.toList) hT0 (by simpa using hs0) (fun j v hj => by rw [Addr.add_lit, Nat.zero_add]; exact cellE hb0 (by simpa using hj))
    have h10 := hac.get a0
    rw [ha0, Array.getD_eq_getD_getElem?] at h10
    rw [← hv1, ← hac.get u1]
    rw [← hv2, ← hac.get u2]
    rw [← hv3, ← hac.get u3]
    simp [results, h, asAddr, h10, hl0], hR⟩
theorem finTTCT {fn : Func} {R : Value → World → Prop} {u0 : Nat} {v0 : Value} {u1 : Nat} {v1 : Value} {a2 T2 sz2 b2 : Nat} {cs2 : Array Value} {tt2 : TypeId} {fr2 : Nat × Nat} {u3 : Nat} {v3 : Value} (h : fn.results = #[.tmp u0, .tmp u1, .cell a2 T2, .tmp u3]) (hv0 : ρ u0 = v0) (hv1 : ρ u1 = v1) (hT2 : aggB P T2 sz2 = true) (ha2 : ρ a2 = .pointer (some ⟨b2, 0, none⟩)) (hb2 : w.heap[b2]? = some (.cells cs2 tt2 fr2)) (hs2 : cs2.size = sz2) (hv3 : ρ u3 = v3) (hR : R (.tuple #[v0, v1, .agg cs2, v3]) w) : Fin P fn R .ret ρ w :=
  ⟨_, fun ac hac => by
    rw [← hv0, ← hac.get u0]
    rw [← hv1, ← hac.get u1]
    have hl2 := run_loadAgg (P := P) (w := w) (a := ⟨b2, 0, none⟩) (xs := cs2.toList) hT2 (by simpa using hs2) (fun j v hj => by rw [Addr.add_lit, Nat.zero_add]; exact cellE hb2 (by simpa using hj))
    have h12 := hac.get a2
    rw [ha2, Array.getD_eq_getD_getElem?] at h12
    rw [← hv3, ← hac.get u3]
    simp [results, h, asAddr, h12, hl2], hR⟩
end
theorem Hp.learnRd {α : Type} {Y : Lay α} {w0 w w' : World} {L : List (Nat × Obj)} {F : List Fact} {A : Option Addr} {es : List α} (H : Hp w0 w L F) (hb : Below w.heap.size w w') (hr : Rd Y w.heap.size w'.heap.size A es w') : Hp w0 w' L (FRd Y w.heap.size w'.heap.size A es :: F) :=
  H.learn hb _ hr (Nat.le_refl _) (Nat.le_refl _)
theorem Hp.startRd {α : Type} {Y : Lay α} {w : World} {A : Option Addr} {es : List α} (hr : Rd Y 0 w.heap.size A es w) : Hp w w [] [FRd Y 0 w.heap.size A es] := (Hp.start w).learnOld _ hr (Nat.le_refl _)
theorem Hp.rd0 {α : Type} {Y : Lay α} {w0 w : World} {L : List (Nat × Obj)} {F : List Fact} {lo hi : Nat} {A : Option Addr} {es : List α} (H : Hp w0 w L F) (i : Nat) (hF : F[i]? = some (FRd Y lo hi A es)) : Rd Y 0 w.heap.size A es w :=
  Rd.mono (H.fact hF) (Nat.zero_le _) (H.facts _ (List.mem_of_getElem? hF)).2.1
end Go.Eng
