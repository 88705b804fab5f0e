/- Eng9: a part of the proofs over this seat: what stands in its theorems holds for every input that they name. -/
import Derived.Test.YtemnchkebhclpaaEng8
import Derived.Lib.AppendStr
import Derived.Laws.BytesArg
namespace Go.Eng
open Go Go.RowKit
theorem ofInt_nat (k : IntKind) (a : Nat) : BitVec.ofInt k.bits (a : Int) = BitVec.ofNat k.bits a := by
  apply BitVec.eq_of_toNat_eq
  simp
theorem wrapN {n : Nat} (h : n ≤ 9000000000000000000) : IntKind.i64.wrap (n : Int) = n := wrapI (by omega) (by omega)
theorem wrap8 {n : Nat} (h : n < 256) : IntKind.u8.wrap (n : Int) = n := by
  simp [IntKind.wrap, IntKind.signed, IntKind.bits]
  omega
theorem and_lt {a b m : Nat} (h : a < m) : a &&& b < m := Nat.lt_of_le_of_lt Nat.and_le_left h
section
variable {P : Program} {n : Nat} {Q : Post} {ρ : Env} {w : World} {ops : Array Oper} {rest : List Oper} {d : Nat} {t : TypeId} {p : String} {af : Array Edge} {g : Option (Nat × Bool)} {dst : Option Nat}
theorem and_r {x y : Operand} {ty ty' : TypeId} {a b : Nat} (hx : ev ρ x = .int .i64 a) (hy : ev ρ y = .int .i64 b) (ha : a < 4611686018427387904) (hb : b < 4611686018427387904) : (execOp (ev ρ) (Og dst (.binOp .and ty x y ty') t p af g)).run P w = .ok (.value (.int .i64 (a &&& b : Nat))) w := by
  have ea : a % 2 ^ IntKind.i64.bits = a := Nat.mod_eq_of_lt (Nat.lt_of_lt_of_le ha (by decide))
  have eb : b % 2 ^ IntKind.i64.bits = b := Nat.mod_eq_of_lt (Nat.lt_of_lt_of_le hb (by decide))
  have hlt : a &&& b < 4611686018427387904 := and_lt ha
  have ew : IntKind.i64.wrap ((a &&& b : Nat) : Int) = (a &&& b : Nat) := wrapN (by omega)
  simp only [execOp, hx, hy, eqGuard, binOp, Op.intBits, Sem.run_bind, Sem.run_pure]
  simp [ea, eb, ew]
theorem or_r {x y : Operand} {ty ty' : TypeId} {a b : Nat} (hx : ev ρ x = .int .i64 a) (hy : ev ρ y = .int .i64 b) (ha : a < 4611686018427387904) (hb : b < 4611686018427387904) : (execOp (ev ρ) (Og dst (.binOp .or ty x y ty') t p af g)).run P w = .ok (.value (.int .i64 (a ||| b : Nat))) w := by
  have ea : a % 2 ^ IntKind.i64.bits = a := Nat.mod_eq_of_lt (Nat.lt_of_lt_of_le ha (by decide))
  have eb : b % 2 ^ IntKind.i64.bits = b := Nat.mod_eq_of_lt (Nat.lt_of_lt_of_le hb (by decide))
  have hlt : a ||| b < 2 ^ 62 := Nat.or_lt_two_pow (by omega) (by omega)
  have ew : IntKind.i64.wrap ((a ||| b : Nat) : Int) = (a ||| b : Nat) := wrapN (by omega)
  simp only [execOp, hx, hy, eqGuard, binOp, Op.intBits, Sem.run_bind, Sem.run_pure]
  simp [ea, eb, ew]
theorem and8_r {x y : Operand} {ty ty' : TypeId} {a b : Nat} (hx : ev ρ x = .int .u8 a) (hy : ev ρ y = .int .u8 b) (ha : a < 256) (hb : b < 256) : (execOp (ev ρ) (Og dst (.binOp .and ty x y ty') t p af g)).run P w = .ok (.value (.int .u8 (a &&& b : Nat))) w := by
  have ea : a % 2 ^ IntKind.u8.bits = a := Nat.mod_eq_of_lt (Nat.lt_of_lt_of_le ha (by decide))
  have eb : b % 2 ^ IntKind.u8.bits = b := Nat.mod_eq_of_lt (Nat.lt_of_lt_of_le hb (by decide))
  
  have ew : IntKind.u8.wrap ((a &&& b : Nat) : Int) = (a &&& b : Nat) := wrap8 (and_lt ha)
  simp only [execOp, hx, hy, eqGuard, binOp, Op.intBits, Sem.run_bind, Sem.run_pure]
  simp [ea, eb, ew]
theorem shr_r {x y : Operand} {ty ty' : TypeId} {a b : Nat} {k : IntKind} (hx : ev ρ x = .int .i64 a) (hy : ev ρ y = .int k b) (hb : b ≤ 64) : (execOp (ev ρ) (Og dst (.binOp .shr ty x y ty') t p af g)).run P w = .ok (.value (.int .i64 (a / 2 ^ b : Nat))) w := by
  have e : (a : Int).fdiv (2 ^ b) = ((a / 2 ^ b : Nat) : Int) := by
    rw [Int.fdiv_eq_ediv_of_nonneg _ (Int.le_of_lt (Int.pow_pos (by decide)))]
    simp
  simp only [execOp, hx, hy, eqGuard, binOp, Op.shift, Sem.run_bind, Sem.run_pure]
  simp [e, Nat.min_eq_left (show b ≤ IntKind.i64.bits from hb)]
  intro h; omega
theorem shl_r {x y : Operand} {ty ty' : TypeId} {a b : Nat} {k : IntKind} (hx : ev ρ x = .int .i64 a) (hy : ev ρ y = .int k b) (hb : b ≤ 64) (hm : a * 2 ^ b ≤ 9000000000000000000) : (execOp (ev ρ) (Og dst (.binOp .shl ty x y ty') t p af g)).run P w = .ok (.value (.int .i64 (a * 2 ^ b : Nat))) w := by
  have e : IntKind.i64.wrap ((a : Int) * 2 ^ b) = ((a * 2 ^ b : Nat) : Int) := by
    have : (a : Int) * 2 ^ b = ((a * 2 ^ b : Nat) : Int) := by simp
    rw [this, wrapN hm]
  simp only [execOp, hx, hy, eqGuard, binOp, Op.shift, Sem.run_bind, Sem.run_pure]
  simp [Nat.min_eq_left (show b ≤ IntKind.i64.bits from hb), e]
  intro h; omega
/-- an operation of one value, in a region in its order -/
theorem l1 {o : Oper} {v : Value} (hr : (execOp (ev ρ) o).run P w = .ok (.value v) w) (hg : o.guard = none) (hd : o.dst = some d) (hdn : Nat.blt d n = true) (h : LW P n ops rest Q (upd ρ d v) w) : LW P n ops (o :: rest) Q ρ w := lw_val hg hd hdn hr h

variable {w0 : World} {F : List Fact}
/-- append(s, text...), s not nil -/
theorem apT {T U : TypeId} {e : TypeId} (hT : apB P T e 1 1 = true) (hU : strB P U = true) {Y : Lay UInt8} (hY : Y.sz = 1) (hYf : ∀ s : ByteArray, Y.all s.data.toList = Lib.strCells s) {K L M : List (Nat × Obj)} (H : Hp w0 w (K ++ L ++ M) F) {v : Value} {es : List UInt8} (ho : Own Y v e es L) (hne : es ≠ []) {s x : Operand} {tx : ByteArray}
    (hs : ev ρ s = v) (hx : ev ρ x = .string tx) (hb : es.length + tx.size ≤ 140737488355328) (hdn : Nat.blt d n = true)
    (h : ∀ A cp w' L', (es ++ tx.data.toList).length ≤ cp → cp ≤ maxLen → Own Y (.slice A (es ++ tx.data.toList).length cp) e (es ++ tx.data.toList) L' → Hp w0 w' (K ++ L' ++ M) F → LW P n ops rest Q (upd ρ d (.slice A (es ++ tx.data.toList).length cp)) w') :
    LW P n ops (O d (.call { callee := .builtin .append, args := #[s, x], argTypes := #[T, U] }) t p af :: rest) Q ρ w := by
  obtain ⟨i, z, h1, h2, h3, h4, h5, h6, h7, -⟩ := ap_of hT
  have hu : P.underlying U = some .string := by
    unfold strB at hU
    split at hU
    · assumption
    · cases hU
  have hsz : tx.data.toList.length = tx.size := by rw [Array.length_toList]; rfl
  have h63 : es.length + tx.size ≤ maxLen := by simp only [maxLen]; omega
  obtain ⟨hxl, ho'⟩ := ho
  rw [hY] at hxl
  have hlen : (es ++ tx.data.toList).length = es.length + tx.size := by rw [List.length_append, hsz]
  have hall : Y.all (es ++ tx.data.toList) = Y.all es ++ Lib.strCells tx := by rw [Lay.all_append, hYf]
  rcases ho' with ⟨_, hn, _⟩ | ⟨g, cap, cur, rfl, rfl, hnc, hcm, hcs, htake⟩
  · exact absurd (List.eq_nil_of_length_eq_zero hn) hne
  rw [hY] at hcs htake
  have hg : w.heap[g]? = some (.cells cur e (0, 0)) := H.ent (i := K.length) (by simp)
  have fin : ∀ A cp w' L', es.length + tx.size ≤ cp → cp ≤ maxLen → (Builtin.append_ #[T, U] t #[.slice (some ⟨g, 0, none⟩) es.length cap, .string tx]).run P w = .ok (.slice A (es.length + tx.size) cp) w' →
      OwnE (.slice A (es.length + tx.size) cp) e 1 (es.length + tx.size) (Y.all es ++ Lib.strCells tx) L' → Hp w0 w' (K ++ L' ++ M) F →
      LW P n ops (O d (.call { callee := .builtin .append, args := #[s, x], argTypes := #[T, U] }) t p af :: rest) Q ρ w := by
    intro A cp w' L' hc1 hc2 hr hOw hH
    refine lw_val rfl rfl hdn ?_ (h A cp w' L' (by rw [hlen]; exact hc1) hc2 (by unfold Own; rw [hlen, hall, hY]; exact hOw) hH)
    rw [hlen]
    simp [execOp, resolve, invoke, builtin, hs, hx, hr]
  have hcl : (Y.all es ++ Lib.strCells tx).length = (es.length + tx.size) * 1 := by rw [List.length_append, hxl, Lib.strCells_length]; omega
  by_cases hroom : es.length + tx.size ≤ cap
  · have hr := Lib.run_append_room_string (P := P) w T U t e i h1 hu h2 h4 g es.length cap cur hg tx hroom (by omega)
    have hH := H.put (i := K.length) (b := g) (o := .cells cur e) (by simp) (o' := .cells (cur.toList.take es.length ++ Lib.strCells tx ++ cur.toList.drop (es.length + tx.size)).toArray e) (w' := w.setRow g (cur.toList.take es.length ++ Lib.strCells tx ++ cur.toList.drop (es.length + tx.size)).toArray) (setRow_heap w g cur _ e _ hg) (by simp [World.setRow]) rfl rfl rfl (fun k hk => setRow_other w g k _ hk)
    refine fin _ _ _ [(g, .cells (cur.toList.take es.length ++ Lib.strCells tx ++ cur.toList.drop (es.length + tx.size)).toArray e (0, 0))] hroom hcm hr ⟨hcl, .inr ⟨g, cap, _, rfl, rfl, hroom, hcm, ?_, ?_⟩⟩ (by simpa using hH)
    · have := Lib.strCells_length tx
      simp only [List.size_toArray, List.length_append, List.length_take, List.length_drop, Array.length_toList]
      omega
    · rw [Nat.mul_one] at htake
      rw [htake, ← hcl]
      exact List.take_left
  · have holds : ∀ j u, (Y.all es)[j]? = some u → w.cell? ((⟨g, 0, none⟩ : Addr).add j) = some u := fun j u hj => by
      rw [Addr.add_lit, Nat.zero_add]
      refine cellE hg ?_
      rw [← htake, List.getElem?_take] at hj
      split at hj
      · simpa using hj
      · cases hj
    have hr := Lib.run_append_grow_string (P := P) w T U t e i z h1 hu h2 h3 ⟨g, 0, none⟩ es.length cap (Y.all es) (by rw [hxl, h4]) holds tx (by omega) (by omega) (growslice_fits (by omega) (by rw [h5]; omega))
    have hge := grownCap_ge w (es.length + tx.size) cap e
    refine fin _ _ _ _ hge (grownCap_le_maxLen w _ cap e h63) hr ⟨hcl, .inr ⟨_, _, _, rfl, rfl, hge, grownCap_le_maxLen w _ cap e h63, ?_, ?_⟩⟩ (H.dropIn.addIn ((Below.refl _ _).drew.alloc (Nat.le_refl _) _) (heap_alloc_new w.drew _) (Nat.le_refl _))
    · simp only [Array.size_append, List.size_toArray, size_zeroCells, h6, hxl, Lib.strCells_length]
      omega
    · simp only [Array.toList_append]
      rw [← hcl]
      exact List.take_left
end
end Go.Eng
