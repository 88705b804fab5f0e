/- W1: a part of the proofs over this seat: what stands in its theorems holds for every input that they name. -/
import Derived.Test.YtemnchkebhclpaaDat
namespace Go.Proofs.Ytemnchkebhclpaa
open Go Go.Eng Go.RowKit

def sumGo : Nat → Nat → List UInt8 → Nat
  | _, n, [] => n
  | i, n, c :: l => sumGo (i + 1) ((n + (i + 1) * c.toNat) % 65521) l
def sumB (l : List UInt8) : Nat := sumGo 0 0 l
theorem sumGo_lt : ∀ (l : List UInt8) (i n : Nat), n < 65521 → sumGo i n l < 65521
  | [], _, _, h => h
  | _ :: l, i, _, _ => sumGo_lt l (i + 1) _ (Nat.mod_lt _ (by decide))
theorem sumB_lt (l : List UInt8) : sumB l < 65521 := sumGo_lt l 0 0 (by decide)

theorem sum_ok (l : List UInt8) (A : Option Addr) (c : Nat) (w : World) (hr : Rd byteL 0 w.heap.size A l w) (hb : l.length ≤ 1000000000000000) :
    Ret Try.prog i_wire_sum [.slice A l.length c] w fun v w2 => v = .int .i64 (sumB l : Nat) ∧ Below w.heap.size w w2 := by
  refine ret_of fn_wire_sum rfl rfl ?_
  have H := Hp.start w
  refine cw_seq ?_
  refine cw_region ?_ -- region 0
  refine asI rfl rfl ?_  -- 2 wire.go:35
  refine lw_nil ?_
  refine cw_seq ?_
  refine cw_region ?_ -- region 1
  refine asI rfl rfl ?_  -- 3 wire.go:36
  refine lw_nil ?_
  refine cw_seq ?_
  refine cw_seq ?_
  refine cw_region ?_ -- region 2
  refine mvS rfl rfl ?_  -- 6 wire.go:37
  refine lenS len_Lbyte rfl rfl ?_  -- 7 wire.go:37
  refine mvI rfl rfl ?_  -- 8 wire.go:37
  refine lw_nil ?_
  refine cw_block ?_ -- block 0
  refine cw_loop (τ := Nat × Nat) [3, 4, 5, 8, 9, 10, 11, 12, 13, 14, 15, 16, 17, 18, 19, 20, 21] (fun x => [(3, .int .i64 x.1), (8, .int .i64 x.2)]) (fun x w' => x.1 < 65521 ∧ x.2 ≤ l.length ∧ Hp w w' [] [] ∧ sumGo x.2 x.1 (l.drop x.2) = sumB l) (fun x => l.length - x.2) (0, 0) ⟨by decide, by simp, H, rfl⟩ (sl2 rfl rfl) ?_ -- LOOP
  rintro ⟨m, k⟩ ρ1 w1 ⟨hm, hk, H, hs⟩
  show CW _ _ _ _ (updL (ovr _ _ ρ1) [(3, .int .i64 (m : Nat)), (8, .int .i64 (k : Nat))]) w1
  refine cw_seq ?_
  refine cw_region ?_ -- region 3
  refine lssS rfl rfl rfl (fun h9 => ?_) (fun h9 => ?_)  -- 9 wire.go:37
  all_goals refine lw_nil ?_
  all_goals refine cw_seq ?_
  · refine cw_true rfl ?_
    refine cw_skip ?_
    have hkl : k < l.length := by omega
    obtain ⟨b, o, rfl, -, hbl, hcl⟩ := hr.at_ hkl
    have hd : l.drop k = l[k] :: l.drop (k + 1) := List.drop_eq_getElem_cons hkl
    have h256 : l[k].toNat < 256 := UInt8.toNat_lt _
    generalize hc : l[k] = x at *
    have hmul : (k + 1) * x.toNat ≤ (k + 1) * 256 := Nat.mul_le_mul_left _ (by omega)
    have hmul2 : ((k : Int) + 1) * (x.toNat : Int) = (((k + 1) * x.toNat : Nat) : Int) := by simp
    refine cw_seq ?_
    refine cw_block ?_ -- block 1
    refine cw_seq ?_
    refine cw_region ?_ -- region 4
    refine mvI rfl rfl ?_  -- 10 wire.go:37
    refine ixa sl_Lbyte rfl rfl (by omega) (by omega) rfl ?_  -- 11 wire.go:37
    refine ld one_byte rfl ((H.below.cell (p := ⟨b, _, none⟩) hbl).trans (hcl 0 _ rfl)) rfl ?_  -- 12 wire.go:37
    refine asI rfl rfl ?_  -- 4 wire.go:37
    refine asI rfl rfl ?_  -- 5 wire.go:37
    refine lw_nil ?_
    refine cw_region ?_ -- region 5
    refine mvI rfl rfl ?_  -- 13 wire.go:38
    refine mvI rfl rfl ?_  -- 14 wire.go:38
    refine add rfl rfl (by omega) (by omega) rfl ?_  -- 15 wire.go:38
    refine mvI rfl rfl ?_  -- 16 wire.go:38
    refine cvI int_byte int_int rfl (wrapN (by omega)) rfl ?_  -- 17 wire.go:38
    refine mul rfl rfl (by omega) (by omega) rfl ?_  -- 18 wire.go:38
    refine add rfl rfl (by omega) (by omega) rfl ?_  -- 19 wire.go:38
    refine rem rfl rfl (by omega) (by omega) rfl ?_  -- 20 wire.go:38
    refine asI rfl rfl ?_  -- 3 wire.go:38
    refine lw_nil ?_
    refine cw_region ?_ -- region 6
    refine add rfl rfl (by omega) (by omega) rfl ?_  -- 21 wire.go:37
    refine mvI rfl rfl ?_  -- 8 wire.go:37
    refine lw_nil ?_
    refine ⟨((m + (k + 1) * x.toNat) % 65521, k + 1), ⟨Nat.mod_lt _ (by decide), by omega, H, ?_⟩, ?_, by repeat (first | exact agr_ovr | refine agr_upd rfl ?_ | refine agr_updL _ rfl ?_), by show l.length - (k + 1) < l.length - k; omega⟩
    · rw [← hs, hd, sumGo]
    · intro p hp
      simp only [List.mem_cons, List.mem_nil_iff, or_false] at hp
      rcases hp with rfl | rfl
      · show Value.int .i64 _ = Value.int .i64 _
        congr 1
      · rfl
  · refine cw_false rfl ?_
    refine cw_exit ?_ -- 0
    have hkl : k = l.length := by omega
    subst hkl
    simp only [List.drop_length, sumGo] at hs
    subst hs
    refine cw_seq ?_
    refine cw_region ?_ -- region 7
    refine mvI rfl rfl ?_  -- 22 wire.go:40
    refine asI rfl rfl ?_  -- 2 wire.go:40
    refine lw_nil ?_
    refine cw_ret ?_
    exact fin1 rfl rfl ⟨rfl, H.below⟩
end Go.Proofs.Ytemnchkebhclpaa
