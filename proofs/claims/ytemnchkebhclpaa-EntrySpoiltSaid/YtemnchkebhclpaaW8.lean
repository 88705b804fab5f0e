/- W8: a part of the proofs over this seat: what stands in its theorems holds for every input that they name. -/
import Derived.Test.YtemnchkebhclpaaW7
namespace Go.Proofs.Ytemnchkebhclpaa
open Go Go.Eng Go.RowKit

def Good (e : Ent) : Prop := entCheck e = 0
def flat (es : List Ent) : List UInt8 := es.flatMap encB

theorem u8nat (n : Nat) (h : n < 256) : (UInt8.ofNat n).toNat = n := by simp [Nat.mod_eq_of_lt h]
theorem u8of (c : UInt8) (n : Nat) (h : c.toNat = n) : UInt8.ofNat n = c := by subst h; simp

theorem rn_num : ∀ (k n i m : Nat) (rest : List UInt8), n < 128 ^ k → i + k ≤ 5 → (0 < k ) → (n ≠ 0 ∨ i = 0) → rn i m (num n ++ rest) = (m + n * 2 ^ (7 * i), rest, false)
  | 0, _, _, _, _, _, _, h0, _ => absurd h0 (by decide)
  | k + 1, n, i, m, rest, hn, hi, _, hz => by
    by_cases h : n ≤ 127
    · rw [num_small h]
      simp only [List.cons_append, List.nil_append, rn]
      rw [if_neg (by omega), u8nat n (by omega), if_pos (by omega), Nat.mod_eq_of_lt (by omega)]
      have : (decide (n = 0) && decide (0 < i)) = false := by
        rcases hz with h | h
        · simp [h]
        · simp [h]
      rw [this]
    · rw [num_big (by omega)]
      simp only [List.cons_append, rn]
      have hm : n % 128 < 128 := Nat.mod_lt _ (by decide)
      rw [if_neg (by omega), u8nat _ (by omega), if_neg (by omega)]
      have hk : k ≠ 0 := by rintro rfl; simp at hn; omega
      rw [rn_num k (n / 128) (i + 1) _ rest (by rw [Nat.pow_succ] at hn; exact Nat.div_lt_of_lt_mul (by omega)) (by omega) (by omega) (.inl (by omega))]
      congr 1
      have e1 : (n % 128 + 128) % 128 = n % 128 := by omega
      have e2 : 2 ^ (7 * (i + 1)) = 128 * 2 ^ (7 * i) := by rw [Nat.mul_add, Nat.pow_add]; omega
      rw [e1, e2]
      have e3 : n / 128 * (128 * 2 ^ (7 * i)) = (n / 128 * 128) * 2 ^ (7 * i) := (Nat.mul_assoc _ _ _).symm
      rw [e3, Nat.add_assoc, ← Nat.add_mul]
      congr 2
      omega
theorem rnB_num {n : Nat} (hn : n ≤ 1073741824) (rest : List UInt8) : rnB (num n ++ rest) false = (n, rest, false) := by
  unfold rnB
  rw [if_neg (by decide), rn_num 5 n 0 0 rest (by omega) (by omega) (by omega) (.inr rfl)]
  simp
theorem rn_inv : ∀ (l : List UInt8) (i m n : Nat) (l' : List UInt8), rn i m l = (n, l', false) → ∃ q, n = m + q * 2 ^ (7 * i) ∧ l = num q ++ l' ∧ (q ≠ 0 ∨ i = 0)
  | [], i, m, n, l', h => by simp [rn] at h
  | c :: l, i, m, n, l', h => by
    rw [rn] at h
    split at h
    · simp at h
    have hc : c.toNat < 256 := UInt8.toNat_lt _
    split at h
    · rename_i h128
      simp only [Prod.mk.injEq] at h
      obtain ⟨h1, h2, h3⟩ := h
      rw [Nat.mod_eq_of_lt h128] at h1
      refine ⟨c.toNat, h1.symm, ?_, ?_⟩
      · rw [num_small (by omega), u8of c _ rfl, h2]; rfl
      · simp at h3; omega
    · rename_i h128
      obtain ⟨q, h1, h2, h3⟩ := rn_inv l (i + 1) _ n l' h
      have hq : q ≠ 0 := by omega
      have e2 : 2 ^ (7 * (i + 1)) = 128 * 2 ^ (7 * i) := by rw [Nat.mul_add, Nat.pow_add]; omega
      refine ⟨c.toNat % 128 + q * 128, ?_, ?_, .inl (by omega)⟩
      · rw [h1, e2, Nat.add_mul, Nat.mul_assoc, Nat.add_assoc]
      · have d1 : (c.toNat % 128 + q * 128) / 128 = q := by omega
        have d2 : (c.toNat % 128 + q * 128) % 128 = c.toNat % 128 := by omega
        rw [num_big (by omega), d1, d2, u8of c _ (by omega), h2]
        rfl
theorem rnB_inv {l l' : List UInt8} {b : Bool} {n : Nat} (h : rnB l b = (n, l', false)) : b = false ∧ l = num n ++ l' := by
  unfold rnB at h
  cases b with
  | true => simp at h
  | false =>
    rw [if_neg (by decide)] at h
    obtain ⟨q, h1, h2, -⟩ := rn_inv l 0 0 n l' h
    have : n = q := by simpa using h1
    subst this
    exact ⟨rfl, h2⟩

theorem kind_split : ∀ c : Nat, c < 32 → (c &&& 15) + (if (!decide (((c &&& 16 : Nat) : Int) = 0)) = true then 16 else 0) = c := by decide
theorem kind_join : ∀ k : Nat, k < 4 → ∀ t : Bool, let c := k + if t then 16 else 0; c < 32 ∧ (c &&& 15) = k ∧ (!decide (((c &&& 16 : Nat) : Int) = 0)) = t := by decide

theorem body_inv {c : UInt8} {x : List UInt8} (h : bodyOk c x = true) : Good (bodyE c x).1 ∧ bodyB (bodyE c x).1 = c :: x := by
  unfold bodyOk at h
  simp only [Bool.and_eq_true, Bool.not_eq_true', decide_eq_true_eq] at h
  obtain ⟨⟨h1, h2⟩, h3⟩ := h
  refine ⟨h3, ?_⟩
  unfold bodyE at h1 ⊢
  simp only at h1 ⊢
  generalize hq1 : rnB x false = q1 at *
  obtain ⟨n1, l1, x1⟩ := q1
  dsimp only at *
  generalize hq2 : rnB l1 x1 = q2 at *
  obtain ⟨n2, l2, x2⟩ := q2
  dsimp only at *
  generalize hq3 : rnB l2 x2 = q3 at *
  obtain ⟨n3, l3, x3⟩ := q3
  dsimp only at *
  generalize hq4 : rnB l3 x3 = q4 at *
  obtain ⟨n4, l4, x4⟩ := q4
  dsimp only at *
  subst h1
  obtain ⟨rfl, r4⟩ := rnB_inv hq4
  obtain ⟨rfl, r3⟩ := rnB_inv hq3
  obtain ⟨rfl, r2⟩ := rnB_inv hq2
  obtain ⟨-, r1⟩ := rnB_inv hq1
  have hk := kind_split c.toNat h2
  have e1 : kindB ⟨(n1 : Nat), (n2 : Nat), (n3 : Nat), (n4 : Nat), (c.toNat &&& 15 : Nat), !decide (((c.toNat &&& 16 : Nat) : Int) = 0), ⟨l4.toArray⟩⟩ = c := by
    unfold kindB
    exact u8of c _ (by simp only [Int.toNat_natCast]; exact hk.symm)
  unfold bodyB
  rw [e1]
  simp [numsB, Ent.nums, r1, r2, r3, r4]
theorem body_enc {e : Ent} (h : Good e) : ∃ c x, bodyB e = c :: x ∧ bodyOk c x = true ∧ (bodyE c x).1 = e := by
  obtain ⟨h1, h2, h3, h4, -⟩ := entCheck_ok h
  refine ⟨kindB e, numsB e.nums ++ e.text.data.toList, rfl, ?_⟩
  obtain ⟨ep, pid, ver, seq, kind, txn, text⟩ := e
  simp only [Ent.nums, List.mem_cons, List.mem_nil_iff, or_false, forall_eq_or_imp, forall_eq] at h3
  dsimp only at h1 h2
  obtain ⟨a1, a2, a3, a4⟩ := h3
  obtain ⟨n1, rfl⟩ : ∃ n : Nat, ep = n := ⟨ep.toNat, by omega⟩
  obtain ⟨n2, rfl⟩ : ∃ n : Nat, pid = n := ⟨pid.toNat, by omega⟩
  obtain ⟨n3, rfl⟩ : ∃ n : Nat, ver = n := ⟨ver.toNat, by omega⟩
  obtain ⟨n4, rfl⟩ : ∃ n : Nat, seq = n := ⟨seq.toNat, by omega⟩
  obtain ⟨k, rfl⟩ : ∃ n : Nat, kind = n := ⟨kind.toNat, by omega⟩
  have hb : numsB (Ent.nums ⟨(n1 : Nat), (n2 : Nat), (n3 : Nat), (n4 : Nat), (k : Nat), txn, text⟩) ++ text.data.toList = num n1 ++ (num n2 ++ (num n3 ++ (num n4 ++ text.data.toList))) := by
    simp [numsB, Ent.nums]
  obtain ⟨j1, j2, j3⟩ := kind_join k (by omega) txn
  have hkb : (kindB ⟨(n1 : Nat), (n2 : Nat), (n3 : Nat), (n4 : Nat), (k : Nat), txn, text⟩).toNat = k + if txn then 16 else 0 := by
    unfold kindB
    exact u8nat _ (by simp only [Int.toNat_natCast]; exact Nat.lt_trans j1 (by decide))
  have hE : bodyE (kindB ⟨(n1 : Nat), (n2 : Nat), (n3 : Nat), (n4 : Nat), (k : Nat), txn, text⟩) (num n1 ++ (num n2 ++ (num n3 ++ (num n4 ++ text.data.toList)))) = (⟨(n1 : Nat), (n2 : Nat), (n3 : Nat), (n4 : Nat), (k : Nat), txn, text⟩, false) := by
    unfold bodyE
    simp only [rnB_num (show n1 ≤ 1073741824 by omega), rnB_num (show n2 ≤ 1073741824 by omega), rnB_num (show n3 ≤ 1073741824 by omega), rnB_num (show n4 ≤ 1073741824 by omega), hkb, j2, j3]
  dsimp only
  rw [hb]
  refine ⟨?_, by rw [hE]⟩
  unfold bodyOk
  rw [hE, hkb]
  simp [j1, show entCheck _ = 0 from h]

theorem encB_len (e : Ent) : (encB e).length = (bodyB e).length + 3 := by simp [encB]
theorem step_enc {e : Ent} (h : Good e) (rest : List UInt8) : step (encB e ++ rest) = some (e, (encB e).length) := by
  obtain ⟨hl, h0⟩ := bodyB_len h
  have hs := sumB_lt (bodyB e)
  obtain ⟨c, x, h1, h2, h3⟩ := body_enc h
  have e1 : encB e ++ rest = UInt8.ofNat (bodyB e).length :: (bodyB e ++ (UInt8.ofNat (sumB (bodyB e) / 256) :: UInt8.ofNat (sumB (bodyB e) % 256) :: rest)) := by simp [encB]
  rw [e1, step, u8nat _ (by omega), if_neg (by simp only [List.length_append, List.length_cons]; omega)]
  have t1 : (bodyB e ++ (UInt8.ofNat (sumB (bodyB e) / 256) :: UInt8.ofNat (sumB (bodyB e) % 256) :: rest)).take (bodyB e).length = bodyB e := List.take_left
  have t2 : (bodyB e ++ (UInt8.ofNat (sumB (bodyB e) / 256) :: UInt8.ofNat (sumB (bodyB e) % 256) :: rest)).getD (bodyB e).length 0 = UInt8.ofNat (sumB (bodyB e) / 256) := by
    rw [List.getD_eq_getElem?_getD, List.getElem?_append_right (Nat.le_refl _), Nat.sub_self]; rfl
  have t3 : (bodyB e ++ (UInt8.ofNat (sumB (bodyB e) / 256) :: UInt8.ofNat (sumB (bodyB e) % 256) :: rest)).getD ((bodyB e).length + 1) 0 = UInt8.ofNat (sumB (bodyB e) % 256) := by
    rw [List.getD_eq_getElem?_getD, List.getElem?_append_right (by omega), Nat.add_sub_cancel_left]; rfl
  rw [t1, t2, t3, u8nat _ (by omega), u8nat _ (by omega), if_neg (fun h => h (Nat.div_add_mod' _ _).symm)]
  have t4 : (bodyB e ++ (UInt8.ofNat (sumB (bodyB e) / 256) :: UInt8.ofNat (sumB (bodyB e) % 256) :: rest)).headD 0 = c := by rw [h1]; rfl
  rw [t4, encB_len]
  rw [h1]
  simp [h2, h3]
theorem step_inv {l : List UInt8} {e : Ent} {k : Nat} (h : step l = some (e, k)) : Good e ∧ l.take k = encB e ∧ k = (encB e).length := by
  cases l with
  | nil => cases h
  | cons n r =>
    simp only [step] at h
    split at h; · cases h
    rename_i hn
    split at h; · cases h
    rename_i hs
    split at h
    · rename_i hb
      injection h with h
      injection h with h1 h2
      have hn0 : n.toNat ≠ 0 := fun h => hn (.inl h)
      have hlen : n.toNat + 2 ≤ r.length := by omega
      have hX : r.take n.toNat = r.headD 0 :: (r.take n.toNat).tail := by
        cases r with
        | nil => simp at hlen
        | cons a r =>
          obtain ⟨m, hm⟩ : ∃ m, n.toNat = m + 1 := ⟨n.toNat - 1, by omega⟩
          rw [hm]; rfl
      obtain ⟨hg, hbB⟩ := body_inv hb
      rw [← hX, h1] at hbB
      rw [h1] at hg
      have hbl : (bodyB e).length = n.toNat := by rw [hbB, List.length_take]; omega
      have hlt := sumB_lt (bodyB e)
      rw [← hbB] at hs
      have hsum : sumB (bodyB e) = (r.getD n.toNat 0).toNat * 256 + (r.getD (n.toNat + 1) 0).toNat := by simpa using hs
      have b1 : (r.getD n.toNat 0).toNat < 256 := UInt8.toNat_lt _
      have b2 : (r.getD (n.toNat + 1) 0).toNat < 256 := UInt8.toNat_lt _
      have g1 : UInt8.ofNat (sumB (bodyB e) / 256) = r.getD n.toNat 0 := u8of _ _ (by omega)
      have g2 : UInt8.ofNat (sumB (bodyB e) % 256) = r.getD (n.toNat + 1) 0 := u8of _ _ (by omega)
      refine ⟨hg, ?_, ?_⟩
      · unfold encB
        rw [hbl, g1, g2, u8of n _ rfl, hbB, ← h2]
        simp only [List.take_succ_cons, List.cons_append]
        congr 1
        have := List.take_add_one (l := r) (i := n.toNat + 1)
        rw [this, List.take_add_one]
        rw [List.getD_eq_getElem?_getD, List.getD_eq_getElem?_getD, List.getElem?_eq_getElem (show n.toNat < r.length by omega), List.getElem?_eq_getElem (show n.toNat + 1 < r.length by omega)]
        simp only [Option.toList, Option.getD_some, List.append_assoc, List.cons_append, List.nil_append]
      · rw [encB_len, hbl, ← h2]
    · cases h

theorem dec_enc : ∀ (es : List Ent) (rest : List UInt8), (∀ e ∈ es, Good e) → step rest = none → Dec (flat es ++ rest) es (flat es).length
  | [], rest, _, h => .stop h
  | e :: es, rest, hg, h => by
    have h1 := step_enc (hg e (List.mem_cons_self ..)) (flat es ++ rest)
    have h2 := dec_enc es rest (fun x hx => hg x (List.mem_cons_of_mem _ hx)) h
    have e1 : flat (e :: es) ++ rest = encB e ++ (flat es ++ rest) := by simp [flat]
    have e2 : (flat (e :: es)).length = (encB e).length + (flat es).length := by simp [flat]
    rw [e1, e2]
    exact .go h1 (by rw [List.drop_left]; exact h2)
theorem dec_inv {l : List UInt8} {es : List Ent} {n : Nat} (h : Dec l es n) : l.take n = flat es ∧ n = (flat es).length ∧ n ≤ l.length ∧ (∀ e ∈ es, Good e) ∧ step (l.drop n) = none := by
  induction h with
  | stop h => exact ⟨rfl, rfl, Nat.zero_le _, by simp, h⟩
  | @go l e k n es h hd ih =>
    obtain ⟨i1, i2, i3, i4, i5⟩ := ih
    obtain ⟨h1, h2, h3⟩ := step_inv h
    obtain ⟨h4, h5⟩ := step_le h
    refine ⟨?_, ?_, ?_, ?_, ?_⟩
    · rw [List.take_add, h2, i1]; rfl
    · rw [h3, i2]; simp [flat]
    · rw [List.length_drop] at i3; omega
    · intro x hx
      rcases List.mem_cons.1 hx with rfl | hx
      · exact h1
      · exact i4 x hx
    · rw [List.drop_drop] at i5; exact i5
theorem dec_fun {l : List UInt8} {es es' : List Ent} {n n' : Nat} (h : Dec l es n) (h' : Dec l es' n') : es = es' ∧ n = n' := by
  induction h generalizing es' n' with
  | stop h => cases h' with
    | stop => exact ⟨rfl, rfl⟩
    | go h1 _ => rw [h] at h1; cases h1
  | go h hd ih => cases h' with
    | stop h1 => rw [h] at h1; cases h1
    | go h1 hd1 =>
      rw [h] at h1
      injection h1 with h1; injection h1 with h1 h2
      subst h1; subst h2
      obtain ⟨a, b⟩ := ih hd1
      exact ⟨by rw [a], by rw [b]⟩
end Go.Proofs.Ytemnchkebhclpaa
