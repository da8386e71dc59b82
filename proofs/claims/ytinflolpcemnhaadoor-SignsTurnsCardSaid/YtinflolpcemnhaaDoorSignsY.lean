/-
  Package signs, there and back: what Up, Down and Class tell where they tell no error, as naturals. No condition.
-/
import Derived.Test.YtinflolpcemnhaaDoorSignsX
namespace Go.Proofs.YtinflolpcemnhaaDoor
open Go.RowKit

theorem castne (x : Nat) : (((x : Nat) : Int) != 0) = !(x == 0) := by
  cases x with
  | zero => rfl
  | succ x =>
    have h1 : (((x + 1 : Nat) : Int) != 0) = true := by rw [bne_iff_ne]; omega
    rw [h1]; rfl
theorem casteq (x : Nat) : (((x : Nat) : Int) == 0) = (x == 0) := by
  have := castne x
  rw [bne] at this
  revert this
  cases ((x : Int) == 0) <;> cases (x == 0) <;> simp
theorem bitT (n m : Nat) (hn : n < 2 ^ 62) (hm : m < 2 ^ 62) : (bits .and .i64 (n : Int) (m : Int) != 0) = !((n &&& m) == 0) := by rw [andN n m hn hm, castne]

theorem sixB_nat (n : Nat) (hn : n < 2 ^ 62) : sixB (n : Int) = sixN n := by
  have hi : isInB (n : Int) 508351 = isInN n 508351 := isIn_nat n 508351 hn (by decide)
  rw [sixB, sixN, hi, six_nat n hn]
  congr 1
  by_cases h : n / 128 % 4 < 3
  · rw [decide_eq_true (show (n : Int) / 128 % 4 < 3 by omega)]
    exact (Nat.blt_eq.mpr h).symm
  · rw [decide_eq_false (show ¬ (n : Int) / 128 % 4 < 3 by omega)]
    cases h2 : Nat.blt (n / 128 % 4) 3
    · rfl
    · exact absurd (Nat.blt_eq.mp h2) h

theorem Up_cases (f : Int) (hf : f ≤ 9223372036854775807) :
    (∃ n : Nat, f = n ∧ n ≤ 508351 ∧ upOK n = true ∧ toldV (upV f) (upE f) = ((upN n : Nat) : Int) ∧ codeIx (upE f) = 0) ∨ (∃ E : Int, (E == 0) = false ∧ toldV (upV f) (upE f) = 0 ∧ codeIx (upE f) = E) := by
  rcases bool_cases (sixB f) with h1 | h1
  · have e : upE f = some 0 := by rw [upE, h1]; rfl
    rw [e]; exact .inr ⟨2, rfl, rfl, rfl⟩
  rcases bool_cases (bits .and .i64 f 32768 != 0) with h2 | h2
  rotate_left
  · have e : upE f = some 2 := by rw [upE, h1, h2]; rfl
    rw [e]; exact .inr ⟨131, rfl, rfl, rfl⟩
  rcases bool_cases (bits .and .i64 f 16 != 0) with h3 | h3
  · have e : upE f = some 3 := by rw [upE, h1, h2, h3]; rfl
    rw [e]; exact .inr ⟨132, rfl, rfl, rfl⟩
  have e : upE f = none := by rw [upE, h1, h2, h3]; rfl
  have hin : isInB f 508351 = true := by rw [sixB, Bool.and_eq_true] at h1; exact h1.1
  obtain ⟨n, rfl, k1, k2⟩ := isIn_cases f 508351 hf (by decide) hin
  have hn : n < 2 ^ 62 := by omega
  have c2 : (bits .and .i64 (n : Int) 32768 != 0) = !((n &&& 32768) == 0) := bitT n 32768 hn (by decide)
  have c3 : (bits .and .i64 (n : Int) 16 != 0) = !((n &&& 16) == 0) := bitT n 16 hn (by decide)
  have c4 : (bits .and .i64 (n : Int) 475136 != 0) = !((n &&& 475136) == 0) := bitT n 475136 hn (by decide)
  have hg := gat_nat n hn
  have hx : n &&& 475175 ≤ 475175 := Nat.and_le_right
  have ho : bits .or .i64 ((n &&& 475175 : Nat) : Int) 64 = (((n &&& 475175) ||| 64 : Nat) : Int) := orN (n &&& 475175) 64 (by omega) (by decide)
  rw [e]
  refine .inl ⟨n, rfl, k2, ?_, ?_, rfl⟩
  · rw [upOK, ← sixB_nat n hn, h1, ← c3, h3]
    rw [c2] at h2
    rw [show ((n &&& 32768) == 0) = true by simpa using h2]
    rfl
  · show upV (n : Int) = _
    rw [upV, upN, c4]
    cases (n &&& 475136) == 0
    · show bits .or .i64 (gat (n : Int)) 64 = _
      rw [hg, ho]
    · show gat (n : Int) = _
      rw [hg]

theorem Down_val (n q : Nat) (c : Bool) (h : dnOK n q = true) : toldV (dnV (n : Int) (q : Int) c) (dnE (n : Int) (q : Int)) = ((dnN n q c : Nat) : Int) ∧ codeIx (dnE (n : Int) (q : Int)) = 0 := by
  rw [dnOK, Bool.and_eq_true, Bool.and_eq_true] at h
  obtain ⟨⟨h1, h2⟩, h3⟩ := h
  have hq := Nat.le_of_ble_eq_true h2
  have hin : n &&& 475239 = n := by rw [isInN, beq_iff_eq] at h1; exact h1
  have hle : n ≤ 475239 := by rw [← hin]; exact Nat.and_le_right
  have hn : n < 2 ^ 62 := by omega
  have c1 : isInB (n : Int) 475239 = true := (isIn_nat n 475239 hn (by decide)).trans h1
  have c2 : (bits .and .i64 (n : Int) 64 != 0) = !((n &&& 64) == 0) := bitT n 64 hn (by decide)
  have c3 : (bits .and .i64 (n : Int) 475136 != 0) = !((n &&& 475136) == 0) := bitT n 475136 hn (by decide)
  have c4 : ((bits .and .i64 (n : Int) 64 != 0) == (bits .and .i64 (n : Int) 475136 != 0)) = true := by
    rw [c2, c3]
    revert h3
    cases ((n &&& 64) == 0) <;> cases ((n &&& 475136) == 0) <;> simp
  have e : dnE (n : Int) (q : Int) = none := by rw [dnE, c1, c4, decide_eq_true (show (0 : Int) ≤ (q : Int) by omega), decide_eq_true (show (q : Int) ≤ 2 by omega)]; rfl
  have hg := gat_nat n hn
  have hx : n &&& 475175 ≤ 475175 := Nat.and_le_right
  obtain ⟨o1, o2⟩ := (or_both (both_in n)).2 q hq
  have hpq : wrap64 ((q : Int) * 128) = ((q * 128 : Nat) : Int) := by rw [IntWalk.wrap64_in _ ⟨by omega, by omega⟩]; rfl
  rw [e]
  refine ⟨?_, rfl⟩
  have a1 : bits .or .i64 ((n &&& 475175 : Nat) : Int) 16 = (((n &&& 475175) ||| 16 : Nat) : Int) := orN (n &&& 475175) 16 (by omega) (by decide)
  have l1 : (n &&& 475175) ||| 16 < 2 ^ 20 := Nat.or_lt_two_pow (by omega) (by decide)
  have a2 : bits .or .i64 (((n &&& 475175) ||| 16 : Nat) : Int) ((q * 128 : Nat) : Int) = ((((n &&& 475175) ||| 16) ||| (q * 128) : Nat) : Int) := orN ((n &&& 475175) ||| 16) (q * 128) (by omega) (by omega)
  have a3 : bits .or .i64 ((((n &&& 475175) ||| 16) ||| (q * 128) : Nat) : Int) 8 = (((((n &&& 475175) ||| 16) ||| (q * 128)) ||| 8 : Nat) : Int) := orN (((n &&& 475175) ||| 16) ||| (q * 128)) 8 (by rw [o1]; omega) (by decide)
  cases c
  · show bits .or .i64 (bits .or .i64 (gat (n : Int)) 16) (wrap64 ((q : Int) * 128)) = _
    rw [hg, hpq, a1, a2]; rfl
  · show bits .or .i64 (bits .or .i64 (bits .or .i64 (gat (n : Int)) 16) (wrap64 ((q : Int) * 128))) 8 = _
    rw [hg, hpq, a1, a2, a3]; rfl

theorem Down_cases (f p : Int) (c : Bool) (hf : f ≤ 9223372036854775807) :
    (∃ n q : Nat, f = n ∧ p = q ∧ n ≤ 475239 ∧ q ≤ 2 ∧ dnOK n q = true ∧ toldV (dnV f p c) (dnE f p) = ((dnN n q c : Nat) : Int) ∧ codeIx (dnE f p) = 0)
    ∨ (∃ E : Int, (E == 0) = false ∧ toldV (dnV f p c) (dnE f p) = 0 ∧ codeIx (dnE f p) = E) := by
  rcases bool_cases (isInB f 475239) with h1 | h1
  · have e : dnE f p = some 0 := by rw [dnE, h1]; rfl
    rw [e]; exact .inr ⟨2, rfl, rfl, rfl⟩
  by_cases h2 : 0 ≤ p
  rotate_left
  · have e : dnE f p = some 0 := by rw [dnE, h1, decide_eq_false h2]; rfl
    rw [e]; exact .inr ⟨2, rfl, rfl, rfl⟩
  by_cases h3 : p ≤ 2
  rotate_left
  · have e : dnE f p = some 0 := by rw [dnE, h1, decide_eq_true h2, decide_eq_false h3]; rfl
    rw [e]; exact .inr ⟨2, rfl, rfl, rfl⟩
  rcases bool_cases ((bits .and .i64 f 64 != 0) == (bits .and .i64 f 475136 != 0)) with h4 | h4
  · have e : dnE f p = some 4 := by rw [dnE, h1, h4, decide_eq_true h2, decide_eq_true h3]; rfl
    rw [e]; exact .inr ⟨133, rfl, rfl, rfl⟩
  obtain ⟨n, rfl, k1, k2⟩ := isIn_cases f 475239 hf (by decide) h1
  obtain ⟨q, rfl⟩ := Int.eq_ofNat_of_zero_le h2
  have hn : n < 2 ^ 62 := by omega
  have c2 : (bits .and .i64 (n : Int) 64 != 0) = !((n &&& 64) == 0) := bitT n 64 hn (by decide)
  have c3 : (bits .and .i64 (n : Int) 475136 != 0) = !((n &&& 475136) == 0) := bitT n 475136 hn (by decide)
  have hd : dnOK n q = true := by
    rw [c2, c3] at h4
    rw [dnOK, show isInN n 475239 = true by rw [isInN, k1]; simp, show Nat.ble q 2 = true from Nat.ble_eq.mpr (by omega)]
    revert h4
    cases ((n &&& 64) == 0) <;> cases ((n &&& 475136) == 0) <;> simp
  obtain ⟨v1, v2⟩ := Down_val n q c hd
  exact .inl ⟨n, q, rfl, rfl, k2, by omega, hd, v1, v2⟩

end Go.Proofs.YtinflolpcemnhaaDoor
