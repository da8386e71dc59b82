/-
  Package signs: what the program tells is what the document's answer tells: by definition, no program. No condition.
-/
import Derived.Test.YtinflolpcemnhaaDoorSignsP
namespace Go.Proofs.YtinflolpcemnhaaDoor
open Go.RowKit

theorem bz {n all : Nat} (i : Nat) (h : n &&& all = n) (hi : all.testBit i = false) : n / 2 ^ i % 2 = 0 := by
  have h1 : n.testBit i = false := by rw [← h, Nat.testBit_and, hi, Bool.and_false]
  rw [tb] at h1
  have := of_decide_eq_false h1
  omega

/-- The flags that both versions have, spread. -/
def sp5 (i : Nat) : Nat := i % 64 + 16384 * (i / 64)
theorem sp5_of {n : Nat} (h : n &&& 475175 = n) : ∃ i, i < 2048 ∧ n = sp5 i := by
  have hle : n ≤ 475175 := by rw [← h]; exact Nat.and_le_right
  have b6 := bz 6 h (by decide)
  have b7 := bz 7 h (by decide)
  have b8 := bz 8 h (by decide)
  have b9 := bz 9 h (by decide)
  have b10 := bz 10 h (by decide)
  have b11 := bz 11 h (by decide)
  have b12 := bz 12 h (by decide)
  have b13 := bz 13 h (by decide)
  simp only [Nat.reducePow] at b6 b7 b8 b9 b10 b11 b12 b13
  refine ⟨n % 64 + 64 * (n / 16384), by omega, ?_⟩
  unfold sp5
  omega

def orOK (x : Nat) : Bool := !isInN x 475175 || (((x ||| 64) == x + 64) && [0, 1, 2].all fun p => (((x ||| 16) ||| (p * 128)) == x + 16 + p * 128) && ((((x ||| 16) ||| (p * 128)) ||| 8) == x + 16 + p * 128 + 8))
theorem orOK_all : (List.range 2048).all (fun i => orOK (sp5 i)) = true := by kernel_rfl
theorem or_both {x : Nat} (h : x &&& 475175 = x) : (x ||| 64) = x + 64 ∧ ∀ p, p ≤ 2 → ((x ||| 16) ||| (p * 128)) = x + 16 + p * 128 ∧ (((x ||| 16) ||| (p * 128)) ||| 8) = x + 16 + p * 128 + 8 := by
  obtain ⟨i, hi, rfl⟩ := sp5_of h
  have hk := List.all_eq_true.1 orOK_all i (List.mem_range.2 hi)
  have hin : isInN (sp5 i) 475175 = true := by rw [isInN, h]; simp
  rw [orOK, hin] at hk
  simp only [Bool.not_true, Bool.false_or, Bool.and_eq_true, beq_iff_eq, List.all_cons, List.all_nil, Bool.and_true] at hk
  refine ⟨hk.1, fun p hp => ?_⟩
  have h3 : p = 0 ∨ p = 1 ∨ p = 2 := by omega
  rcases h3 with rfl | rfl | rfl
  · exact hk.2.1
  · exact hk.2.2.1
  · exact hk.2.2.2

theorem six_nat (n : Nat) (hn : n < 2 ^ 62) : bits .and .i64 ((n : Int) / 128) 3 = (n : Int) / 128 % 4 := by
  have h := andN (n / 128) 3 (by omega) (by decide)
  have e : (n / 128) &&& 3 = n / 128 % 4 := Nat.and_two_pow_sub_one_eq_mod (n / 128) 2
  rw [e] at h
  have h2 : bits .and .i64 ((n : Int) / 128) 3 = ((n / 128 % 4 : Nat) : Int) := h
  rw [h2]
  omega
theorem six_same (f : Int) (hf : f ≤ 9223372036854775807) : sixB f = rsixB f := by
  rcases bool_cases (isInB f 508351) with h | h
  · rw [sixB, rsixB, h]; rfl
  · obtain ⟨n, rfl, h1, h2⟩ := isIn_cases f 508351 hf (by decide) h
    rw [sixB, rsixB, h, six_nat n (by omega)]
theorem both_in (n : Nat) : (n &&& 475175) &&& 475175 = n &&& 475175 := by rw [Nat.and_assoc]; rfl

theorem Up_ref (f : Int) (hf : f ≤ 9223372036854775807) : toldV (upV f) (upE f) = (rUp f).1 ∧ codeIx (upE f) = (rUp f).2 := by
  rcases bool_cases (sixB f) with h1 | h1
  · have e : upE f = some 0 := by rw [upE, h1]; rfl
    rw [e, rUp, ← six_same f hf, h1]; exact ⟨rfl, rfl⟩
  rcases bool_cases (bits .and .i64 f 32768 != 0) with h2 | h2
  rotate_left
  · have e : upE f = some 2 := by rw [upE, h1, h2]; rfl
    rw [e, rUp, ← six_same f hf, h1, h2]; exact ⟨rfl, rfl⟩
  rcases bool_cases (bits .and .i64 f 16 != 0) with h3 | h3
  · have e : upE f = some 3 := by rw [upE, h1, h2, h3]; rfl
    have h3' : (bits .and .i64 f 16 == 0) = true := by simpa [bne] using h3
    rw [e, rUp, ← six_same f hf, h1, h2, h3']; exact ⟨rfl, rfl⟩
  have e : upE f = none := by rw [upE, h1, h2, h3]; rfl
  have h3' : (bits .and .i64 f 16 == 0) = false := by simpa [bne] using h3
  have hin : isInB f 508351 = true := by rw [sixB, Bool.and_eq_true] at h1; exact h1.1
  obtain ⟨n, rfl, k1, k2⟩ := isIn_cases f 508351 hf (by decide) hin
  have hn : n < 2 ^ 62 := by omega
  have hx : n &&& 475175 ≤ 475175 := Nat.and_le_right
  have hg := gat_nat n hn
  have ha := andN n 475175 hn (by decide)
  rw [e, rUp, ← six_same (n : Int) hf, h1, h2, h3']
  rcases bool_cases (bits .and .i64 (n : Int) 475136 != 0) with h4 | h4
  · refine ⟨?_, by rw [h4]; rfl⟩
    rw [h4]
    show upV (n : Int) = bits .and .i64 (n : Int) 475175
    rw [upV, h4, hg]
    exact ha.symm
  · refine ⟨?_, by rw [h4]; rfl⟩
    rw [h4]
    show upV (n : Int) = wrap64 (bits .and .i64 (n : Int) 475175 + 64)
    rw [upV, h4, hg]
    have ho := orN (n &&& 475175) 64 (by omega) (by decide)
    rw [(or_both (both_in n)).1] at ho
    have ha' : bits .and .i64 (n : Int) 475175 = ((n &&& 475175 : Nat) : Int) := ha
    rw [ha', IntWalk.wrap64_in _ ⟨by omega, by omega⟩]
    show bits .or .i64 ((n &&& 475175 : Nat) : Int) 64 = _
    have ho' : bits .or .i64 ((n &&& 475175 : Nat) : Int) 64 = ((n &&& 475175 : Nat) + 64 : Nat) := ho
    rw [ho']
    simp

theorem Class_ref (f : Int) (hf : f ≤ 9223372036854775807) : toldV (bits .and .i64 (wrap64 (f.tdiv 128)) 3) (clsE f) = (rClass f).1 ∧ (codeIx (clsE f) == 0 && (bits .and .i64 f 8 != 0)) = (rClass f).2.1 ∧ codeIx (clsE f) = (rClass f).2.2 := by
  rcases bool_cases (sixB f) with h1 | h1
  · have e : clsE f = some 0 := by rw [clsE, h1]; rfl
    rw [e, rClass, ← six_same f hf, h1]; exact ⟨rfl, rfl, rfl⟩
  have e : clsE f = none := by rw [clsE, h1]; rfl
  have hin : isInB f 508351 = true := by rw [sixB, Bool.and_eq_true] at h1; exact h1.1
  obtain ⟨n, rfl, k1, k2⟩ := isIn_cases f 508351 hf (by decide) hin
  have hz : (codeIx none == (0 : Int)) = true := rfl
  have hv := six_nat n (by omega)
  have hq : wrap64 ((n : Int).tdiv 128) = (n : Int) / 128 := by rw [Int.tdiv_eq_ediv_of_nonneg (by omega), IntWalk.wrap64_in ((n : Int) / 128) ⟨by omega, by omega⟩]
  rw [e, rClass, ← six_same (n : Int) hf, h1, hz, Bool.true_and, if_pos rfl, hq, hv]
  generalize (bits .and .i64 (n : Int) 8 != 0) = y
  exact ⟨rfl, rfl, rfl⟩

theorem Down_ref (f p : Int) (c : Bool) (hf : f ≤ 9223372036854775807) : toldV (dnV f p c) (dnE f p) = (rDown f p c).1 ∧ codeIx (dnE f p) = (rDown f p c).2 := by
  rcases bool_cases (isInB f 475239) with h1 | h1
  · have e : dnE f p = some 0 := by rw [dnE, h1]; rfl
    rw [e, rDown, h1]; exact ⟨rfl, rfl⟩
  by_cases h2 : p < 0
  · have e : dnE f p = some 0 := by rw [dnE, h1, decide_eq_false (show ¬ 0 ≤ p by omega)]; rfl
    rw [e, rDown, h1, decide_eq_true h2]; exact ⟨rfl, rfl⟩
  by_cases h3 : 2 < p
  · have e : dnE f p = some 0 := by rw [dnE, h1, decide_eq_true (show 0 ≤ p by omega), decide_eq_false (show ¬ p ≤ 2 by omega)]; rfl
    rw [e, rDown, h1, decide_eq_false h2, decide_eq_true h3]; exact ⟨rfl, rfl⟩
  rcases bool_cases ((bits .and .i64 f 64 != 0) == (bits .and .i64 f 475136 != 0)) with h4 | h4
  · have e : dnE f p = some 4 := by rw [dnE, h1, h4, decide_eq_true (show 0 ≤ p by omega), decide_eq_true (show p ≤ 2 by omega)]; rfl
    rw [e, rDown, h1, h4, decide_eq_false h2, decide_eq_false h3]; exact ⟨rfl, rfl⟩
  have e : dnE f p = none := by rw [dnE, h1, h4, decide_eq_true (show 0 ≤ p by omega), decide_eq_true (show p ≤ 2 by omega)]; rfl
  obtain ⟨n, rfl, k1, k2⟩ := isIn_cases f 475239 hf (by decide) h1
  obtain ⟨q, rfl⟩ := Int.eq_ofNat_of_zero_le (show 0 ≤ p by omega)
  have hn : n < 2 ^ 62 := by omega
  have hx : n &&& 475175 ≤ 475175 := Nat.and_le_right
  have hg := gat_nat n hn
  have ha : bits .and .i64 (n : Int) 475175 = ((n &&& 475175 : Nat) : Int) := andN n 475175 hn (by decide)
  obtain ⟨o1, o2⟩ := (or_both (both_in n)).2 q (by omega)
  have hpq : wrap64 ((q : Int) * 128) = ((q * 128 : Nat) : Int) := by rw [IntWalk.wrap64_in _ ⟨by omega, by omega⟩]; rfl
  generalize n &&& 475175 = x at hx hg ha o1 o2
  have a1 : bits .or .i64 (x : Int) 16 = ((x ||| 16 : Nat) : Int) := orN x 16 (by omega) (by decide)
  have l1 : x ||| 16 < 2 ^ 20 := Nat.or_lt_two_pow (by omega) (by decide)
  have a2 : bits .or .i64 ((x ||| 16 : Nat) : Int) ((q * 128 : Nat) : Int) = (((x ||| 16) ||| (q * 128) : Nat) : Int) := orN (x ||| 16) (q * 128) (by omega) (by omega)
  have a3 : bits .or .i64 (((x ||| 16) ||| (q * 128) : Nat) : Int) 8 = ((((x ||| 16) ||| (q * 128)) ||| 8 : Nat) : Int) := orN ((x ||| 16) ||| (q * 128)) 8 (by rw [o1]; omega) (by decide)
  rw [e, rDown, h1, h4, decide_eq_false h2, decide_eq_false h3]
  refine ⟨?_, by cases c <;> rfl⟩
  cases c
  · show bits .or .i64 (bits .or .i64 (gat (n : Int)) 16) (wrap64 ((q : Int) * 128)) = wrap64 (wrap64 (bits .and .i64 (n : Int) 475175 + 16) + wrap64 ((q : Int) * 128))
    rw [hg, ha, hpq, a1, a2, o1, IntWalk.wrap64_in ((x : Int) + 16) ⟨by omega, by omega⟩, IntWalk.wrap64_in _ ⟨by omega, by omega⟩]
    omega
  · show bits .or .i64 (bits .or .i64 (bits .or .i64 (gat (n : Int)) 16) (wrap64 ((q : Int) * 128))) 8 = wrap64 (wrap64 (wrap64 (bits .and .i64 (n : Int) 475175 + 16) + wrap64 ((q : Int) * 128)) + 8)
    rw [hg, ha, hpq, a1, a2, a3, o2, IntWalk.wrap64_in ((x : Int) + 16) ⟨by omega, by omega⟩, IntWalk.wrap64_in ((x : Int) + 16 + ((q * 128 : Nat) : Int)) ⟨by omega, by omega⟩, IntWalk.wrap64_in _ ⟨by omega, by omega⟩]
    omega

end Go.Proofs.YtinflolpcemnhaaDoor
