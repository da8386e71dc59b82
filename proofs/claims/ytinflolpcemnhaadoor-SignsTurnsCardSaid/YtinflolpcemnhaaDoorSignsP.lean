/-
  Flags as natural numbers: what the program's and the document's operations on bits compute; no program. No condition.
-/
import Derived.Test.YtinflolpcemnhaaDoorSignsS
namespace Go.Proofs.YtinflolpcemnhaaDoor
open Go.RowKit

theorem wr62 (n : Int) (h0 : 0 ≤ n) (h1 : n < 2 ^ 62) : IntKind.i64.wrap n = n := IntWalk.i64_in n (by omega)
theorem andN (a b : Nat) (ha : a < 2 ^ 62) (hb : b < 2 ^ 62) : bits .and .i64 (a : Int) (b : Int) = ((a &&& b : Nat) : Int) := (bits_nat .i64 62 (by decide) wr62 a b ha hb).1
theorem orN (a b : Nat) (ha : a < 2 ^ 62) (hb : b < 2 ^ 62) : bits .or .i64 (a : Int) (b : Int) = ((a ||| b : Nat) : Int) := (bits_nat .i64 62 (by decide) wr62 a b ha hb).2

theorem andNotN (a b : Nat) (ha : a < 2 ^ 62) (hb : b < 2 ^ 62) : bits .andNot .i64 (a : Int) (b : Int) = ((a &&& (18446744073709551615 - b) : Nat) : Int) := by
  have h1 : (BitVec.ofNat 64 a).toNat = a := by rw [BitVec.toNat_ofNat]; exact Nat.mod_eq_of_lt (by omega)
  have h2 : (BitVec.ofNat 64 b).toNat = b := by rw [BitVec.toNat_ofNat]; exact Nat.mod_eq_of_lt (by omega)
  have h3 : (BitVec.ofNat 64 a &&& ~~~BitVec.ofNat 64 b).toNat = a &&& (18446744073709551615 - b) := by
    rw [BitVec.toNat_and, BitVec.toNat_not, h1, h2]
  show IntKind.i64.wrap ((BitVec.ofInt 64 (a : Int) &&& ~~~BitVec.ofInt 64 (b : Int)).toNat : Int) = _
  rw [BitVec.ofInt_natCast, BitVec.ofInt_natCast, h3]
  have hle : a &&& (18446744073709551615 - b) ≤ a := Nat.and_le_left
  exact wr62 _ (by omega) (by omega)

theorem tb (n i : Nat) : n.testBit i = decide (n / 2 ^ i % 2 = 1) := Nat.testBit_eq_decide_div_mod_eq

theorem notN (a b : Nat) (hb : b < 2 ^ 62) (ha : a < 2 ^ 62) : a &&& (18446744073709551615 - b) = 0 ↔ a &&& b = a := by
  have e : 18446744073709551615 - b = 2 ^ 64 - (b + 1) := by omega
  have hbit : ∀ i, (18446744073709551615 - b).testBit i = (decide (i < 64) && !b.testBit i) := fun i => by
    rw [e, Nat.testBit_two_pow_sub_succ (by omega)]
  constructor
  · intro h
    apply Nat.eq_of_testBit_eq
    intro i
    have := congrArg (fun x => x.testBit i) h
    simp only [Nat.testBit_and, Nat.zero_testBit, hbit] at this ⊢
    by_cases hi : i < 64
    · simp only [hi, decide_true, Bool.true_and] at this
      cases h1 : a.testBit i <;> cases h2 : b.testBit i <;> simp_all
    · have : a.testBit i = false := Nat.testBit_lt_two_pow (Nat.lt_of_lt_of_le ha (Nat.pow_le_pow_right (by decide) (by omega)))
      simp [this]
  · intro h
    apply Nat.eq_of_testBit_eq
    intro i
    have := congrArg (fun x => x.testBit i) h
    simp only [Nat.testBit_and, Nat.zero_testBit, hbit] at this ⊢
    cases h1 : a.testBit i <;> cases h2 : b.testBit i <;> simp_all

/-- isIn, on naturals. -/
def isInN (n all : Nat) : Bool := (n &&& all) == n
theorem isIn_nat (n all : Nat) (hn : n < 2 ^ 62) (ha : all < 2 ^ 62) : isInB (n : Int) (all : Int) = isInN n all := by
  have h0 : decide ((0 : Int) ≤ (n : Int)) = true := by simp
  rw [isInB, h0, Bool.true_and, andNotN n all hn ha, isInN]
  have := notN n all ha hn
  by_cases h : n &&& all = n
  · rw [this.2 h, h]; simp
  · have h' : ¬ (n &&& (18446744073709551615 - all) = 0) := fun e => h (this.1 e)
    rw [beq_eq_false_iff_ne.2 h, beq_eq_false_iff_ne.2 (fun e => h' (by exact_mod_cast e))]

theorem isIn_cases (f : Int) (all : Nat) (hf : f ≤ 9223372036854775807) (ha : all < 2 ^ 62) (h : isInB f (all : Int) = true) : ∃ n : Nat, f = (n : Int) ∧ n &&& all = n ∧ n ≤ all := by
  have h1 := h
  rw [isInB, Bool.and_eq_true, decide_eq_true_eq] at h1
  obtain ⟨n, rfl⟩ := Int.eq_ofNat_of_zero_le h1.1
  have hz : bits .andNot .i64 (n : Int) (all : Int) = 0 := by simpa using h1.2
  have hn : n < 2 ^ 62 := by
    rcases Nat.lt_or_ge n (2 ^ 62) with h2 | h2
    · exact h2
    · exfalso
      have e1 : (BitVec.ofNat 64 n).toNat = n := by rw [BitVec.toNat_ofNat]; exact Nat.mod_eq_of_lt (by omega)
      have e2 : (BitVec.ofNat 64 all).toNat = all := by rw [BitVec.toNat_ofNat]; exact Nat.mod_eq_of_lt (by omega)
      have e3 : (BitVec.ofNat 64 n &&& ~~~BitVec.ofNat 64 all).toNat = n &&& (18446744073709551615 - all) := by
        rw [BitVec.toNat_and, BitVec.toNat_not, e1, e2]
      have hz' : IntKind.i64.wrap ((BitVec.ofInt 64 (n : Int) &&& ~~~BitVec.ofInt 64 (all : Int)).toNat : Int) = 0 := hz
      rw [BitVec.ofInt_natCast, BitVec.ofInt_natCast, e3] at hz'
      have hle : n &&& (18446744073709551615 - all) ≤ n := Nat.and_le_left
      rw [IntWalk.i64_in _ (by omega)] at hz'
      have hz2 : n &&& (18446744073709551615 - all) = 0 := by exact_mod_cast hz'
      have hb : n.testBit 62 = true := by rw [tb]; simp; omega
      have hb2 : (18446744073709551615 - all).testBit 62 = true := by rw [tb]; simp; omega
      have := congrArg (fun x => x.testBit 62) hz2
      simp [Nat.testBit_and, hb, hb2] at this
  rw [isIn_nat n all hn ha, isInN] at h
  have h' : n &&& all = n := by simpa using h
  exact ⟨n, rfl, h', by rw [← h']; exact Nat.and_le_right⟩

theorem and2 (x k : Nat) : x &&& 2 ^ k = if x.testBit k = true then 2 ^ k else 0 := by
  apply Nat.eq_of_testBit_eq
  intro i
  rw [Nat.testBit_and, Nat.testBit_two_pow]
  by_cases h : k = i
  · subst h
    cases hx : x.testBit k <;> simp [Nat.testBit_two_pow]
  · cases hx : x.testBit k <;> simp [Nat.testBit_two_pow, h]

theorem onB_nat (n a k : Nat) (hn : n < 2 ^ 62) (ha : a < 2 ^ 62) (hk : k < 62) : onB (n : Int) (a : Int) k = (n &&& a).testBit k := by
  have hp : 2 ^ k < 2 ^ 62 := Nat.pow_lt_pow_right (by decide) hk
  have key : ∀ x : Nat, x < 2 ^ 62 → (bits .and .i64 (x : Int) ((2 ^ k : Nat) : Int) != 0) = x.testBit k := fun x hx => by
    rw [andN x (2 ^ k) hx hp, and2 x k]
    cases x.testBit k
    · rfl
    · have : 0 < 2 ^ k := Nat.two_pow_pos k
      simp only [if_true, bne_iff_ne, ne_eq]
      omega
  rw [onB, key a ha, key n hn, Nat.testBit_and, Bool.and_comm]

theorem gath_nat (n a : Nat) (hn : n < 2 ^ 62) (ha : a < 2 ^ 62) : ∀ k, k ≤ 62 → gath (flagsOf (n : Int) (a : Int) k) = (((n &&& a) % 2 ^ k : Nat) : Int)
  | 0, _ => by simp [flagsOf, gath, Nat.mod_one]
  | k + 1, hk => by
    have ih := gath_nat n a hn ha k (by omega)
    have hlt : (n &&& a) % 2 ^ k < 2 ^ k := Nat.mod_lt _ (Nat.two_pow_pos k)
    have hp : 2 ^ k < 2 ^ 62 := Nat.pow_lt_pow_right (by decide) (by omega)
    have hs : (n &&& a) % 2 ^ (k + 1) = (n &&& a) % 2 ^ k + 2 ^ k * ((n &&& a) / 2 ^ k % 2) := by rw [Nat.pow_succ, Nat.mod_mul]
    cases h : onB (n : Int) (a : Int) k
    · rw [flagsOf_no h, ih]
      rw [onB_nat n a k hn ha (by omega), tb] at h
      have : (n &&& a) / 2 ^ k % 2 = 0 := by have := of_decide_eq_false h; omega
      rw [hs, this]; simp
    · rw [flagsOf_yes h, gath_snoc, ih, orN _ _ (by omega) hp]
      rw [onB_nat n a k hn ha (by omega), tb] at h
      have : (n &&& a) / 2 ^ k % 2 = 1 := of_decide_eq_true h
      rw [hs, this, Nat.mul_one, Nat.or_comm]
      have := Nat.two_pow_add_eq_or_of_lt hlt 1
      rw [Nat.mul_one] at this
      rw [← this, Nat.add_comm]

theorem gat_nat (n : Nat) (hn : n < 2 ^ 62) : gat (n : Int) = ((n &&& 475175 : Nat) : Int) := by
  have h := gath_nat n 475175 hn (by decide) 19 (by decide)
  have hle : n &&& 475175 ≤ 475175 := Nat.and_le_right
  rw [Nat.mod_eq_of_lt (by omega)] at h
  exact h
theorem gam_nat (n : Nat) (hn : n < 2 ^ 62) : gam (n : Int) = ((n &&& 23 : Nat) : Int) := by
  have h := gath_nat n 23 hn (by decide) 5 (by decide)
  have hle : n &&& 23 ≤ 23 := Nat.and_le_right
  rw [Nat.mod_eq_of_lt (by omega)] at h
  exact h

end Go.Proofs.YtinflolpcemnhaaDoor
