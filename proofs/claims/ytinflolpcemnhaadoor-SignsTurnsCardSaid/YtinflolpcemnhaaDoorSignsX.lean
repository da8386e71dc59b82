/-
  Package signs, there and back: over all flags that may be, one by one, no program. No condition.
-/
import Derived.Test.YtinflolpcemnhaaDoorSignsM
namespace Go.Proofs.YtinflolpcemnhaaDoor
open Go.RowKit

abbrev allBits : Nat := 18446744073709551615

def sp6 (i : Nat) : Nat := i % 64 + 128 * (i / 64 % 4) + 16384 * (i / 256)
theorem sp6_of {n : Nat} (h : n &&& 508351 = n) : ∃ i, i < 8192 ∧ n = sp6 i := by
  have hle : n ≤ 508351 := by rw [← h]; exact Nat.and_le_right
  have b6 := bz 6 h (by decide)
  have b9 := bz 9 h (by decide)
  have b10 := bz 10 h (by decide)
  have b11 := bz 11 h (by decide)
  have b12 := bz 12 h (by decide)
  have b13 := bz 13 h (by decide)
  simp only [Nat.reducePow] at b6 b9 b10 b11 b12 b13
  refine ⟨n % 64 + 64 * (n / 128 % 4) + 256 * (n / 16384), by omega, ?_⟩
  unfold sp6
  omega
def sp7 (i : Nat) : Nat := i % 128 + 16384 * (i / 128)
theorem sp7_of {n : Nat} (h : n &&& 475239 = n) : ∃ i, i < 4096 ∧ n = sp7 i := by
  have hle : n ≤ 475239 := by rw [← h]; exact Nat.and_le_right
  have b7 := bz 7 h (by decide)
  have b8 := bz 8 h (by decide)
  have b9 := bz 9 h (by decide)
  have b10 := bz 10 h (by decide)
  have b11 := bz 11 h (by decide)
  have b12 := bz 12 h (by decide)
  have b13 := bz 13 h (by decide)
  simp only [Nat.reducePow] at b7 b8 b9 b10 b11 b12 b13
  refine ⟨n % 128 + 128 * (n / 16384), by omega, ?_⟩
  unfold sp7
  omega

def sixN (n : Nat) : Bool := isInN n 508351 && Nat.blt (n / 128 % 4) 3
def upOK (n : Nat) : Bool := sixN n && ((n &&& 32768) == 0) && !((n &&& 16) == 0)
def upN (n : Nat) : Nat := match (n &&& 475136) == 0 with
  | true => n &&& 475175
  | false => (n &&& 475175) ||| 64
def dnOK (n q : Nat) : Bool := isInN n 475239 && Nat.ble q 2 && (((n &&& 64) == 0) == ((n &&& 475136) == 0))
def dnN (n q : Nat) : Bool → Nat
  | false => ((n &&& 475175) ||| 16) ||| (q * 128)
  | true => (((n &&& 475175) ||| 16) ||| (q * 128)) ||| 8

def same1 (a n : Nat) : Bool := (((a &&& (allBits - 64)) &&& (allBits - n)) == 0) && ((!((a &&& 64) == 0)) == (!((a &&& (allBits - 127)) == 0)))
def same2 (b n : Nat) (c : Bool) : Bool := (((n &&& (allBits - 64)) &&& (allBits - b)) == 0) && (!((b &&& 16) == 0)) && ((b &&& 64) == 0) && ((!((b &&& 8) == 0)) == c)
def back1 (n : Nat) : Bool := dnOK (upN n) (n / 128 % 4) && (dnN (upN n) (n / 128 % 4) (!((n &&& 8) == 0)) == n)
def back2 (n q : Nat) (c : Bool) : Bool := upOK (dnN n q c) && (upN (dnN n q c) == n) && (dnN n q c / 128 % 4 == q) && ((!((dnN n q c &&& 8) == 0)) == c)

theorem chk1 : (List.range 8192).all (fun i => !upOK (sp6 i) || (same1 (upN (sp6 i)) (sp6 i) && back1 (sp6 i))) = true := by kernel_rfl
theorem chk2 : (List.range 4096).all (fun i => [0, 1, 2].all fun q => !dnOK (sp7 i) q || (same2 (dnN (sp7 i) q false) (sp7 i) false && same2 (dnN (sp7 i) q true) (sp7 i) true && back2 (sp7 i) q false && back2 (sp7 i) q true)) = true := by kernel_rfl

theorem up_all {n : Nat} (h : upOK n = true) : same1 (upN n) n = true ∧ back1 n = true := by
  have hin : n &&& 508351 = n := by
    rw [upOK, Bool.and_eq_true, Bool.and_eq_true, sixN, Bool.and_eq_true, isInN, beq_iff_eq] at h
    exact h.1.1.1
  obtain ⟨i, hi, rfl⟩ := sp6_of hin
  have hk := List.all_eq_true.1 chk1 i (List.mem_range.2 hi)
  rw [h, Bool.not_true, Bool.false_or, Bool.and_eq_true] at hk
  exact hk
theorem dn_all {n q : Nat} (h : dnOK n q = true) (c : Bool) : same2 (dnN n q c) n c = true ∧ back2 n q c = true := by
  have hh : n &&& 475239 = n ∧ q ≤ 2 := by
    rw [dnOK, Bool.and_eq_true, Bool.and_eq_true, isInN, beq_iff_eq] at h
    exact ⟨h.1.1, Nat.le_of_ble_eq_true h.1.2⟩
  obtain ⟨i, hi, rfl⟩ := sp7_of hh.1
  have hk := List.all_eq_true.1 chk2 i (List.mem_range.2 hi)
  have hq := List.all_eq_true.1 hk q (by have := hh.2; simp; omega)
  rw [h, Bool.not_true, Bool.false_or, Bool.and_eq_true, Bool.and_eq_true, Bool.and_eq_true] at hq
  cases c
  · exact ⟨hq.1.1.1, hq.1.2⟩
  · exact ⟨hq.1.1.2, hq.2⟩

end Go.Proofs.YtinflolpcemnhaaDoor
