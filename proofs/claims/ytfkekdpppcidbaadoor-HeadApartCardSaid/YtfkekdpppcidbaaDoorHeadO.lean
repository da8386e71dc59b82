/-
  The order of heads' bytes: plain naturals and lists, no program. No condition.
-/
import Derived.Test.YtfkekdpppcidbaaDoorHeadM
namespace Go.Proofs.YtfkekdpppcidbaaDoor

theorem hval_cons (b : UInt8) (l : List UInt8) : val (b :: l) = b.toNat * 256 ^ l.length + val l := by
  rw [val, valFrom_cons, valFrom_eq]; simp

theorem hless_val : ∀ (l m : List UInt8), l.length = m.length → Op.bytesLess l m = decide (val l < val m)
  | [], [], _ => by simp [Op.bytesLess, val, valFrom]
  | a :: l, b :: m, h => by
    have hlm : l.length = m.length := by simpa using h
    have ih := hless_val l m hlm
    rw [Op.bytesLess, ih, hval_cons, hval_cons, ← hlm]
    have h1 := val_lt l
    have h2 := val_lt m
    rw [← hlm] at h2
    generalize 256 ^ l.length = q at h1 h2
    rcases Nat.lt_trichotomy a.toNat b.toNat with hab | hab | hab
    · have e1 : a < b := UInt8.lt_iff_toNat_lt.2 hab
      have e2 : a.toNat * q + val l < b.toNat * q + val m := by
        have : (a.toNat + 1) * q ≤ b.toNat * q := Nat.mul_le_mul_right q hab
        rw [Nat.add_mul] at this
        omega
      simp [e1, e2]
    · have e1 : a = b := UInt8.toNat_inj.1 hab
      subst e1
      have e2 : ¬ a < a := by simp
      simp [e2]
    · have e1 : ¬ a < b := by rw [UInt8.lt_iff_toNat_lt]; omega
      have e3 : a ≠ b := by rintro rfl; omega
      have e2 : ¬ a.toNat * q + val l < b.toNat * q + val m := by
        have : (b.toNat + 1) * q ≤ a.toNat * q := Nat.mul_le_mul_right q hab
        rw [Nat.add_mul] at this
        omega
      simp [e1, e2, e3]

/-- Of two heads of one major the bytes of the lesser number come first. -/
theorem head_order {a n m : Nat} (ha : okMajor a = true) (hn : n ≤ 281474976710655) (hm : m ≤ 281474976710655) : Op.bytesLess (headL a n) (headL a m) = decide (n < m) := by
  have f1 := first_nat (n := n) ha
  have f2 := first_nat (n := m) ha
  have cn := wOf_cases n
  have cm := wOf_cases m
  rw [headL, headL, Op.bytesLess]
  generalize UInt8.ofNat (32 * a + moreOf n) = x at f1 ⊢
  generalize UInt8.ofNat (32 * a + moreOf m) = y at f2 ⊢
  by_cases hlt : moreOf n < moreOf m
  · have e1 : x < y := by rw [UInt8.lt_iff_toNat_lt, f1, f2]; omega
    have : n < m := by omega
    simp [e1, this]
  by_cases hgt : moreOf m < moreOf n
  · have e1 : ¬ x < y := by rw [UInt8.lt_iff_toNat_lt, f1, f2]; omega
    have e2 : x ≠ y := fun e => by have := congrArg UInt8.toNat e; rw [f1, f2] at this; omega
    have : ¬ n < m := by omega
    simp [e1, e2, this]
  · have he : moreOf n = moreOf m := by omega
    have hw : wOf n = wOf m := by omega
    have hxy : x = y := UInt8.toNat_inj.1 (by rw [f1, f2, he])
    subst hxy
    rw [hw]
    have hv : val (digits (wOf m) n) = if wOf m = 0 then 0 else n := by
      by_cases h0 : wOf m = 0
      · rw [h0]; rfl
      · rw [if_neg h0, ← hw]; exact val_head hn (by omega)
    have hv2 : val (digits (wOf m) m) = if wOf m = 0 then 0 else m := by
      by_cases h0 : wOf m = 0
      · rw [h0]; rfl
      · rw [if_neg h0]; exact val_head hm h0
    rw [hless_val _ _ (by rw [digits_length, digits_length]), hv, hv2]
    by_cases h0 : wOf m = 0
    · have : ¬ n < m := by omega
      simp [h0, this]
    · simp [h0]

end Go.Proofs.YtfkekdpppcidbaaDoor
