/-
  Numbers as bytes: the plain laws by which the statements of the layer hold: what Bytes, Take, Cut and Rest tell, by definition; no program. No condition.
-/
import Derived.Test.YtfnejgmgdhoanaaDoorNumsS
import Derived.Sort.Walk0
namespace Go.Proofs.YtfnejgmgdhoanaaDoor
open Go.RowKit

theorem size_list (s : ByteArray) : s.size = s.data.toList.length := by rw [Array.length_toList]; rfl
theorem ba_ext {a b : ByteArray} (h : a.data.toList = b.data.toList) : a = b := by
  apply ByteArray.ext
  apply Array.ext'
  exact h
theorem fits_iff {n wd : Int} : fits n wd = true ↔ (0 ≤ n ∧ n ≤ 281474976710655) ∧ n.toNat < 256 ^ wd.toNat := by
  rw [fits, Bool.and_eq_true, okNum_iff, decide_eq_true_eq]

theorem bytes_cases (n wd : Int) :
    (∃ A : ByteArray, bytesV n wd = (A, 0) ∧ okWidth wd = true ∧ fits n wd = true ∧ A.data.toList = digits wd.toNat n.toNat ∧ (A.size : Int) = wd)
    ∨ (∃ E : Int, bytesV n wd = (ByteArray.empty, E) ∧ E ≠ 0 ∧ (okWidth wd = false ∨ fits n wd = false)) := by
  rcases bool_cases (okWidth wd) with h | h
  · exact .inr ⟨2, bytesV_width h, by decide, .inl h⟩
  · rcases bool_cases (fits n wd) with k | k
    · exact .inr ⟨10, bytesV_num h k, by decide, .inr k⟩
    · refine .inl ⟨_, bytesV_ok h k, h, k, by simp, ?_⟩
      obtain ⟨h1, h2⟩ := okWidth_iff.1 h
      rw [size_list]
      simp [digits_length]
      omega

theorem take_cases (s : ByteArray) (a n : Int) :
    (∃ l : List UInt8, (s.data.toList.drop a.toNat).take n.toNat = l ∧ l.length = n.toNat ∧ takeV s a n = ((val l : Int), 0) ∧ val l ≤ 281474976710655 ∧ okWidth n = true ∧ okWithin s.size a n = true)
    ∨ (∃ E : Int, takeV s a n = (0, E) ∧ E ≠ 0) := by
  rcases bool_cases (okWidth n) with h | h
  · exact .inr ⟨2, takeV_width h, by decide⟩
  · rcases bool_cases (okWithin s.size a n) with k | k
    · exact .inr ⟨11, takeV_short h k, by decide⟩
    · by_cases hv : val ((s.data.toList.drop a.toNat).take n.toNat) ≤ 281474976710655
      · obtain ⟨k3, k4, k5, k6⟩ := okWithin_iff.1 k
        have hz := size_list s
        refine .inl ⟨_, rfl, ?_, ?_, hv, h, k⟩
        · rw [List.length_take, List.length_drop]; omega
        · rw [takeV_ok h k, takeN, takeE, if_pos hv, if_pos hv]
      · exact .inr ⟨10, by rw [takeV_ok h k, takeN, takeE, if_neg hv, if_neg hv], by decide⟩

theorem back1 {n wd : Int} {s t A : ByteArray} (hk : okWidth wd = true) (hf : fits n wd = true) (hA : A.data.toList = digits wd.toNat n.toNat) :
    takeV (s ++ A ++ t) s.size wd = (n, 0) := by
  obtain ⟨k1, k2⟩ := okWidth_iff.1 hk
  obtain ⟨⟨n0, n1⟩, n2⟩ := fits_iff.1 hf
  have hAs : A.size = wd.toNat := by rw [size_list, hA, digits_length]
  have hw : okWithin (s ++ A ++ t).size s.size wd = true := by
    rw [okWithin_iff]
    simp only [ByteArray.size_append]
    omega
  have hl : ((s ++ A ++ t).data.toList.drop ((s.size : Int)).toNat).take wd.toNat = digits wd.toNat n.toNat := by
    rw [ByteArray.data_append, ByteArray.data_append, Array.toList_append, Array.toList_append, Int.toNat_natCast, List.append_assoc, List.drop_left' (size_list s).symm, List.take_left' (by rw [hA, digits_length]), hA]
  have hv : val (digits wd.toNat n.toNat) = n.toNat := by rw [val_digits, Nat.mod_eq_of_lt n2]
  rw [takeV_ok hk hw, hl, takeN, takeE, hv, if_pos (by omega), if_pos (by omega)]
  rw [Int.toNat_of_nonneg n0]

theorem back2 {wd : Int} {s : ByteArray} {l : List UInt8} (hl : (s.data.toList.drop (0 : Int).toNat).take wd.toNat = l) (hn : l.length = wd.toNat) (hv : val l ≤ 281474976710655) (hk : okWidth wd = true) :
    bytesV (val l : Int) wd = (s.extract 0 wd.toNat, 0) := by
  have hf : fits (val l : Int) wd = true := by
    rw [fits_iff, Int.toNat_natCast]
    have := val_lt l
    rw [hn] at this
    exact ⟨⟨by omega, by omega⟩, this⟩
  rw [bytesV_ok hk hf, Int.toNat_natCast, ← hn, digits_val]
  refine Prod.ext ?_ rfl
  refine ba_ext ?_
  rw [Lib.extract_data, ← hl]
  simp

theorem val_cons (b : UInt8) (l : List UInt8) : val (b :: l) = b.toNat * 256 ^ l.length + val l := by
  rw [val, valFrom_cons, valFrom_eq]; simp

theorem less_val : ∀ (l m : List UInt8), l.length = m.length → Op.bytesLess l m = decide (val l < val m)
  | [], [], _ => by simp [Op.bytesLess, val, valFrom]
  | a :: l, b :: m, h => by
    have hlm : l.length = m.length := by simpa using h
    have ih := less_val l m hlm
    rw [Op.bytesLess, ih, val_cons, val_cons, ← hlm]
    have h1 := val_lt l
    have h2 := val_lt m
    rw [← hlm] at h2
    generalize 256 ^ l.length = q at h1 h2
    rcases Nat.lt_trichotomy a.toNat b.toNat with hab | hab | hab
    · have e1 : a < b := UInt8.lt_iff_toNat_lt.2 hab
      have e2 : a.toNat * q + val l < b.toNat * q + val m := by
        have : (a.toNat + 1) * q ≤ b.toNat * q := Nat.mul_le_mul_right q hab
        rw [Nat.add_mul] at this
        omega
      simp [e1, e2]
    · have e1 : a = b := UInt8.toNat_inj.1 hab
      subst e1
      have e2 : ¬ a < a := by simp
      simp [e2]
    · have e1 : ¬ a < b := by rw [UInt8.lt_iff_toNat_lt]; omega
      have e3 : a ≠ b := by rintro rfl; omega
      have e2 : ¬ a.toNat * q + val l < b.toNat * q + val m := by
        have : (b.toNat + 1) * q ≤ a.toNat * q := Nat.mul_le_mul_right q hab
        rw [Nat.add_mul] at this
        omega
      simp [e1, e2, e3]

theorem val_inj {l m : List UInt8} (h : l.length = m.length) (hv : val l = val m) : l = m := by
  rw [← digits_val l, ← digits_val m, h, hv]

theorem order {n m wd : Int} {A B : ByteArray} (hf : fits n wd = true) (hg : fits m wd = true) (hA : A.data.toList = digits wd.toNat n.toNat) (hB : B.data.toList = digits wd.toNat m.toNat) :
    Op.bytesLess A.toList B.toList = decide (n < m) ∧ (A.toList == B.toList) = (n == m) := by
  obtain ⟨⟨n0, n1⟩, n2⟩ := fits_iff.1 hf
  obtain ⟨⟨m0, m1⟩, m2⟩ := fits_iff.1 hg
  rw [Lib.toList_data, Lib.toList_data, hA, hB]
  have hl : (digits wd.toNat n.toNat).length = (digits wd.toNat m.toNat).length := by rw [digits_length, digits_length]
  have h1 : val (digits wd.toNat n.toNat) = n.toNat := by rw [val_digits, Nat.mod_eq_of_lt n2]
  have h2 : val (digits wd.toNat m.toNat) = m.toNat := by rw [val_digits, Nat.mod_eq_of_lt m2]
  refine ⟨?_, ?_⟩
  · rw [less_val _ _ hl, h1, h2]
    by_cases h : n < m
    · simp [h]; omega
    · simp [h]; omega
  · by_cases h : n = m
    · subst h; rw [beq_self_eq_true, beq_self_eq_true]
    · have : digits wd.toNat n.toNat ≠ digits wd.toNat m.toNat := fun e => h (by have := congrArg val e; rw [h1, h2] at this; omega)
      rw [beq_eq_false_iff_ne.2 this, beq_eq_false_iff_ne.2 h]

theorem wider {n wd : Int} {A : ByteArray} (hk : okWidth wd = true) (h7 : wd ≤ 7) (hf : fits n wd = true) (hA : A.data.toList = digits wd.toNat n.toNat) :
    bytesV n (wd + 1) = (⟨#[0]⟩ ++ A, 0) := by
  obtain ⟨k1, k2⟩ := okWidth_iff.1 hk
  obtain ⟨⟨n0, n1⟩, n2⟩ := fits_iff.1 hf
  have hk' : okWidth (wd + 1) = true := okWidth_iff.2 ⟨by omega, by omega⟩
  have e : (wd + 1).toNat = wd.toNat + 1 := by omega
  have hf' : fits n (wd + 1) = true := by
    rw [fits_iff, e, Nat.pow_succ]
    exact ⟨⟨n0, n1⟩, by omega⟩
  rw [bytesV_ok hk' hf', e, digits_succ', Nat.div_eq_of_lt n2]
  refine Prod.ext ?_ rfl
  refine ba_ext ?_
  rw [ByteArray.data_append, Array.toList_append, hA]
  rfl

theorem halves {s : ByteArray} {at_ a b : Int} {l : List UInt8} (ha : 1 ≤ a) (hb : 1 ≤ b) (ha5 : a ≤ 5) (hb5 : b ≤ 5)
    (hl : (s.data.toList.drop at_.toNat).take (a + b).toNat = l) (hn : l.length = (a + b).toNat) (hv : val l ≤ 281474976710655) (hw : okWithin s.size at_ (a + b) = true) :
    ∃ m k : Nat, takeV s at_ a = ((m : Int), 0) ∧ takeV s (at_ + a) b = ((k : Int), 0) ∧ val l = m * 256 ^ b.toNat + k ∧ 0 ≤ at_ ∧ at_ ≤ s.size := by
  obtain ⟨k3, k4, k5, k6⟩ := okWithin_iff.1 hw
  have hab : (a + b).toNat = a.toNat + b.toNat := by omega
  have e1 : (s.data.toList.drop at_.toNat).take a.toNat = l.take a.toNat := by rw [← hl, List.take_take, Nat.min_eq_left (by omega)]
  have e2 : (s.data.toList.drop (at_ + a).toNat).take b.toNat = l.drop a.toNat := by
    rw [← hl, show (at_ + a).toNat = at_.toNat + a.toNat by omega, hab, ← List.drop_drop, List.drop_take, Nat.add_sub_cancel_left]
  have hs : l = l.take a.toNat ++ l.drop a.toNat := (List.take_append_drop _ _).symm
  have hvs : val l = val (l.take a.toNat) * 256 ^ b.toNat + val (l.drop a.toNat) := by
    conv => lhs; rw [hs, val_append]
    rw [List.length_drop, hn, hab, Nat.add_sub_cancel_left]
  have h1 : val (l.take a.toNat) ≤ val l := val_take_le l _
  have h2 : val (l.drop a.toNat) ≤ val l := by rw [hvs]; omega
  refine ⟨val (l.take a.toNat), val (l.drop a.toNat), ?_, ?_, hvs, k3, k4⟩
  · rw [takeV_ok (okWidth_iff.2 ⟨by omega, by omega⟩) (okWithin_iff.2 ⟨by omega, by omega, by omega, by omega⟩), e1, takeN, takeE, if_pos (by omega), if_pos (by omega)]
  · rw [takeV_ok (okWidth_iff.2 ⟨by omega, by omega⟩) (okWithin_iff.2 ⟨by omega, by omega, by omega, by omega⟩), e2, takeN, takeE, if_pos (by omega), if_pos (by omega)]

theorem fits8 (n : Int) : ((bytesV n 8).2 == 0) = okNum n := by
  rcases bool_cases (okNum n) with h | h
  · rw [bytesV_num (by decide) (by rw [fits, h]; rfl), h]; rfl
  · obtain ⟨h0, h1⟩ := okNum_iff.1 h
    have hf : fits n 8 = true := by
      rw [fits_iff]
      refine ⟨⟨h0, h1⟩, ?_⟩
      have : (256 : Nat) ^ (8 : Int).toNat = 18446744073709551616 := rfl
      omega
    rw [bytesV_ok (by decide) hf, h]; rfl

theorem fits6 {n wd : Int} (h1 : 1 ≤ wd) (h6 : wd ≤ 6) : ((bytesV n wd).2 == 0) = (decide (0 ≤ n) && decide (n < ((256 ^ wd.toNat : Nat) : Int))) := by
  have hk : okWidth wd = true := okWidth_iff.2 ⟨h1, by omega⟩
  have hp : 256 ^ wd.toNat ≤ 281474976710656 := by
    calc 256 ^ wd.toNat ≤ 256 ^ 6 := Nat.pow_le_pow_right (by omega) (by omega)
      _ = 281474976710656 := rfl
  rcases bool_cases (fits n wd) with h | h
  · rw [bytesV_num hk h]
    have : ¬ (0 ≤ n ∧ n < ((256 ^ wd.toNat : Nat) : Int)) := by
      intro ⟨a, b⟩
      have : fits n wd = true := by rw [fits_iff]; exact ⟨⟨a, by omega⟩, by omega⟩
      rw [this] at h
      cases h
    have e : (decide (0 ≤ n) && decide (n < ((256 ^ wd.toNat : Nat) : Int))) = false := by
      rw [Bool.and_eq_false_iff]
      by_cases ha : 0 ≤ n
      · right; simp only [decide_eq_false_iff_not]; exact fun hb => this ⟨ha, hb⟩
      · left; simpa using ha
    rw [e]; rfl
  · obtain ⟨⟨n0, n1⟩, n2⟩ := fits_iff.1 h
    rw [bytesV_ok hk h]
    have e : (decide (0 ≤ n) && decide (n < ((256 ^ wd.toNat : Nat) : Int))) = true := by
      rw [Bool.and_eq_true, decide_eq_true_eq, decide_eq_true_eq]; omega
    rw [e]; rfl

theorem parts_cases (s : ByteArray) (a : Int) :
    (∃ A B : ByteArray, cutV s 0 a = (A, 0) ∧ restV s a = (B, 0) ∧ (A.size : Int) = a ∧ A ++ B = s)
    ∨ (cutV s 0 a = (ByteArray.empty, 11) ∧ restV s a = (ByteArray.empty, 11)) := by
  rcases bool_cases (okWithin s.size 0 a) with h | h
  · refine .inr ⟨cutV_no h, restV_no ?_⟩
    rcases bool_cases (okWithin s.size a 0) with k | k
    · exact k
    · obtain ⟨k1, k2, k3, k4⟩ := okWithin_iff.1 k
      rw [okWithin_iff.2 ⟨by omega, by omega, by omega, by omega⟩] at h
      cases h
  · obtain ⟨k1, k2, k3, k4⟩ := okWithin_iff.1 h
    have hz := size_list s
    refine .inl ⟨_, _, cutV_ok h, restV_ok (okWithin_iff.2 ⟨by omega, by omega, by omega, by omega⟩), ?_, ?_⟩
    · rw [ByteArray.size_extract]; omega
    · refine ba_ext ?_
      rw [ByteArray.data_append, Array.toList_append, Lib.extract_data, Lib.extract_data, show (0 + a).toNat = a.toNat by omega, show (0 : Int).toNat = 0 from rfl, List.drop_zero, Nat.sub_zero]
      conv => rhs; rw [← List.take_append_drop a.toNat s.data.toList]
      congr 1
      exact List.take_of_length_le (by rw [List.length_drop]; omega)

def cutS (s : ByteArray) : ByteArray := s.extract 0 (min s.size 100)
theorem cutS_size (s : ByteArray) : (cutS s).size ≤ 100 := by rw [cutS, ByteArray.size_extract]; omega
theorem bytesV_size (n wd : Int) : (bytesV n wd).1.size ≤ 8 := by
  rcases bytes_cases n wd with ⟨A, h, k, _, _, hz⟩ | ⟨E, h, _, _⟩
  · rw [h]; have := okWidth_iff.1 k; simp only; omega
  · rw [h]; show ByteArray.empty.size ≤ 8; decide

end Go.Proofs.YtfnejgmgdhoanaaDoor
