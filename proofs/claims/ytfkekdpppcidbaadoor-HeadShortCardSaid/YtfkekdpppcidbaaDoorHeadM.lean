/-
  Heads of CBOR: plain naturals and lists, no program. No condition.
-/
import Derived.Test.YtfkekdpppcidbaaDoorNumsM
namespace Go.Proofs.YtfkekdpppcidbaaDoor

/-- May a major be? -/
def okMajor (m : Nat) : Bool := m == 0 || m == 2 || m == 3 || m == 4
/-- In how many bytes an argument stands. -/
def wOf (n : Nat) : Nat := if n < 24 then 0 else if n < 256 then 1 else if n < 65536 then 2 else if n < 4294967296 then 4 else 8
/-- What is put to the major. -/
def moreOf (n : Nat) : Nat := if n < 24 then n else if n < 256 then 24 else if n < 65536 then 25 else if n < 4294967296 then 26 else 27
/-- A head's bytes. -/
def headL (m n : Nat) : List UInt8 := UInt8.ofNat (32 * m + moreOf n) :: digits (wOf n) n
/-- The width that a rest of the first byte tells. -/
def wRest (k : Nat) : Nat := if k < 24 then 0 else if k = 24 then 1 else if k = 25 then 2 else if k = 26 then 4 else 8

inductive HeadR where
  | bad (e : Int)
  | ok (m n w : Nat)

/-- What stands at a text's beginning. -/
def decL : List UInt8 → HeadR
  | [] => .bad 11
  | b :: r =>
    if !(okMajor (b.toNat / 32) && decide (b.toNat % 32 ≤ 27)) then .bad 20
    else if b.toNat % 32 < 24 then .ok (b.toNat / 32) (b.toNat % 32) 0
    else if r.length < wRest (b.toNat % 32) then .bad 11
    else if 281474976710655 < val (r.take (wRest (b.toNat % 32))) then .bad 10
    else if wOf (val (r.take (wRest (b.toNat % 32)))) ≠ wRest (b.toNat % 32) then .bad 20
    else .ok (b.toNat / 32) (val (r.take (wRest (b.toNat % 32)))) (wRest (b.toNat % 32))

theorem wOf_cases (n : Nat) : (n < 24 ∧ wOf n = 0 ∧ moreOf n = n) ∨ (24 ≤ n ∧ n < 256 ∧ wOf n = 1 ∧ moreOf n = 24) ∨ (256 ≤ n ∧ n < 65536 ∧ wOf n = 2 ∧ moreOf n = 25) ∨ (65536 ≤ n ∧ n < 4294967296 ∧ wOf n = 4 ∧ moreOf n = 26)
    ∨ (4294967296 ≤ n ∧ wOf n = 8 ∧ moreOf n = 27) := by
  unfold wOf moreOf
  by_cases h1 : n < 24
  · simp [h1]
  by_cases h2 : n < 256
  · simp [h1, h2]; omega
  by_cases h3 : n < 65536
  · simp [h1, h2, h3]; omega
  by_cases h4 : n < 4294967296
  · simp [h1, h2, h3, h4]; omega
  · simp [h1, h2, h3, h4]; omega
theorem moreOf_le (n : Nat) : moreOf n ≤ 27 := by
  rcases wOf_cases n with ⟨a, b, c⟩ | ⟨a, a', b, c⟩ | ⟨a, a', b, c⟩ | ⟨a, a', b, c⟩ | ⟨a, b, c⟩ <;> omega
theorem wRest_more (n : Nat) : wRest (moreOf n) = wOf n := by
  rcases wOf_cases n with ⟨a, b, c⟩ | ⟨a, a', b, c⟩ | ⟨a, a', b, c⟩ | ⟨a, a', b, c⟩ | ⟨a, b, c⟩ <;> rw [b, c] <;> simp [wRest]
  omega
theorem okMajor_iff {m : Nat} : okMajor m = true ↔ m = 0 ∨ m = 2 ∨ m = 3 ∨ m = 4 := by simp [okMajor]; omega
theorem okMajor_le {m : Nat} (h : okMajor m = true) : m ≤ 4 := by have := okMajor_iff.1 h; omega
theorem first_nat {m n : Nat} (h : okMajor m = true) : (UInt8.ofNat (32 * m + moreOf n)).toNat = 32 * m + moreOf n := by
  have := okMajor_le h
  have := moreOf_le n
  exact UInt8.toNat_ofNat_of_lt' (by show _ < 256; omega)
theorem headL_length (m n : Nat) : (headL m n).length = 1 + wOf n := by simp [headL, digits_length]; omega
theorem wOf_le (n : Nat) : wOf n ≤ 8 := by
  rcases wOf_cases n with ⟨a, b, c⟩ | ⟨a, a', b, c⟩ | ⟨a, a', b, c⟩ | ⟨a, a', b, c⟩ | ⟨a, b, c⟩ <;> omega
theorem wOf_fits {n : Nat} (h : n ≤ 281474976710655) (hw : wOf n ≠ 0) : n < 256 ^ wOf n := by
  rcases wOf_cases n with ⟨a, b, c⟩ | ⟨a, a', b, c⟩ | ⟨a, a', b, c⟩ | ⟨a, a', b, c⟩ | ⟨a, b, c⟩ <;> rw [b] at hw ⊢ <;> omega
theorem val_head {n : Nat} (h : n ≤ 281474976710655) (hw : wOf n ≠ 0) : val (digits (wOf n) n) = n := by
  rw [val_digits]; exact Nat.mod_eq_of_lt (wOf_fits h hw)

/-- A head is decoded from its bytes, whatever stands behind. -/
theorem dec_head {m n : Nat} (hm : okMajor m = true) (hn : n ≤ 281474976710655) (t : List UInt8) : decL (headL m n ++ t) = .ok m n (wOf n) := by
  have h1 := first_nat (n := n) hm
  have h2 := moreOf_le n
  have hd : (32 * m + moreOf n) / 32 = m := by omega
  have hr : (32 * m + moreOf n) % 32 = moreOf n := by omega
  rw [headL, List.cons_append, decL, h1, hd, hr, hm, wRest_more]
  rw [if_neg (by simp [h2])]
  by_cases h24 : n < 24
  · have : moreOf n = n := by simp [moreOf, h24]
    have hw : wOf n = 0 := by simp [wOf, h24]
    rw [this, if_pos h24, hw]
  · have hw : wOf n ≠ 0 := by
      rcases wOf_cases n with ⟨a, b, c⟩ | ⟨a, a', b, c⟩ | ⟨a, a', b, c⟩ | ⟨a, a', b, c⟩ | ⟨a, b, c⟩ <;> omega
    have hm24 : ¬ moreOf n < 24 := by
      rcases wOf_cases n with ⟨a, b, c⟩ | ⟨a, a', b, c⟩ | ⟨a, a', b, c⟩ | ⟨a, a', b, c⟩ | ⟨a, b, c⟩ <;> omega
    have ht : (digits (wOf n) n ++ t).take (wOf n) = digits (wOf n) n := by
      conv => lhs; rw [List.take_append_of_le_length (by rw [digits_length]; omega)]
      rw [List.take_of_length_le (by rw [digits_length]; omega)]
    rw [if_neg hm24, if_neg (by rw [List.length_append, digits_length]; omega), ht, val_head hn hw, if_neg (by omega), if_neg (by simp)]

/-- What is decoded has these bytes. -/
theorem head_dec {l : List UInt8} {m n w : Nat} (h : decL l = .ok m n w) : okMajor m = true ∧ n ≤ 281474976710655 ∧ w = wOf n ∧ l.take (1 + w) = headL m n ∧ 1 + w ≤ l.length := by
  match l, h with
  | b :: r, h =>
    rw [decL] at h
    have hb := b.toNat_lt
    by_cases c1 : (okMajor (b.toNat / 32) && decide (b.toNat % 32 ≤ 27)) = true
    · rw [if_neg (by simp [c1])] at h
      rw [Bool.and_eq_true, decide_eq_true_eq] at c1
      obtain ⟨k1, k2⟩ := c1
      by_cases c2 : b.toNat % 32 < 24
      · rw [if_pos c2] at h
        injection h with e1 e2 e3
        subst e1 e2 e3
        have hw : wOf (b.toNat % 32) = 0 := by simp [wOf, c2]
        have hmo : moreOf (b.toNat % 32) = b.toNat % 32 := by simp [moreOf, c2]
        refine ⟨k1, by omega, hw.symm, ?_, by simp⟩
        rw [headL, hw, hmo, digits, show 32 * (b.toNat / 32) + b.toNat % 32 = b.toNat by omega]
        simp
      · rw [if_neg c2] at h
        by_cases c3 : r.length < wRest (b.toNat % 32)
        · rw [if_pos c3] at h; cases h
        rw [if_neg c3] at h
        by_cases c4 : 281474976710655 < val (r.take (wRest (b.toNat % 32)))
        · rw [if_pos c4] at h; cases h
        rw [if_neg c4] at h
        by_cases c5 : wOf (val (r.take (wRest (b.toNat % 32)))) ≠ wRest (b.toNat % 32)
        · rw [if_pos c5] at h; cases h
        rw [if_neg c5] at h
        have c5' : wOf (val (r.take (wRest (b.toNat % 32)))) = wRest (b.toNat % 32) := by simpa using c5
        injection h with e1 e2 e3
        subst e1 e2 e3
        have hlen : (r.take (wRest (b.toNat % 32))).length = wRest (b.toNat % 32) := by rw [List.length_take]; omega
        have hmo : moreOf (val (r.take (wRest (b.toNat % 32)))) = b.toNat % 32 := by
          have hcases := wOf_cases (val (r.take (wRest (b.toNat % 32))))
          rw [c5'] at hcases
          have hk : b.toNat % 32 = 24 ∨ b.toNat % 32 = 25 ∨ b.toNat % 32 = 26 ∨ b.toNat % 32 = 27 := by omega
          generalize val (r.take (wRest (b.toNat % 32))) = v at *
          rcases hk with hk | hk | hk | hk <;> rw [hk] at hcases ⊢ <;> simp [wRest] at hcases <;> omega
        refine ⟨k1, by omega, c5'.symm, ?_, by simp; omega⟩
        rw [headL, c5', hmo, show 32 * (b.toNat / 32) + b.toNat % 32 = b.toNat by omega]
        have hdv := digits_val (r.take (wRest (b.toNat % 32)))
        rw [hlen] at hdv
        rw [hdv, Nat.add_comm 1, List.take_succ_cons]
        simp
    · rw [if_pos (by simp [c1])] at h; cases h
  | [], h => cases h

/-- The beginning of a head's bytes that is not all of them is too short. -/
theorem dec_short {m n : Nat} (hm : okMajor m = true) (k : Nat) (hk : k < 1 + wOf n) : decL ((headL m n).take k) = .bad 11 := by
  cases k with
  | zero => simp [decL]
  | succ k =>
    have h1 := first_nat (n := n) hm
    have h2 := moreOf_le n
    have hd : (32 * m + moreOf n) / 32 = m := by omega
    have hr : (32 * m + moreOf n) % 32 = moreOf n := by omega
    have hm24 : ¬ moreOf n < 24 := by
      rcases wOf_cases n with ⟨a, b, c⟩ | ⟨a, a', b, c⟩ | ⟨a, a', b, c⟩ | ⟨a, a', b, c⟩ | ⟨a, b, c⟩ <;> omega
    rw [headL, List.take_succ_cons, decL, h1, hd, hr, hm, wRest_more, if_neg (by simp [h2]), if_neg hm24, if_pos (by rw [List.length_take, digits_length]; omega)]

theorem headL_inj {a n b m : Nat} (ha : okMajor a = true) (hb : okMajor b = true) (hn : n ≤ 281474976710655) (hm : m ≤ 281474976710655) (t : List UInt8) (h : headL a n ++ t = headL b m) : a = b ∧ n = m := by
  have h1 := dec_head ha hn t
  rw [h] at h1
  have h2 := dec_head hb hm []
  rw [List.append_nil, h1] at h2
  injection h2 with e1 e2 e3
  exact ⟨e1, e2⟩

theorem wOf_mono {n m : Nat} (h : n ≤ m) : wOf n ≤ wOf m := by
  rcases wOf_cases n with ⟨a, b, c⟩ | ⟨a, a', b, c⟩ | ⟨a, a', b, c⟩ | ⟨a, a', b, c⟩ | ⟨a, b, c⟩ <;> rcases wOf_cases m with ⟨d, e, f⟩ | ⟨d, d', e, f⟩ | ⟨d, d', e, f⟩ | ⟨d, d', e, f⟩ | ⟨d, e, f⟩ <;> omega
theorem wOf_vals (n : Nat) : wOf n = 0 ∨ wOf n = 1 ∨ wOf n = 2 ∨ wOf n = 4 ∨ wOf n = 8 := by
  rcases wOf_cases n with ⟨a, b, c⟩ | ⟨a, a', b, c⟩ | ⟨a, a', b, c⟩ | ⟨a, a', b, c⟩ | ⟨a, b, c⟩ <;> omega

/-- The majors of what is decoded are majors; the errors are three. -/
theorem dec_bad {l : List UInt8} {e : Int} (h : decL l = .bad e) : e = 11 ∨ e = 20 ∨ e = 10 := by
  match l, h with
  | [], h => injection h with h; exact .inl h.symm
  | b :: r, h =>
    rw [decL] at h
    split at h
    · injection h with h; exact .inr (.inl h.symm)
    split at h
    · cases h
    split at h
    · injection h with h; exact .inl h.symm
    split at h
    · injection h with h; exact .inr (.inr h.symm)
    split at h
    · injection h with h; exact .inr (.inl h.symm)
    · cases h

end Go.Proofs.YtfkekdpppcidbaaDoor
