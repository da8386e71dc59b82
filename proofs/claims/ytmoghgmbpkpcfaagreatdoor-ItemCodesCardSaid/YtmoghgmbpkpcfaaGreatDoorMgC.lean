/-
  Numbers as bytes: plain lists and naturals, no program: 'val', 'digits', and what the program and the document's answer compute with them. No condition. Heads of CBOR: plain naturals and lists, no program. No condition. Items of CBOR as trees: which are right, their bytes, reading. Plain lists, no program. No condition. Items of CBOR: what the laws of chapter 04 ask, over plain lists, no program. No condition.
-/
import Derived.WalkKit
namespace Go.Proofs.YtmoghgmbpkpcfaaGreatDoor

theorem snoc_ind {α : Type} {C : List α → Prop} (h0 : C []) (hs : ∀ l a, C l → C (l ++ [a])) : ∀ l, C l := by
  intro l
  have : ∀ r : List α, C r.reverse := by
    intro r
    induction r with
    | nil => exact h0
    | cons a r ih => rw [List.reverse_cons]; exact hs _ _ ih
  have := this l.reverse
  rwa [List.reverse_reverse] at this

/-- The number of some bytes, the greatest part first. -/
def valFrom (acc : Nat) (l : List UInt8) : Nat := l.foldl (fun a b => a * 256 + b.toNat) acc
def val (l : List UInt8) : Nat := valFrom 0 l

theorem valFrom_append (acc : Nat) (l m : List UInt8) : valFrom acc (l ++ m) = valFrom (valFrom acc l) m := by simp [valFrom]
theorem valFrom_cons (acc : Nat) (b : UInt8) (l : List UInt8) : valFrom acc (b :: l) = valFrom (acc * 256 + b.toNat) l := rfl
theorem valFrom_nil (acc : Nat) : valFrom acc [] = acc := rfl
theorem valFrom_eq (acc : Nat) (l : List UInt8) : valFrom acc l = acc * 256 ^ l.length + val l := by
  induction l generalizing acc with
  | nil => simp [valFrom, val]
  | cons b l ih =>
    rw [valFrom_cons, ih]
    show _ = _ + valFrom (0 * 256 + b.toNat) l
    rw [ih (0 * 256 + b.toNat)]
    simp only [List.length_cons, Nat.pow_succ, Nat.zero_mul, Nat.zero_add, Nat.add_mul]
    rw [Nat.mul_comm (256 ^ l.length) 256, ← Nat.mul_assoc]
    omega
theorem val_append (l m : List UInt8) : val (l ++ m) = val l * 256 ^ m.length + val m := by
  rw [val, valFrom_append, valFrom_eq]; rfl
theorem val_snoc (l : List UInt8) (b : UInt8) : val (l ++ [b]) = val l * 256 + b.toNat := by
  rw [val, valFrom_append]; rfl
theorem val_lt (l : List UInt8) : val l < 256 ^ l.length := by
  induction l using snoc_ind with
  | h0 => simp [val, valFrom]
  | hs l b ih =>
    rw [val_snoc, List.length_append]
    simp only [List.length_cons, List.length_nil, Nat.pow_succ, Nat.zero_add]
    have := b.toNat_lt
    omega
theorem val_take_le (l : List UInt8) (k : Nat) : val (l.take k) ≤ val l := by
  conv => rhs; rw [← List.take_append_drop k l, val_append]
  have : 1 ≤ 256 ^ (l.drop k).length := Nat.one_le_pow _ _ (by omega)
  calc val (l.take k) = val (l.take k) * 1 := by omega
    _ ≤ val (l.take k) * 256 ^ (l.drop k).length := Nat.mul_le_mul_left _ this
    _ ≤ _ := by omega

/-- A number's bytes in a width, the greatest part first. -/
def digits : Nat → Nat → List UInt8
  | 0, _ => []
  | w + 1, n => digits w (n / 256) ++ [UInt8.ofNat (n % 256)]

theorem digits_length (w n : Nat) : (digits w n).length = w := by
  induction w generalizing n with
  | zero => rfl
  | succ w ih => simp [digits, ih]
theorem val_digits (w n : Nat) : val (digits w n) = n % 256 ^ w := by
  induction w generalizing n with
  | zero => simp [digits, val, valFrom, Nat.mod_one]
  | succ w ih =>
    rw [digits, val_snoc, ih, Nat.pow_succ, Nat.mul_comm (256 ^ w) 256, Nat.mod_mul]
    have : (UInt8.ofNat (n % 256)).toNat = n % 256 := by simp
    rw [this]; omega
theorem digits_val (l : List UInt8) : digits l.length (val l) = l := by
  induction l using snoc_ind with
  | h0 => rfl
  | hs l b ih =>
    rw [List.length_append, val_snoc]
    show digits l.length ((val l * 256 + b.toNat) / 256) ++ [UInt8.ofNat ((val l * 256 + b.toNat) % 256)] = _
    have hb := b.toNat_lt
    rw [show (val l * 256 + b.toNat) / 256 = val l by omega, show (val l * 256 + b.toNat) % 256 = b.toNat by omega, ih]
    simp
/-- The least byte first: the bytes behind the first k rounds. -/
theorem digits_succ' (w n : Nat) : digits (w + 1) n = UInt8.ofNat (n / 256 ^ w % 256) :: digits w n := by
  induction w generalizing n with
  | zero => simp [digits]
  | succ w ih =>
    rw [digits, ih (n / 256)]
    show _ = _ :: (digits w (n / 256) ++ [UInt8.ofNat (n % 256)])
    rw [Nat.div_div_eq_div_mul, show 256 * 256 ^ w = 256 ^ (w + 1) by rw [Nat.pow_succ, Nat.mul_comm]]
    rfl

end Go.Proofs.YtmoghgmbpkpcfaaGreatDoor

namespace Go.Proofs.YtmoghgmbpkpcfaaGreatDoor

/-- May a major be? -/
def okMajor (m : Nat) : Bool := m == 0 || m == 2 || m == 3 || m == 4
/-- In how many bytes an argument stands. -/
def wOf (n : Nat) : Nat := if n < 24 then 0 else if n < 256 then 1 else if n < 65536 then 2 else if n < 4294967296 then 4 else 8
/-- What is put to the major. -/
def moreOf (n : Nat) : Nat := if n < 24 then n else if n < 256 then 24 else if n < 65536 then 25 else if n < 4294967296 then 26 else 27
/-- A head's bytes. -/
def headL (m n : Nat) : List UInt8 := UInt8.ofNat (32 * m + moreOf n) :: digits (wOf n) n
/-- The width that a rest of the first byte tells. -/
def wRest (k : Nat) : Nat := if k < 24 then 0 else if k = 24 then 1 else if k = 25 then 2 else if k = 26 then 4 else 8

inductive HeadR where
  | bad (e : Int)
  | ok (m n w : Nat)

/-- What stands at a text's beginning. -/
def decL : List UInt8 → HeadR
  | [] => .bad 11
  | b :: r =>
    if !(okMajor (b.toNat / 32) && decide (b.toNat % 32 ≤ 27)) then .bad 20
    else if b.toNat % 32 < 24 then .ok (b.toNat / 32) (b.toNat % 32) 0
    else if r.length < wRest (b.toNat % 32) then .bad 11
    else if 281474976710655 < val (r.take (wRest (b.toNat % 32))) then .bad 10
    else if wOf (val (r.take (wRest (b.toNat % 32)))) ≠ wRest (b.toNat % 32) then .bad 20
    else .ok (b.toNat / 32) (val (r.take (wRest (b.toNat % 32)))) (wRest (b.toNat % 32))

theorem wOf_cases (n : Nat) : (n < 24 ∧ wOf n = 0 ∧ moreOf n = n) ∨ (24 ≤ n ∧ n < 256 ∧ wOf n = 1 ∧ moreOf n = 24) ∨ (256 ≤ n ∧ n < 65536 ∧ wOf n = 2 ∧ moreOf n = 25) ∨ (65536 ≤ n ∧ n < 4294967296 ∧ wOf n = 4 ∧ moreOf n = 26)
    ∨ (4294967296 ≤ n ∧ wOf n = 8 ∧ moreOf n = 27) := by
  unfold wOf moreOf
  by_cases h1 : n < 24
  · simp [h1]
  by_cases h2 : n < 256
  · simp [h1, h2]; omega
  by_cases h3 : n < 65536
  · simp [h1, h2, h3]; omega
  by_cases h4 : n < 4294967296
  · simp [h1, h2, h3, h4]; omega
  · simp [h1, h2, h3, h4]; omega
theorem moreOf_le (n : Nat) : moreOf n ≤ 27 := by
  rcases wOf_cases n with ⟨a, b, c⟩ | ⟨a, a', b, c⟩ | ⟨a, a', b, c⟩ | ⟨a, a', b, c⟩ | ⟨a, b, c⟩ <;> omega
theorem wRest_more (n : Nat) : wRest (moreOf n) = wOf n := by
  rcases wOf_cases n with ⟨a, b, c⟩ | ⟨a, a', b, c⟩ | ⟨a, a', b, c⟩ | ⟨a, a', b, c⟩ | ⟨a, b, c⟩ <;> rw [b, c] <;> simp [wRest]
  omega
theorem okMajor_iff {m : Nat} : okMajor m = true ↔ m = 0 ∨ m = 2 ∨ m = 3 ∨ m = 4 := by simp [okMajor]; omega
theorem okMajor_le {m : Nat} (h : okMajor m = true) : m ≤ 4 := by have := okMajor_iff.1 h; omega
theorem first_nat {m n : Nat} (h : okMajor m = true) : (UInt8.ofNat (32 * m + moreOf n)).toNat = 32 * m + moreOf n := by
  have := okMajor_le h
  have := moreOf_le n
  exact UInt8.toNat_ofNat_of_lt' (by show _ < 256; omega)
theorem headL_length (m n : Nat) : (headL m n).length = 1 + wOf n := by simp [headL, digits_length]; omega
theorem wOf_le (n : Nat) : wOf n ≤ 8 := by
  rcases wOf_cases n with ⟨a, b, c⟩ | ⟨a, a', b, c⟩ | ⟨a, a', b, c⟩ | ⟨a, a', b, c⟩ | ⟨a, b, c⟩ <;> omega
theorem wOf_fits {n : Nat} (h : n ≤ 281474976710655) (hw : wOf n ≠ 0) : n < 256 ^ wOf n := by
  rcases wOf_cases n with ⟨a, b, c⟩ | ⟨a, a', b, c⟩ | ⟨a, a', b, c⟩ | ⟨a, a', b, c⟩ | ⟨a, b, c⟩ <;> rw [b] at hw ⊢ <;> omega
theorem val_head {n : Nat} (h : n ≤ 281474976710655) (hw : wOf n ≠ 0) : val (digits (wOf n) n) = n := by
  rw [val_digits]; exact Nat.mod_eq_of_lt (wOf_fits h hw)

/-- A head is decoded from its bytes, whatever stands behind. -/
theorem dec_head {m n : Nat} (hm : okMajor m = true) (hn : n ≤ 281474976710655) (t : List UInt8) : decL (headL m n ++ t) = .ok m n (wOf n) := by
  have h1 := first_nat (n := n) hm
  have h2 := moreOf_le n
  have hd : (32 * m + moreOf n) / 32 = m := by omega
  have hr : (32 * m + moreOf n) % 32 = moreOf n := by omega
  rw [headL, List.cons_append, decL, h1, hd, hr, hm, wRest_more]
  rw [if_neg (by simp [h2])]
  by_cases h24 : n < 24
  · have : moreOf n = n := by simp [moreOf, h24]
    have hw : wOf n = 0 := by simp [wOf, h24]
    rw [this, if_pos h24, hw]
  · have hw : wOf n ≠ 0 := by
      rcases wOf_cases n with ⟨a, b, c⟩ | ⟨a, a', b, c⟩ | ⟨a, a', b, c⟩ | ⟨a, a', b, c⟩ | ⟨a, b, c⟩ <;> omega
    have hm24 : ¬ moreOf n < 24 := by
      rcases wOf_cases n with ⟨a, b, c⟩ | ⟨a, a', b, c⟩ | ⟨a, a', b, c⟩ | ⟨a, a', b, c⟩ | ⟨a, b, c⟩ <;> omega
    have ht : (digits (wOf n) n ++ t).take (wOf n) = digits (wOf n) n := by
      conv => lhs; rw [List.take_append_of_le_length (by rw [digits_length]; omega)]
      rw [List.take_of_length_le (by rw [digits_length]; omega)]
    rw [if_neg hm24, if_neg (by rw [List.length_append, digits_length]; omega), ht, val_head hn hw, if_neg (by omega), if_neg (by simp)]

/-- What is decoded has these bytes. -/
theorem head_dec {l : List UInt8} {m n w : Nat} (h : decL l = .ok m n w) : okMajor m = true ∧ n ≤ 281474976710655 ∧ w = wOf n ∧ l.take (1 + w) = headL m n ∧ 1 + w ≤ l.length := by
  match l, h with
  | b :: r, h =>
    rw [decL] at h
    have hb := b.toNat_lt
    by_cases c1 : (okMajor (b.toNat / 32) && decide (b.toNat % 32 ≤ 27)) = true
    · rw [if_neg (by simp [c1])] at h
      rw [Bool.and_eq_true, decide_eq_true_eq] at c1
      obtain ⟨k1, k2⟩ := c1
      by_cases c2 : b.toNat % 32 < 24
      · rw [if_pos c2] at h
        injection h with e1 e2 e3
        subst e1 e2 e3
        have hw : wOf (b.toNat % 32) = 0 := by simp [wOf, c2]
        have hmo : moreOf (b.toNat % 32) = b.toNat % 32 := by simp [moreOf, c2]
        refine ⟨k1, by omega, hw.symm, ?_, by simp⟩
        rw [headL, hw, hmo, digits, show 32 * (b.toNat / 32) + b.toNat % 32 = b.toNat by omega]
        simp
      · rw [if_neg c2] at h
        by_cases c3 : r.length < wRest (b.toNat % 32)
        · rw [if_pos c3] at h; cases h
        rw [if_neg c3] at h
        by_cases c4 : 281474976710655 < val (r.take (wRest (b.toNat % 32)))
        · rw [if_pos c4] at h; cases h
        rw [if_neg c4] at h
        by_cases c5 : wOf (val (r.take (wRest (b.toNat % 32)))) ≠ wRest (b.toNat % 32)
        · rw [if_pos c5] at h; cases h
        rw [if_neg c5] at h
        have c5' : wOf (val (r.take (wRest (b.toNat % 32)))) = wRest (b.toNat % 32) := by simpa using c5
        injection h with e1 e2 e3
        subst e1 e2 e3
        have hlen : (r.take (wRest (b.toNat % 32))).length = wRest (b.toNat % 32) := by rw [List.length_take]; omega
        have hmo : moreOf (val (r.take (wRest (b.toNat % 32)))) = b.toNat % 32 := by
          have hcases := wOf_cases (val (r.take (wRest (b.toNat % 32))))
          rw [c5'] at hcases
          have hk : b.toNat % 32 = 24 ∨ b.toNat % 32 = 25 ∨ b.toNat % 32 = 26 ∨ b.toNat % 32 = 27 := by omega
          generalize val (r.take (wRest (b.toNat % 32))) = v at *
          rcases hk with hk | hk | hk | hk <;> rw [hk] at hcases ⊢ <;> simp [wRest] at hcases <;> omega
        refine ⟨k1, by omega, c5'.symm, ?_, by simp; omega⟩
        rw [headL, c5', hmo, show 32 * (b.toNat / 32) + b.toNat % 32 = b.toNat by omega]
        have hdv := digits_val (r.take (wRest (b.toNat % 32)))
        rw [hlen] at hdv
        rw [hdv, Nat.add_comm 1, List.take_succ_cons]
        simp
    · rw [if_pos (by simp [c1])] at h; cases h
  | [], h => cases h

/-- The beginning of a head's bytes that is not all of them is too short. -/
theorem dec_short {m n : Nat} (hm : okMajor m = true) (k : Nat) (hk : k < 1 + wOf n) : decL ((headL m n).take k) = .bad 11 := by
  cases k with
  | zero => simp [decL]
  | succ k =>
    have h1 := first_nat (n := n) hm
    have h2 := moreOf_le n
    have hd : (32 * m + moreOf n) / 32 = m := by omega
    have hr : (32 * m + moreOf n) % 32 = moreOf n := by omega
    have hm24 : ¬ moreOf n < 24 := by
      rcases wOf_cases n with ⟨a, b, c⟩ | ⟨a, a', b, c⟩ | ⟨a, a', b, c⟩ | ⟨a, a', b, c⟩ | ⟨a, b, c⟩ <;> omega
    rw [headL, List.take_succ_cons, decL, h1, hd, hr, hm, wRest_more, if_neg (by simp [h2]), if_neg hm24, if_pos (by rw [List.length_take, digits_length]; omega)]

theorem headL_inj {a n b m : Nat} (ha : okMajor a = true) (hb : okMajor b = true) (hn : n ≤ 281474976710655) (hm : m ≤ 281474976710655) (t : List UInt8) (h : headL a n ++ t = headL b m) : a = b ∧ n = m := by
  have h1 := dec_head ha hn t
  rw [h] at h1
  have h2 := dec_head hb hm []
  rw [List.append_nil, h1] at h2
  injection h2 with e1 e2 e3
  exact ⟨e1, e2⟩

theorem wOf_mono {n m : Nat} (h : n ≤ m) : wOf n ≤ wOf m := by
  rcases wOf_cases n with ⟨a, b, c⟩ | ⟨a, a', b, c⟩ | ⟨a, a', b, c⟩ | ⟨a, a', b, c⟩ | ⟨a, b, c⟩ <;> rcases wOf_cases m with ⟨d, e, f⟩ | ⟨d, d', e, f⟩ | ⟨d, d', e, f⟩ | ⟨d, d', e, f⟩ | ⟨d, e, f⟩ <;> omega
theorem wOf_vals (n : Nat) : wOf n = 0 ∨ wOf n = 1 ∨ wOf n = 2 ∨ wOf n = 4 ∨ wOf n = 8 := by
  rcases wOf_cases n with ⟨a, b, c⟩ | ⟨a, a', b, c⟩ | ⟨a, a', b, c⟩ | ⟨a, a', b, c⟩ | ⟨a, b, c⟩ <;> omega

/-- The majors of what is decoded are majors; the errors are three. -/
theorem dec_bad {l : List UInt8} {e : Int} (h : decL l = .bad e) : e = 11 ∨ e = 20 ∨ e = 10 := by
  match l, h with
  | [], h => injection h with h; exact .inl h.symm
  | b :: r, h =>
    rw [decL] at h
    split at h
    · injection h with h; exact .inr (.inl h.symm)
    split at h
    · cases h
    split at h
    · injection h with h; exact .inl h.symm
    split at h
    · injection h with h; exact .inr (.inr h.symm)
    split at h
    · injection h with h; exact .inr (.inl h.symm)
    · cases h

end Go.Proofs.YtmoghgmbpkpcfaaGreatDoor

namespace Go.Proofs.YtmoghgmbpkpcfaaGreatDoor

/-- An item: kind, number, text, items in it. -/
inductive IN where
  | mk (k n : Int) (s : ByteArray) (l : List IN)
def IN.kind : IN → Int | .mk k _ _ _ => k
def IN.num : IN → Int | .mk _ n _ _ => n
def IN.txt : IN → ByteArray | .mk _ _ s _ => s
def IN.kids : IN → List IN | .mk _ _ _ l => l
theorem IN.ind {P : IN → Prop} (h : ∀ k n s l, (∀ x ∈ l, P x) → P (.mk k n s l)) (x : IN) : P x :=
  IN.rec (motive_1 := P) (motive_2 := fun l => ∀ x ∈ l, P x) (fun k n s l ih => h k n s l ih) (fun x hx => by cases hx)
    (fun y l h1 h2 x hx => by
      rcases List.mem_cons.1 hx with e | hx
      · rw [e]; exact h1
      · exact h2 x hx) x
/-- Are all bytes a text's? -/
def textB (l : List UInt8) : Bool := l.all fun b => decide (32 ≤ b.toNat) && decide (b.toNat ≤ 126)
/-- Is an item right, but for those in it? -/
def oneB (k n : Int) (s : ByteArray) (m : Nat) : Bool :=
  if k = 0 then decide (0 ≤ n) && decide (n ≤ 281474976710655) && decide (s.size = 0) && decide (m = 0)
  else if k = 2 then decide (n = 0) && decide (s.size ≤ 600) && decide (m = 0)
  else if k = 3 then decide (n = 0) && decide (s.size ≤ 600) && decide (m = 0) && textB s.data.toList
  else decide (k = 4) && decide (n = 0) && decide (s.size = 0)
def IN.one : IN → Bool | .mk k n s l => oneB k n s l.length
/-- A head's argument. -/
def argI (n : Int) (s m : Nat) : Int := max (max n (s : Int)) (m : Int)
def IN.arg : IN → Int | .mk _ n s l => argI n s.size l.length
mutual
/-- An item's bytes. -/
def IN.bytes : IN → List UInt8
  | .mk k n s l => headL k.toNat (argI n s.size l.length).toNat ++ s.data.toList ++ IN.bytesL l
def IN.bytesL : List IN → List UInt8
  | [] => []
  | x :: l => x.bytes ++ IN.bytesL l
end
mutual
/-- How many items there are in an item. -/
def IN.size : IN → Nat
  | .mk _ _ _ l => 1 + IN.sizeL l
def IN.sizeL : List IN → Nat
  | [] => 0
  | x :: l => x.size + IN.sizeL l
end
mutual
/-- All items in an item, itself first, each with how deep it stands. -/
def IN.pre : IN → Nat → List (Nat × IN)
  | .mk k n s l, d => (d, .mk k n s l) :: IN.preL l (d + 1)
def IN.preL : List IN → Nat → List (Nat × IN)
  | [], _ => []
  | x :: l, d => x.pre d ++ IN.preL l d
end
mutual
/-- Are all items right, each for itself, and not deeper than so much? -/
def IN.ok : IN → Nat → Bool
  | _, 0 => false
  | .mk k n s l, f + 1 => oneB k n s l.length && IN.okL l f
def IN.okL : List IN → Nat → Bool
  | [], _ => true
  | x :: l, f => x.ok f && IN.okL l f
end
/-- Is an item right? -/
def IN.right (x : IN) : Bool := x.ok 6 && decide (x.size ≤ 60)
mutual
/-- How many items there are, as the document counts. -/
def IN.count : IN → Nat → Nat
  | .mk k n s l, d => if 6 < d then 61 else if oneB k n s l.length = true then min (IN.countL l (d + 1) 1) 61 else 61
def IN.countL : List IN → Nat → Nat → Nat
  | [], _, n => n
  | x :: l, d, n => if n ≤ 60 then IN.countL l d (n + x.count d) else n
end
mutual
def IN.same : IN → IN → Bool
  | .mk k n s l, .mk k' n' s' l' => decide (k = k') && decide (n = n') && decide (s = s') && IN.sameL l l'
def IN.sameL : List IN → List IN → Bool
  | [], [] => true
  | x :: l, y :: m => x.same y && IN.sameL l m
  | [], _ :: _ => false
  | _ :: _, [] => false
end

theorem IN.size_pos (x : IN) : 1 ≤ x.size := by
  cases x; rw [IN.size]; omega
theorem preL_length (l : List IN) (d : Nat) (h : ∀ x ∈ l, (x.pre d).length = x.size) : (IN.preL l d).length = IN.sizeL l := by
  induction l with
  | nil => rfl
  | cons x l ih => rw [IN.preL, IN.sizeL, List.length_append, h x (by simp), ih fun y hy => h y (by simp [hy])]
theorem IN.pre_length (x : IN) : ∀ d, (x.pre d).length = x.size := by
  induction x using IN.ind with
  | h k n s l ih =>
    intro d
    rw [IN.pre, IN.size, List.length_cons, preL_length l (d + 1) fun x hx => ih x hx (d + 1)]
    omega
/-- All that stands in order, told one by one. -/
def okAt (p : Nat × IN) : Bool := decide (p.1 ≤ 6) && p.2.one
theorem preL_all (l : List IN) (d f : Nat) (h : ∀ x ∈ l, (x.pre d).all okAt = x.ok f) : (IN.preL l d).all okAt = IN.okL l f := by
  induction l with
  | nil => rw [IN.preL, IN.okL]; rfl
  | cons x l ih => rw [IN.preL, IN.okL, List.all_append, h x (by simp), ih fun y hy => h y (by simp [hy])]
theorem IN.pre_all (x : IN) : ∀ d f, d + f = 7 → (x.pre d).all okAt = x.ok f := by
  induction x using IN.ind with
  | h k n s l ih =>
    intro d f hdf
    rw [IN.pre, List.all_cons]
    cases f with
    | zero =>
      rw [IN.ok, okAt, decide_eq_false (by omega)]
      rfl
    | succ f =>
      rw [IN.ok, preL_all l (d + 1) f fun x hx => ih x hx (d + 1) f (by omega), okAt, decide_eq_true (by show d ≤ 6; omega), Bool.true_and]
      rfl
theorem IN.right_pre (x : IN) : x.right = (decide ((x.pre 1).length ≤ 60) && (x.pre 1).all okAt) := by
  rw [IN.right, x.pre_all 1 6 rfl, x.pre_length, Bool.and_comm]

theorem countL_eq (l : List IN) (d f : Nat) (h : ∀ x ∈ l, x.count d = if x.ok f = true ∧ x.size ≤ 60 then x.size else 61) :
    ∀ n, min (IN.countL l d n) 61 = if n ≤ 60 then (if IN.okL l f = true ∧ n + IN.sizeL l ≤ 60 then n + IN.sizeL l else 61) else 61 := by
  induction l with
  | nil =>
    intro n
    rw [IN.countL, IN.okL, IN.sizeL, Nat.add_zero]
    by_cases hn : n ≤ 60
    · rw [if_pos hn, if_pos ⟨rfl, hn⟩]; omega
    · rw [if_neg hn]; omega
  | cons x l ih =>
    intro n
    rw [IN.countL, IN.okL, IN.sizeL]
    by_cases hn : n ≤ 60
    · rw [if_pos hn, if_pos hn, ih (fun y hy => h y (by simp [hy])), h x (by simp)]
      by_cases hx : x.ok f = true ∧ x.size ≤ 60
      · rw [if_pos hx, hx.1, Bool.true_and]
        by_cases hs : n + x.size ≤ 60
        · rw [if_pos hs]
          by_cases hl : IN.okL l f = true ∧ n + x.size + IN.sizeL l ≤ 60
          · rw [if_pos hl, if_pos ⟨hl.1, by omega⟩]; omega
          · rw [if_neg hl, if_neg (fun q => hl ⟨q.1, by omega⟩)]
        · rw [if_neg hs, if_neg (fun q => by omega)]
      · rw [if_neg hx, if_neg (by omega), if_neg (fun q => hx ⟨by
          have := q.1
          rw [Bool.and_eq_true] at this
          exact this.1, by omega⟩)]
    · rw [if_neg hn, if_neg hn]; omega
theorem IN.count_eq (x : IN) : ∀ d f, d + f = 7 → x.count d = if x.ok f = true ∧ x.size ≤ 60 then x.size else 61 := by
  induction x using IN.ind with
  | h k n s l ih =>
    intro d f hdf
    rw [IN.count]
    cases f with
    | zero => rw [if_pos (by omega), if_neg (fun q => by have := q.1; rw [IN.ok] at this; cases this)]
    | succ f =>
      rw [if_neg (by omega), IN.ok, IN.size]
      by_cases h1 : oneB k n s l.length = true
      · rw [if_pos h1, countL_eq l (d + 1) f (fun x hx => ih x hx (d + 1) f (by omega)) 1, if_pos (by omega), h1, Bool.true_and]
      · rw [if_neg h1, if_neg (fun q => by
          have := q.1
          rw [Bool.and_eq_true] at this
          exact h1 this.1)]
theorem IN.count_right (x : IN) : decide (x.count 1 ≤ 60) = x.right := by
  rw [x.count_eq 1 6 rfl, IN.right]
  by_cases h : x.ok 6 = true ∧ x.size ≤ 60
  · rw [if_pos h, h.1, Bool.true_and]
  · rw [if_neg h, decide_eq_false (by omega)]
    symm
    rw [Bool.eq_false_iff]
    intro q
    rw [Bool.and_eq_true, decide_eq_true_eq] at q
    exact h q

theorem sameL_iff (l : List IN) (h : ∀ x ∈ l, ∀ y, x.same y = true ↔ x = y) : ∀ m, IN.sameL l m = true ↔ l = m := by
  induction l with
  | nil => intro m; cases m <;> simp [IN.sameL]
  | cons x l ih =>
    intro m
    cases m with
    | nil => simp [IN.sameL]
    | cons y m =>
      rw [IN.sameL, Bool.and_eq_true, h x (by simp), ih (fun z hz => h z (by simp [hz])), List.cons.injEq]
theorem IN.same_iff (x : IN) : ∀ y, x.same y = true ↔ x = y := by
  induction x using IN.ind with
  | h k n s l ih =>
    intro y
    obtain ⟨k', n', s', l'⟩ := y
    rw [IN.same, Bool.and_eq_true, Bool.and_eq_true, Bool.and_eq_true, decide_eq_true_eq, decide_eq_true_eq, decide_eq_true_eq, sameL_iff l ih, IN.mk.injEq]
    simp only [and_assoc]
theorem sameL_length {l m : List IN} (h : l.length ≠ m.length) : IN.sameL l m = false := by
  rw [Bool.eq_false_iff]
  intro q
  exact h (by rw [(sameL_iff l (fun x _ y => x.same_iff y) m).1 q])

/-! Reading. -/
inductive RR where
  | bad (e : Int)
  | ok (c a : Nat) (x : IN)
inductive RRs where
  | bad (e : Int)
  | ok (c a : Nat) (l : List IN)
/-- So many items, one behind the other. -/
def readL (rd : Nat → Nat → RR) : Nat → Nat → Nat → RRs
  | 0, c, a => .ok c a []
  | k + 1, c, a => match rd c a with
    | .bad e => .bad e
    | .ok c a x => match readL rd k c a with
      | .bad e => .bad e
      | .ok c a l => .ok c a (x :: l)
def RRs.one (n : Int) : RRs → RR
  | .bad e => .bad e
  | .ok c a l => .ok c a (.mk 4 n ByteArray.empty l)
/-- An item of a text, from a place on, with so many items begun, and not deeper than so much. -/
def readI (s : List UInt8) : Nat → Nat → Nat → RR
  | 0, _, _ => .bad 40
  | f + 1, c, a => if 60 ≤ c then .bad 40 else match decL (s.drop a) with
    | .bad e => .bad e
    | .ok m n w =>
      if m = 0 then .ok (c + 1) (a + (1 + w)) (.mk 0 (n : Int) ByteArray.empty [])
      else if m = 4 then (readL (readI s f) n (c + 1) (a + (1 + w))).one 0
      else if 600 < n then .bad 40
      else if s.length < a + (1 + w) + n then .bad 11
      else if m = 3 ∧ textB ((s.drop (a + (1 + w))).take n) = false then .bad 20
      else .ok (c + 1) (a + (1 + w) + n) (.mk (m : Int) 0 ⟨((s.drop (a + (1 + w))).take n).toArray⟩ [])

theorem bytesL_length_cons (x : IN) (l : List IN) : (IN.bytesL (x :: l)).length = x.bytes.length + (IN.bytesL l).length := by rw [IN.bytesL, List.length_append]
theorem IN.bytes_pos (x : IN) : 1 ≤ x.bytes.length := by
  obtain ⟨k, n, s, l⟩ := x
  rw [IN.bytes, List.length_append, List.length_append, headL_length]
  omega

theorem oneB_cases {k n : Int} {s : ByteArray} {m : Nat} (h : oneB k n s m = true) :
    (k = 0 ∧ 0 ≤ n ∧ n ≤ 281474976710655 ∧ s.size = 0 ∧ m = 0) ∨ (k = 2 ∧ n = 0 ∧ s.size ≤ 600 ∧ m = 0) ∨ (k = 3 ∧ n = 0 ∧ s.size ≤ 600 ∧ m = 0 ∧ textB s.data.toList = true) ∨ (k = 4 ∧ n = 0 ∧ s.size = 0) := by
  unfold oneB at h
  by_cases h0 : k = 0
  · rw [if_pos h0] at h
    simp only [Bool.and_eq_true, decide_eq_true_eq] at h
    exact .inl ⟨h0, h.1.1.1, h.1.1.2, h.1.2, h.2⟩
  · rw [if_neg h0] at h
    by_cases h2 : k = 2
    · rw [if_pos h2] at h
      simp only [Bool.and_eq_true, decide_eq_true_eq] at h
      exact .inr (.inl ⟨h2, h.1.1, h.1.2, h.2⟩)
    · rw [if_neg h2] at h
      by_cases h3 : k = 3
      · rw [if_pos h3] at h
        simp only [Bool.and_eq_true, decide_eq_true_eq] at h
        exact .inr (.inr (.inl ⟨h3, h.1.1.1, h.1.1.2, h.1.2, h.2⟩))
      · rw [if_neg h3] at h
        simp only [Bool.and_eq_true, decide_eq_true_eq] at h
        exact .inr (.inr (.inr ⟨h.1.1, h.1.2, h.2⟩))
theorem txt_empty {s : ByteArray} (h : s.size = 0) : s = ByteArray.empty := by
  apply ByteArray.ext
  exact Array.eq_empty_of_size_eq_zero h
theorem txt_list (s : ByteArray) : s.data.toList.length = s.size := by rw [Array.length_toList]; rfl
theorem head_at {M N : Nat} (hM : okMajor M = true) (hN : N ≤ 281474976710655) {l t : List UInt8} (h : l = headL M N ++ t) : decL l = .ok M N (wOf N) := by rw [h]; exact dec_head hM hN t
theorem drop_more {s : List UInt8} {a : Nat} {u t : List UInt8} (h : s.drop a = u ++ t) : s.drop (a + u.length) = t := by
  rw [← List.drop_drop, h, List.drop_left' rfl]
theorem drop_room {s : List UInt8} {a : Nat} {u t : List UInt8} (h : s.drop a = u ++ t) (hu : 0 < u.length) : a + u.length ≤ s.length := by
  have := congrArg List.length h
  rw [List.length_drop, List.length_append] at this
  omega

theorem readL_ok (s : List UInt8) (f : Nat) (l : List IN) (h : ∀ x ∈ l, ∀ c a t, x.ok f = true → c + x.size ≤ 60 → s.drop a = x.bytes ++ t → readI s f c a = .ok (c + x.size) (a + x.bytes.length) x) :
    ∀ c a t, IN.okL l f = true → c + IN.sizeL l ≤ 60 → s.drop a = IN.bytesL l ++ t → readL (readI s f) l.length c a = .ok (c + IN.sizeL l) (a + (IN.bytesL l).length) l := by
  induction l with
  | nil => intro c a t _ _ _; rfl
  | cons x l ih =>
    intro c a t ho hs hd
    rw [IN.okL, Bool.and_eq_true] at ho
    rw [IN.sizeL] at hs ⊢
    rw [IN.bytesL, List.append_assoc] at hd
    rw [List.length_cons, readL, h x (by simp) c a _ ho.1 (by omega) hd]
    dsimp only
    rw [ih (fun y hy => h y (by simp [hy])) (c + x.size) (a + x.bytes.length) t ho.2 (by omega) (drop_more hd), IN.bytesL, List.length_append]
    simp only [Nat.add_assoc]
/-- An item is read from its bytes, whatever stands behind. -/
theorem readI_ok (s : List UInt8) (x : IN) : ∀ f c a t, x.ok f = true → c + x.size ≤ 60 → s.drop a = x.bytes ++ t → readI s f c a = .ok (c + x.size) (a + x.bytes.length) x := by
  induction x using IN.ind with
  | h k n y l ih =>
    intro f c a t ho hs hd
    cases f with
    | zero => rw [IN.ok] at ho; cases ho
    | succ f =>
      rw [IN.ok, Bool.and_eq_true] at ho
      rw [IN.size] at hs
      rw [IN.bytes, List.append_assoc, List.append_assoc] at hd
      rw [readI, if_neg (by omega), IN.size, IN.bytes, List.length_append, List.length_append, headL_length]
      rcases oneB_cases ho.1 with ⟨rfl, h1, h2, h3, h4⟩ | ⟨rfl, rfl, h3, h4⟩ | ⟨rfl, rfl, h3, h4, h5⟩ | ⟨rfl, rfl, h3⟩
      · obtain rfl := List.eq_nil_of_length_eq_zero h4
        obtain rfl := txt_empty h3
        have e : argI n (ByteArray.empty).size ([] : List IN).length = n := by unfold argI; rw [h3, h4]; omega
        rw [e] at hd ⊢
        rw [head_at (M := 0) rfl (by omega) hd]
        dsimp only
        rw [if_pos rfl, Int.toNat_of_nonneg h1, IN.sizeL, IN.bytesL]
        rfl
      · obtain rfl := List.eq_nil_of_length_eq_zero h4
        have e : (argI 0 y.size ([] : List IN).length).toNat = y.size := by unfold argI; rw [h4]; omega
        rw [e] at hd ⊢
        rw [head_at (M := 2) rfl (by omega) hd]
        dsimp only
        have hd2 := drop_more hd
        rw [headL_length] at hd2
        have hr := drop_room (u := headL 2 y.size ++ y.data.toList) (t := IN.bytesL [] ++ t) (by rw [List.append_assoc]; exact hd) (by rw [List.length_append, headL_length]; omega)
        rw [List.length_append, headL_length, txt_list] at hr
        rw [if_neg (by decide), if_neg (by decide), if_neg (by omega), if_neg (by omega), if_neg (fun q => by cases q.1), hd2, List.take_left' (txt_list y), IN.sizeL, IN.bytesL, txt_list, List.length_nil, Nat.add_zero, Nat.add_zero, Nat.add_assoc]
        rfl
      · obtain rfl := List.eq_nil_of_length_eq_zero h4
        have e : (argI 0 y.size ([] : List IN).length).toNat = y.size := by unfold argI; rw [h4]; omega
        rw [e] at hd ⊢
        rw [head_at (M := 3) rfl (by omega) hd]
        dsimp only
        have hd2 := drop_more hd
        rw [headL_length] at hd2
        have hr := drop_room (u := headL 3 y.size ++ y.data.toList) (t := IN.bytesL [] ++ t) (by rw [List.append_assoc]; exact hd) (by rw [List.length_append, headL_length]; omega)
        rw [List.length_append, headL_length, txt_list] at hr
        rw [if_neg (by decide), if_neg (by decide), if_neg (by omega), if_neg (by omega), hd2, List.take_left' (txt_list y), if_neg (fun q => by rw [h5] at q; cases q.2), IN.sizeL, IN.bytesL, txt_list, List.length_nil, Nat.add_zero, Nat.add_zero, Nat.add_assoc]
        rfl
      · obtain rfl := txt_empty h3
        have hll : l.length ≤ IN.sizeL l := by
          clear ih ho hs hd
          induction l with
          | nil => exact Nat.le_refl _
          | cons x l ih => rw [IN.sizeL, List.length_cons]; have := x.size_pos; omega
        have e : (argI 0 (ByteArray.empty).size l.length).toNat = l.length := by unfold argI; rw [h3]; omega
        rw [e] at hd ⊢
        rw [head_at (M := 4) rfl (by omega) hd]
        dsimp only
        have hd2 := drop_more hd
        rw [headL_length] at hd2
        rw [if_neg (by decide), if_pos rfl, readL_ok s f l (fun x hx c a t => ih x hx f c a t) (c + 1) _ t ho.2 (by omega) hd2]
        show RR.ok _ _ _ = RR.ok _ _ _
        rw [show (ByteArray.empty).data.toList.length = 0 from rfl]
        congr 1 <;> omega

theorem readL_sound (s : List UInt8) (f : Nat) (h : ∀ c a c' a' x, readI s f c a = .ok c' a' x → c' = c + x.size ∧ c' ≤ 60 ∧ x.ok f = true ∧ a' = a + x.bytes.length ∧ s.drop a = x.bytes ++ s.drop a') :
    ∀ k c a c' a' l, c ≤ 60 → readL (readI s f) k c a = .ok c' a' l → l.length = k ∧ c' = c + IN.sizeL l ∧ c' ≤ 60 ∧ IN.okL l f = true ∧ a' = a + (IN.bytesL l).length ∧ s.drop a = IN.bytesL l ++ s.drop a' := by
  intro k
  induction k with
  | zero =>
    intro c a c' a' l hc hr
    rw [readL] at hr
    injection hr with e1 e2 e3
    subst e1 e2 e3
    exact ⟨rfl, rfl, hc, rfl, rfl, rfl⟩
  | succ k ih =>
    intro c a c' a' l hc hr
    rw [readL] at hr
    cases h1 : readI s f c a with
    | bad e => rw [h1] at hr; cases hr
    | ok c1 a1 x =>
      rw [h1] at hr
      dsimp only at hr
      cases h2 : readL (readI s f) k c1 a1 with
      | bad e => rw [h2] at hr; cases hr
      | ok c2 a2 m =>
        rw [h2] at hr
        injection hr with e1 e2 e3
        subst e1 e2 e3
        obtain ⟨p1, p2, p3, p4, p5⟩ := h c a c1 a1 x h1
        obtain ⟨q1, q2, q3, q4, q5, q6⟩ := ih c1 a1 c2 a2 m p2 h2
        refine ⟨by rw [List.length_cons, q1], by rw [q2, p1, IN.sizeL]; omega, q3, by rw [IN.okL, p3, q4]; rfl, by rw [q5, p4, IN.bytesL, List.length_append]; omega, ?_⟩
        rw [p5, q6, IN.bytesL, List.append_assoc]
/-- What is read is right, and has these bytes. -/
theorem readI_sound (s : List UInt8) : ∀ f c a c' a' x, readI s f c a = .ok c' a' x → c' = c + x.size ∧ c' ≤ 60 ∧ x.ok f = true ∧ a' = a + x.bytes.length ∧ s.drop a = x.bytes ++ s.drop a' := by
  intro f
  induction f with
  | zero => intro c a c' a' x h; rw [readI] at h; cases h
  | succ f ih =>
    intro c a c' a' x h
    rw [readI] at h
    by_cases hc : 60 ≤ c
    · rw [if_pos hc] at h; cases h
    rw [if_neg hc] at h
    cases hd : decL (s.drop a) with
    | bad e => rw [hd] at h; cases h
    | ok m n w =>
      rw [hd] at h
      dsimp only at h
      obtain ⟨g1, g2, g3, g4, g5⟩ := head_dec hd
      have hsplit : s.drop a = headL m n ++ s.drop (a + (1 + w)) := by
        rw [← g4, ← List.drop_drop, List.take_append_drop]
      have hlen := headL_length m n
      subst g3
      have hroom := List.length_drop (i := a) (l := s)
      by_cases h0 : m = 0
      · subst h0
        rw [if_pos rfl] at h
        injection h with e1 e2 e3
        subst e1 e2 e3
        have e : argI (n : Int) (ByteArray.empty).size ([] : List IN).length = (n : Int) := by show max (max (n : Int) ((0 : Nat) : Int)) ((0 : Nat) : Int) = _; omega
        refine ⟨rfl, by omega, ?_, ?_, ?_⟩
        · rw [IN.ok, IN.okL, Bool.and_true]
          show (decide ((0 : Int) ≤ n) && decide ((n : Int) ≤ 281474976710655) && true && true) = true
          rw [decide_eq_true (by omega), decide_eq_true (by omega)]
          rfl
        · rw [IN.bytes, e, IN.bytesL]
          simp only [Int.toNat_natCast, List.append_nil, List.length_append]
          rw [show Int.toNat 0 = 0 from rfl, hlen]
          rfl
        · rw [IN.bytes, e, IN.bytesL]
          simp only [Int.toNat_natCast, List.append_nil]
          rw [show Int.toNat 0 = 0 from rfl, hsplit]
          simp
      · rw [if_neg h0] at h
        by_cases h4 : m = 4
        · subst h4
          rw [if_pos rfl] at h
          cases hl : readL (readI s f) n (c + 1) (a + (1 + wOf n)) with
          | bad e => rw [hl] at h; cases h
          | ok c1 a1 l =>
            rw [hl] at h
            injection h with e1 e2 e3
            subst e1 e2 e3
            obtain ⟨q1, q2, q3, q4, q5, q6⟩ := readL_sound s f ih n (c + 1) (a + (1 + wOf n)) c1 a1 l (by omega) hl
            have e : (argI 0 (ByteArray.empty).size l.length).toNat = n := by show (max (max (0 : Int) ((0 : Nat) : Int)) (l.length : Int)).toNat = _; omega
            refine ⟨by rw [q2, IN.size]; omega, q3, ?_, ?_, ?_⟩
            · rw [IN.ok, q4]
              rfl
            · rw [IN.bytes, e, List.length_append, List.length_append, show Int.toNat 4 = 4 from rfl, hlen, q5]
              show _ = a + (1 + wOf n + 0 + _)
              omega
            · rw [IN.bytes, e, show Int.toNat 4 = 4 from rfl, hsplit, q6]
              simp
        · rw [if_neg h4] at h
          by_cases h6 : 600 < n
          · rw [if_pos h6] at h; cases h
          rw [if_neg h6] at h
          by_cases h7 : s.length < a + (1 + wOf n) + n
          · rw [if_pos h7] at h; cases h
          rw [if_neg h7] at h
          by_cases h8 : m = 3 ∧ textB ((s.drop (a + (1 + wOf n))).take n) = false
          · rw [if_pos h8] at h; cases h
          rw [if_neg h8] at h
          injection h with e1 e2 e3
          subst e1 e2 e3
          have hsz : (⟨((s.drop (a + (1 + wOf n))).take n).toArray⟩ : ByteArray).size = n := by
            show ((s.drop (a + (1 + wOf n))).take n).toArray.size = n
            rw [List.size_toArray, List.length_take, List.length_drop]
            omega
          have e : (argI 0 (⟨((s.drop (a + (1 + wOf n))).take n).toArray⟩ : ByteArray).size ([] : List IN).length).toNat = n := by rw [hsz]; show (max (max (0 : Int) (n : Int)) ((0 : Nat) : Int)).toNat = n; omega
          have hm : m = 2 ∨ m = 3 := by have := okMajor_iff.1 g1; omega
          have hbl : (IN.mk (m : Int) 0 ⟨((s.drop (a + (1 + wOf n))).take n).toArray⟩ []).bytes = headL m n ++ (s.drop (a + (1 + wOf n))).take n := by
            rw [IN.bytes, e, IN.bytesL, List.append_nil, Int.toNat_natCast]
          refine ⟨rfl, by omega, ?_, ?_, ?_⟩
          · rw [IN.ok, IN.okL, Bool.and_true]
            rcases hm with rfl | rfl
            · show (true && decide (_ ≤ 600) && true) = true
              rw [hsz, decide_eq_true (by omega)]
              rfl
            · show (true && decide (_ ≤ 600) && true && textB _) = true
              rw [hsz, decide_eq_true (by omega)]
              simpa using h8
          · rw [hbl, List.length_append, hlen, List.length_take, List.length_drop]
            omega
          · rw [hbl, hsplit, List.append_assoc]
            congr 1
            have := (List.take_append_drop n (s.drop (a + (1 + wOf n)))).symm
            rwa [List.drop_drop] at this

theorem readL_short (s : List UInt8) (f : Nat) (l : List IN) (h : ∀ x ∈ l, ∀ c a k, x.ok f = true → c + x.size ≤ 60 → k < x.bytes.length → s.drop a = x.bytes.take k → readI s f c a = .bad 11) :
    ∀ c a k, IN.okL l f = true → c + IN.sizeL l ≤ 60 → k < (IN.bytesL l).length → s.drop a = (IN.bytesL l).take k → readL (readI s f) l.length c a = .bad 11 := by
  induction l with
  | nil => intro c a k _ _ hk _; rw [IN.bytesL] at hk; simp at hk
  | cons x l ih =>
    intro c a k ho hs hk hd
    rw [IN.okL, Bool.and_eq_true] at ho
    rw [IN.sizeL] at hs
    rw [bytesL_length_cons] at hk
    rw [List.length_cons, readL]
    by_cases hkx : k < x.bytes.length
    · rw [h x (by simp) c a k ho.1 (by omega) hkx (by rw [hd, IN.bytesL, List.take_append_of_le_length (by omega)])]
    · have hd2 : s.drop a = x.bytes ++ (IN.bytesL l).take (k - x.bytes.length) := by
        rw [hd, IN.bytesL, List.take_append, List.take_of_length_le (by omega)]
      rw [readI_ok s x f c a _ ho.1 (by omega) hd2]
      dsimp only
      rw [ih (fun y hy => h y (by simp [hy])) (c + x.size) (a + x.bytes.length) (k - x.bytes.length) ho.2 (by omega) (by omega) (drop_more hd2)]
/-- A beginning of an item's bytes that is not all of them is too short. -/
theorem readI_short (s : List UInt8) (x : IN) : ∀ f c a k, x.ok f = true → c + x.size ≤ 60 → k < x.bytes.length → s.drop a = x.bytes.take k → readI s f c a = .bad 11 := by
  induction x using IN.ind with
  | h q n y l ih =>
    intro f c a k ho hs hk hd
    cases f with
    | zero => rw [IN.ok] at ho; cases ho
    | succ f =>
      rw [IN.ok, Bool.and_eq_true] at ho
      rw [IN.size] at hs
      rw [IN.bytes, List.append_assoc] at hd hk
      rw [readI, if_neg (by omega)]
      have hmaj : okMajor q.toNat = true ∧ (argI n y.size l.length).toNat ≤ 281474976710655 := by
        have hll : l.length ≤ IN.sizeL l := by
          clear ih ho hs hd hk
          induction l with
          | nil => exact Nat.le_refl _
          | cons x l ih => rw [IN.sizeL, List.length_cons]; have := x.size_pos; omega
        rcases oneB_cases ho.1 with ⟨rfl, h1, h2, h3, h4⟩ | ⟨rfl, rfl, h3, h4⟩ | ⟨rfl, rfl, h3, h4, h5⟩ | ⟨rfl, rfl, h3⟩
        · exact ⟨rfl, by unfold argI; omega⟩
        · exact ⟨rfl, by unfold argI; omega⟩
        · exact ⟨rfl, by unfold argI; omega⟩
        · exact ⟨rfl, by unfold argI; omega⟩
      by_cases hkh : k < 1 + wOf (argI n y.size l.length).toNat
      · rw [List.take_append_of_le_length (by rw [headL_length]; omega)] at hd
        rw [hd, dec_short hmaj.1 k hkh]
      · have hd2 : s.drop a = headL q.toNat (argI n y.size l.length).toNat ++ (y.data.toList ++ IN.bytesL l).take (k - (1 + wOf (argI n y.size l.length).toNat)) := by
          rw [hd, List.take_append, List.take_of_length_le (by rw [headL_length]; omega), headL_length]
        rw [head_at hmaj.1 hmaj.2 hd2]
        dsimp only
        have hd3 := drop_more hd2
        rw [headL_length] at hd3
        have hl3 := congrArg List.length hd3
        rw [List.length_drop, List.length_take] at hl3
        rw [List.length_append, headL_length] at hk
        rw [List.length_append, txt_list] at hl3 hk
        rcases oneB_cases ho.1 with ⟨rfl, h1, h2, h3, h4⟩ | ⟨rfl, rfl, h3, h4⟩ | ⟨rfl, rfl, h3, h4, h5⟩ | ⟨rfl, rfl, h3⟩
        · obtain rfl := List.eq_nil_of_length_eq_zero h4
          have hb0 : (IN.bytesL []).length = 0 := by rw [IN.bytesL]; rfl
          exfalso
          omega
        · obtain rfl := List.eq_nil_of_length_eq_zero h4
          have e : (argI 0 y.size ([] : List IN).length).toNat = y.size := by unfold argI; rw [h4]; omega
          rw [e] at hl3 hk hkh ⊢
          rw [IN.bytesL, List.length_nil] at hl3 hk
          rw [show Int.toNat 2 = 2 from rfl, if_neg (by decide), if_neg (by decide), if_neg (by omega), if_pos (by omega)]
        · obtain rfl := List.eq_nil_of_length_eq_zero h4
          have e : (argI 0 y.size ([] : List IN).length).toNat = y.size := by unfold argI; rw [h4]; omega
          rw [e] at hl3 hk hkh ⊢
          rw [IN.bytesL, List.length_nil] at hl3 hk
          rw [show Int.toNat 3 = 3 from rfl, if_neg (by decide), if_neg (by decide), if_neg (by omega), if_pos (by omega)]
        · obtain rfl := txt_empty h3
          have e : (argI 0 (ByteArray.empty).size l.length).toNat = l.length := by unfold argI; rw [h3]; omega
          rw [e] at hd3 hk hkh ⊢
          rw [show (ByteArray.empty).data.toList = [] from rfl, List.nil_append] at hd3
          rw [h3] at hk
          rw [show Int.toNat 4 = 4 from rfl, if_neg (by decide), if_pos rfl, readL_short s f l (fun x hx c a k => ih x hx f c a k) (c + 1) _ (k - (1 + wOf l.length)) ho.2 (by omega) (by omega) hd3]
          rfl

end Go.Proofs.YtmoghgmbpkpcfaaGreatDoor

namespace Go.Proofs.YtmoghgmbpkpcfaaGreatDoor

/-- No item. -/
def nilI : IN := .mk 0 0 ByteArray.empty []
/-- An item's bytes as a text. -/
def IN.text (x : IN) : ByteArray := ⟨x.bytes.toArray⟩
theorem IN.text_list (x : IN) : x.text.data.toList = x.bytes := by simp [IN.text]
theorem IN.text_size (x : IN) : x.text.size = x.bytes.length := by show x.bytes.toArray.size = _; simp
/-- What is decoded from a place of a text, the place behind, what is told. -/
def RR.top : RR → IN × Int × Int
  | .bad e => (nilI, 0, e)
  | .ok _ a x => (x, (a : Int), 0)
def decI (s : ByteArray) (a : Int) : IN × Int × Int := if a < 0 then (nilI, 0, 11) else (readI s.data.toList 6 0 a.toNat).top
/-- The item of all bytes. -/
def wholeI (s : ByteArray) : IN × Int := if (decI s 0).2.2 = 0 then (if (decI s 0).2.1 = (s.size : Int) then ((decI s 0).1, 0) else (nilI, 20)) else (nilI, (decI s 0).2.2)
/-- What is encoded. -/
def encI (x : IN) : ByteArray × Int := if x.right then (x.text, 0) else (ByteArray.empty, 40)

theorem right_iff {x : IN} : x.right = true ↔ x.ok 6 = true ∧ x.size ≤ 60 := by rw [IN.right, Bool.and_eq_true, decide_eq_true_eq]
theorem okL_mono (l : List IN) (f : Nat) (h : ∀ x ∈ l, x.ok f = true → x.ok (f + 1) = true) : IN.okL l f = true → IN.okL l (f + 1) = true := by
  induction l with
  | nil => intro _; rfl
  | cons x l ih =>
    intro q
    rw [IN.okL, Bool.and_eq_true] at q ⊢
    exact ⟨h x (by simp) q.1, ih (fun y hy => h y (by simp [hy])) q.2⟩
theorem IN.ok_mono (x : IN) : ∀ f, x.ok f = true → x.ok (f + 1) = true := by
  induction x using IN.ind with
  | h k n s l ih =>
    intro f h
    cases f with
    | zero => rw [IN.ok] at h; cases h
    | succ f =>
      rw [IN.ok, Bool.and_eq_true] at h ⊢
      exact ⟨h.1, okL_mono l f (fun x hx => ih x hx f) h.2⟩
theorem okL_mem {l : List IN} {f : Nat} (h : IN.okL l f = true) : ∀ x ∈ l, x.ok f = true := by
  induction l with
  | nil => intro x hx; cases hx
  | cons y l ih =>
    intro x hx
    rw [IN.okL, Bool.and_eq_true] at h
    rcases List.mem_cons.1 hx with rfl | hx
    · exact h.1
    · exact ih h.2 x hx
theorem sizeL_mem {l : List IN} : ∀ x ∈ l, x.size ≤ IN.sizeL l := by
  induction l with
  | nil => intro x hx; cases hx
  | cons y l ih =>
    intro x hx
    rw [IN.sizeL]
    rcases List.mem_cons.1 hx with rfl | hx
    · omega
    · have := ih x hx; omega
theorem bytesL_mem {l : List IN} : ∀ x ∈ l, x.bytes.length ≤ (IN.bytesL l).length := by
  induction l with
  | nil => intro x hx; cases hx
  | cons y l ih =>
    intro x hx
    rw [bytesL_length_cons]
    rcases List.mem_cons.1 hx with rfl | hx
    · omega
    · have := ih x hx; omega
/-- All that is in a right item is right. -/
theorem right_kid {x y : IN} (h : x.right = true) (hy : y ∈ x.kids) : y.right = true ∧ x.kind = 4 ∧ y.bytes.length < x.bytes.length := by
  obtain ⟨k, n, s, l⟩ := x
  have hy : y ∈ l := hy
  obtain ⟨h1, h2⟩ := right_iff.1 h
  rw [IN.ok, Bool.and_eq_true] at h1
  rw [IN.size] at h2
  have hs := sizeL_mem y hy
  refine ⟨right_iff.2 ⟨y.ok_mono 5 (okL_mem h1.2 y hy), by omega⟩, ?_, ?_⟩
  · show k = 4
    have hl : 0 < l.length := List.length_pos_of_mem hy
    rcases oneB_cases h1.1 with ⟨-, -, -, -, h4⟩ | ⟨-, -, -, h4⟩ | ⟨-, -, -, h4, -⟩ | ⟨h4, -⟩
    · omega
    · omega
    · omega
    · exact h4
  · rw [IN.bytes, List.length_append, List.length_append, headL_length]
    have := bytesL_mem y hy
    omega
/-- A list's bytes are its head's and its items'. -/
theorem list_bytes {n : Int} {s : ByteArray} {l : List IN} (h : (IN.mk 4 n s l).right = true) : (IN.mk 4 n s l).bytes = headL 4 l.length ++ IN.bytesL l ∧ l.length ≤ 60 := by
  obtain ⟨h1, h2⟩ := right_iff.1 h
  rw [IN.ok, Bool.and_eq_true] at h1
  rw [IN.size] at h2
  rcases oneB_cases h1.1 with ⟨h4, -⟩ | ⟨h4, -⟩ | ⟨h4, -⟩ | ⟨-, rfl, h3⟩
  · cases h4
  · cases h4
  · cases h4
  · obtain rfl := txt_empty h3
    have hll : l.length ≤ IN.sizeL l := by
      clear h h1 h2
      induction l with
      | nil => exact Nat.le_refl _
      | cons x l ih => rw [IN.sizeL, List.length_cons]; have := x.size_pos; omega
    have e : (argI 0 (ByteArray.empty).size l.length).toNat = l.length := by unfold argI; rw [h3]; omega
    refine ⟨by rw [IN.bytes, e, show (ByteArray.empty).data.toList = [] from rfl, List.append_nil]; rfl, by omega⟩
/-- A right item is decoded from its bytes. -/
theorem dec_right {x : IN} (h : x.right = true) (u : ByteArray) (a : Nat) (t : List UInt8) (hu : u.data.toList.drop a = x.bytes ++ t) : decI u (a : Int) = (x, ((a + x.bytes.length : Nat) : Int), 0) := by
  obtain ⟨h1, h2⟩ := right_iff.1 h
  rw [decI, if_neg (by omega), Int.toNat_natCast, readI_ok u.data.toList x 6 0 a t h1 (by omega) hu]
  rfl
theorem dec_app {x : IN} (h : x.right = true) (s t : ByteArray) : decI (s ++ x.text ++ t) (s.size : Int) = (x, ((s.size + x.text.size : Nat) : Int), 0) := by
  rw [x.text_size]
  refine dec_right h _ _ t.data.toList ?_
  rw [show (s ++ x.text ++ t).data.toList = s.data.toList ++ x.text.data.toList ++ t.data.toList by
    rw [ByteArray.data_append, ByteArray.data_append, Array.toList_append, Array.toList_append], List.append_assoc, List.drop_left' (txt_list s), x.text_list]
/-- What is decoded is right, and stands there. -/
theorem dec_sound {s : ByteArray} {a : Int} (h : (decI s a).2.2 = 0) : 0 ≤ a ∧ (decI s a).1.right = true ∧ (decI s a).2.1 = a + ((decI s a).1.bytes.length : Int) ∧ (decI s a).2.1 ≤ (s.size : Int) ∧ s.data.toList.drop a.toNat = (decI s a).1.bytes ++ s.data.toList.drop (a.toNat + (decI s a).1.bytes.length) := by
  unfold decI at h ⊢
  by_cases ha : a < 0
  · rw [if_pos ha] at h; cases h
  · rw [if_neg ha] at h ⊢
    cases hr : readI s.data.toList 6 0 a.toNat with
    | bad e =>
      rw [hr] at h
      exfalso
      have hne : ∀ f c a e, readI s.data.toList f c a = .bad e → e ≠ 0 := by
        have hdec : ∀ l e, decL l = .bad e → e ≠ 0 := by
          intro l e hl
          cases l with
          | nil => rw [decL] at hl; injection hl with hl; omega
          | cons b r =>
            rw [decL] at hl
            split at hl
            · injection hl with hl; omega
            · split at hl
              · cases hl
              · split at hl
                · injection hl with hl; omega
                · split at hl
                  · injection hl with hl; omega
                  · split at hl
                    · injection hl with hl; omega
                    · cases hl
        intro f
        induction f with
        | zero => intro c a e q; rw [readI] at q; injection q with q; omega
        | succ f ih =>
          intro c a e q
          rw [readI] at q
          split at q
          · injection q with q; omega
          · split at q
            · rename_i e' hd
              injection q with q
              subst q
              exact hdec _ _ hd
            · rename_i m n w hd
              split at q
              · cases q
              · split at q
                · have hL : ∀ k c a e, readL (readI s.data.toList f) k c a = .bad e → e ≠ 0 := by
                    intro k
                    induction k with
                    | zero => intro c a e q; rw [readL] at q; cases q
                    | succ k ihk =>
                      intro c a e q
                      rw [readL] at q
                      split at q
                      · rename_i e' h1
                        injection q with q
                        subst q
                        exact ih _ _ _ h1
                      · split at q
                        · rename_i e' h1
                          injection q with q
                          subst q
                          exact ihk _ _ _ h1
                        · cases q
                  cases hl : readL (readI s.data.toList f) n (c + 1) (a + (1 + w)) with
                  | bad e' =>
                    rw [hl] at q
                    injection q with q
                    subst q
                    exact hL _ _ _ _ hl
                  | ok c' a' l => rw [hl] at q; cases q
                · split at q
                  · injection q with q; omega
                  · split at q
                    · injection q with q; omega
                    · split at q
                      · injection q with q; omega
                      · cases q
      exact hne _ _ _ _ hr h
    | ok c a' x =>
      obtain ⟨p1, p2, p3, p4, p5⟩ := readI_sound _ _ _ _ _ _ _ hr
      show 0 ≤ a ∧ x.right = true ∧ (a' : Int) = a + (x.bytes.length : Int) ∧ (a' : Int) ≤ (s.size : Int) ∧ s.data.toList.drop a.toNat = x.bytes ++ s.data.toList.drop (a.toNat + x.bytes.length)
      have hroom := drop_room p5 x.bytes_pos
      rw [txt_list] at hroom
      refine ⟨by omega, right_iff.2 ⟨p3, by omega⟩, by omega, by omega, ?_⟩
      rw [← p4]
      exact p5
/-- Two right items have the same bytes just if they are the same. -/
theorem bytes_inj {x y : IN} (hx : x.right = true) (hy : y.right = true) : x.text = y.text ↔ x = y := by
  constructor
  · intro e
    have h1 := dec_right hx x.text 0 [] (by rw [x.text_list]; simp)
    have h2 := dec_right hy y.text 0 [] (by rw [y.text_list]; simp)
    rw [e, h2] at h1
    injection h1 with h1
    exact h1.symm
  · intro e; rw [e]
/-- A beginning that is not all. -/
theorem dec_cut {x : IN} (hx : x.right = true) {k : Nat} (hk : k < x.bytes.length) (u : ByteArray) (hu : u.data.toList = x.bytes.take k) : decI u 0 = (nilI, 0, 11) := by
  obtain ⟨h1, h2⟩ := right_iff.1 hx
  rw [decI, if_neg (by omega), show Int.toNat 0 = 0 from rfl, readI_short u.data.toList x 6 0 0 k h1 (by omega) hk hu]
  rfl
/-- One byte more. -/
theorem whole_more {x : IN} (hx : x.right = true) (u : ByteArray) (t : List UInt8) (ht : t ≠ []) (hu : u.data.toList = x.bytes ++ t) : wholeI u = (nilI, 20) := by
  have h := dec_right hx u 0 t (by rw [List.drop_zero]; exact hu)
  have hs := congrArg List.length hu
  rw [txt_list, List.length_append] at hs
  have := List.length_pos_iff.2 ht
  rw [show ((0 : Nat) : Int) = 0 from rfl] at h
  rw [wholeI, h, if_pos rfl, if_neg (by show ¬ ((0 + x.bytes.length : Nat) : Int) = _; omega)]

/-- Bytes, item by item. -/
def headB (x : IN) : List UInt8 := headL x.kind.toNat x.arg.toNat ++ x.txt.data.toList
theorem preL_bytes (l : List IN) (d : Nat) (h : ∀ x ∈ l, (x.pre d).flatMap (fun p => headB p.2) = x.bytes) : (IN.preL l d).flatMap (fun p => headB p.2) = IN.bytesL l := by
  induction l with
  | nil => rfl
  | cons x l ih => rw [IN.preL, IN.bytesL, List.flatMap_append, h x (by simp), ih fun y hy => h y (by simp [hy])]
theorem IN.pre_bytes (x : IN) : ∀ d, (x.pre d).flatMap (fun p => headB p.2) = x.bytes := by
  induction x using IN.ind with
  | h k n s l ih =>
    intro d
    rw [IN.pre, List.flatMap_cons, preL_bytes l (d + 1) fun x hx => ih x hx (d + 1), IN.bytes]
    rfl

end Go.Proofs.YtmoghgmbpkpcfaaGreatDoor
