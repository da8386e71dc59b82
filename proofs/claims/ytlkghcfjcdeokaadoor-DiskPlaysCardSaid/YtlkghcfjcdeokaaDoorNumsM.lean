/-
  Numbers as bytes: plain lists and naturals, no program: 'val', 'digits', and what the program and the document's answer compute with them. No condition.
-/
import Derived.WalkKit
namespace Go.Proofs.YtlkghcfjcdeokaaDoor

theorem snoc_ind {α : Type} {C : List α → Prop} (h0 : C []) (hs : ∀ l a, C l → C (l ++ [a])) : ∀ l, C l := by
  intro l
  have : ∀ r : List α, C r.reverse := by
    intro r
    induction r with
    | nil => exact h0
    | cons a r ih => rw [List.reverse_cons]; exact hs _ _ ih
  have := this l.reverse
  rwa [List.reverse_reverse] at this

/-- The number of some bytes, the greatest part first. -/
def valFrom (acc : Nat) (l : List UInt8) : Nat := l.foldl (fun a b => a * 256 + b.toNat) acc
def val (l : List UInt8) : Nat := valFrom 0 l

theorem valFrom_append (acc : Nat) (l m : List UInt8) : valFrom acc (l ++ m) = valFrom (valFrom acc l) m := by simp [valFrom]
theorem valFrom_cons (acc : Nat) (b : UInt8) (l : List UInt8) : valFrom acc (b :: l) = valFrom (acc * 256 + b.toNat) l := rfl
theorem valFrom_nil (acc : Nat) : valFrom acc [] = acc := rfl
theorem valFrom_eq (acc : Nat) (l : List UInt8) : valFrom acc l = acc * 256 ^ l.length + val l := by
  induction l generalizing acc with
  | nil => simp [valFrom, val]
  | cons b l ih =>
    rw [valFrom_cons, ih]
    show _ = _ + valFrom (0 * 256 + b.toNat) l
    rw [ih (0 * 256 + b.toNat)]
    simp only [List.length_cons, Nat.pow_succ, Nat.zero_mul, Nat.zero_add, Nat.add_mul]
    rw [Nat.mul_comm (256 ^ l.length) 256, ← Nat.mul_assoc]
    omega
theorem val_append (l m : List UInt8) : val (l ++ m) = val l * 256 ^ m.length + val m := by
  rw [val, valFrom_append, valFrom_eq]; rfl
theorem val_snoc (l : List UInt8) (b : UInt8) : val (l ++ [b]) = val l * 256 + b.toNat := by
  rw [val, valFrom_append]; rfl
theorem val_lt (l : List UInt8) : val l < 256 ^ l.length := by
  induction l using snoc_ind with
  | h0 => simp [val, valFrom]
  | hs l b ih =>
    rw [val_snoc, List.length_append]
    simp only [List.length_cons, List.length_nil, Nat.pow_succ, Nat.zero_add]
    have := b.toNat_lt
    omega
theorem val_take_le (l : List UInt8) (k : Nat) : val (l.take k) ≤ val l := by
  conv => rhs; rw [← List.take_append_drop k l, val_append]
  have : 1 ≤ 256 ^ (l.drop k).length := Nat.one_le_pow _ _ (by omega)
  calc val (l.take k) = val (l.take k) * 1 := by omega
    _ ≤ val (l.take k) * 256 ^ (l.drop k).length := Nat.mul_le_mul_left _ this
    _ ≤ _ := by omega

/-- A number's bytes in a width, the greatest part first. -/
def digits : Nat → Nat → List UInt8
  | 0, _ => []
  | w + 1, n => digits w (n / 256) ++ [UInt8.ofNat (n % 256)]

theorem digits_length (w n : Nat) : (digits w n).length = w := by
  induction w generalizing n with
  | zero => rfl
  | succ w ih => simp [digits, ih]
theorem val_digits (w n : Nat) : val (digits w n) = n % 256 ^ w := by
  induction w generalizing n with
  | zero => simp [digits, val, valFrom, Nat.mod_one]
  | succ w ih =>
    rw [digits, val_snoc, ih, Nat.pow_succ, Nat.mul_comm (256 ^ w) 256, Nat.mod_mul]
    have : (UInt8.ofNat (n % 256)).toNat = n % 256 := by simp
    rw [this]; omega
theorem digits_val (l : List UInt8) : digits l.length (val l) = l := by
  induction l using snoc_ind with
  | h0 => rfl
  | hs l b ih =>
    rw [List.length_append, val_snoc]
    show digits l.length ((val l * 256 + b.toNat) / 256) ++ [UInt8.ofNat ((val l * 256 + b.toNat) % 256)] = _
    have hb := b.toNat_lt
    rw [show (val l * 256 + b.toNat) / 256 = val l by omega, show (val l * 256 + b.toNat) % 256 = b.toNat by omega, ih]
    simp
/-- The least byte first: the bytes behind the first k rounds. -/
theorem digits_succ' (w n : Nat) : digits (w + 1) n = UInt8.ofNat (n / 256 ^ w % 256) :: digits w n := by
  induction w generalizing n with
  | zero => simp [digits]
  | succ w ih =>
    rw [digits, ih (n / 256)]
    show _ = _ :: (digits w (n / 256) ++ [UInt8.ofNat (n % 256)])
    rw [Nat.div_div_eq_div_mul, show 256 * 256 ^ w = 256 ^ (w + 1) by rw [Nat.pow_succ, Nat.mul_comm]]
    rfl

end Go.Proofs.YtlkghcfjcdeokaaDoor
