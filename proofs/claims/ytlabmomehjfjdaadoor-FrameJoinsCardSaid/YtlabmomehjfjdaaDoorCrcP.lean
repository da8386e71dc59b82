/-
  Sums by a table, and their bytes: plain naturals and lists, no program. No condition.
-/
import Derived.Test.YtlabmomehjfjdaaDoorNumsM
import Derived.Test.YtlabmomehjfjdaaDoorCrcM
namespace Go.Proofs.YtlabmomehjfjdaaDoor

/-- A kind's own table. -/
def tabL (g : Bool) : List Nat := (List.range 256).map (partN (putN g))
theorem tabL_length (g : Bool) : (tabL g).length = 256 := by simp [tabL]
theorem tabL_get (g : Bool) (i : Nat) (h : i < 256) : (tabL g).getD i 0 = partN (putN g) i := by
  rw [List.getD, tabL, List.getElem?_map, List.getElem?_range h]; rfl

/-- One byte of a sum by a table. -/
def stepT (g : Bool) (T : List Nat) (r : Nat) (b : UInt8) : Nat := (r / 256) ^^^ (T.getD ((r % 256) ^^^ b.toNat) 0 % 2 ^ bitsN g)
def runT (g : Bool) (T : List Nat) (r : Nat) (l : List UInt8) : Nat := l.foldl (stepT g T) r
def sumT (g : Bool) (T : List Nat) (l : List UInt8) : Nat := runT g T (allN g) l ^^^ allN g
theorem runT_snoc (g : Bool) (T : List Nat) (r : Nat) (l : List UInt8) (b : UInt8) : runT g T r (l ++ [b]) = stepT g T (runT g T r l) b := by simp [runT]
theorem stepT_lt (g : Bool) (T : List Nat) {r : Nat} (h : r < 2 ^ bitsN g) (b : UInt8) : stepT g T r b < 2 ^ bitsN g := by
  refine Nat.xor_lt_two_pow (by omega) (Nat.mod_lt _ (Nat.pow_pos (by omega)))
theorem runT_lt (g : Bool) (T : List Nat) (l : List UInt8) : ∀ r, r < 2 ^ bitsN g → runT g T r l < 2 ^ bitsN g := by
  induction l with
  | nil => intro r h; exact h
  | cons b l ih => intro r h; exact ih _ (stepT_lt g T h b)
theorem sumT_lt (g : Bool) (T : List Nat) (l : List UInt8) : sumT g T l < 2 ^ bitsN g := Nat.xor_lt_two_pow (runT_lt g T l _ (allN_lt g)) (allN_lt g)

theorem xor_low {r : Nat} (b : UInt8) : (r ^^^ b.toNat) / 256 = r / 256 ∧ (r ^^^ b.toNat) % 256 = (r % 256) ^^^ b.toNat := by
  have hb := b.toNat_lt
  have h1 : (r ^^^ b.toNat) / 2 ^ 8 = r / 2 ^ 8 := by
    apply Nat.eq_of_testBit_eq
    intro i
    rw [Nat.testBit_div_two_pow, Nat.testBit_div_two_pow, Nat.testBit_xor]
    have : b.toNat.testBit (i + 8) = false := Nat.testBit_lt_two_pow (Nat.lt_of_lt_of_le (show b.toNat < 2 ^ 8 from hb) (Nat.pow_le_pow_right (by omega) (by omega)))
    rw [this]; simp
  have h2 : (r ^^^ b.toNat) % 2 ^ 8 = (r % 2 ^ 8) ^^^ b.toNat := by
    apply Nat.eq_of_testBit_eq
    intro i
    rw [Nat.testBit_mod_two_pow, Nat.testBit_xor, Nat.testBit_xor, Nat.testBit_mod_two_pow]
    by_cases hi : i < 8
    · simp [hi]
    · have : b.toNat.testBit i = false := Nat.testBit_lt_two_pow (Nat.lt_of_lt_of_le (show b.toNat < 2 ^ 8 from hb) (Nat.pow_le_pow_right (by omega) (by omega)))
      simp [hi, this]
  exact ⟨h1, h2⟩
theorem idx_lt (r : Nat) (b : UInt8) : (r % 256) ^^^ b.toNat < 256 := Nat.xor_lt_two_pow (n := 8) (Nat.mod_lt _ (by omega)) b.toNat_lt
theorem stepT_own (g : Bool) (r : Nat) (b : UInt8) : stepT g (tabL g) r b = stepsN (putN g) 8 (r ^^^ b.toNat) := by
  obtain ⟨h1, h2⟩ := xor_low (r := r) b
  rw [steps8, h1, h2, stepT, tabL_get g _ (idx_lt r b), Nat.mod_eq_of_lt (partN_lt g (idx_lt r b))]
theorem runT_own (g : Bool) (l : List UInt8) : ∀ r, runT g (tabL g) r l = runN (putN g) r l := by
  induction l with
  | nil => intro r; rfl
  | cons b l ih => intro r; rw [runN_cons, ← ih, ← stepT_own]; rfl
/-- The sum by a kind's own table is the kind's sum. -/
theorem sumT_own (g : Bool) (l : List UInt8) : sumT g (tabL g) l = sumN g l := by rw [sumT, runT_own]; rfl

/-- How many bytes a sum has. -/
def sizeN (g : Bool) : Nat := if g then 4 else 2
theorem sizeN_bits (g : Bool) : 8 * sizeN g = bitsN g ∧ 256 ^ sizeN g = 2 ^ bitsN g := by cases g <;> exact ⟨rfl, rfl⟩
/-- The bytes of a text's sum. -/
def sumB (g : Bool) (l : List UInt8) : List UInt8 := digits (sizeN g) (sumN g l)
theorem sumB_length (g : Bool) (l : List UInt8) : (sumB g l).length = sizeN g := digits_length _ _
theorem val_sumB (g : Bool) (l : List UInt8) : val (sumB g l) = sumN g l := by
  rw [sumB, val_digits]
  exact Nat.mod_eq_of_lt (by rw [(sizeN_bits g).2]; exact sumN_lt g l)
theorem sumB_inj (g : Bool) {l m : List UInt8} (h : sumB g l = sumB g m) : runN (putN g) (allN g) l = runN (putN g) (allN g) m := by
  have := congrArg val h
  rw [val_sumB, val_sumB] at this
  exact xor_inj' this

theorem bursts (g : Bool) (a x y c : List UInt8) (hxy : x.length = y.length) (hx : x.length = sizeN g) : sumB g (a ++ x ++ c) = sumB g (a ++ y ++ c) ↔ x = y := by
  refine ⟨fun h => burst (bitsN_pos g) (putN_lt g) (putN_top g) _ (allN_lt g) a x y c hxy (by rw [hx, (sizeN_bits g).1]; exact Nat.le_refl _) (sumB_inj g h), fun h => by rw [h]⟩
theorem turns (g : Bool) (a c : List UInt8) (x y : UInt8) : sumB g (a ++ [x, y] ++ c) = sumB g (a ++ [y, x] ++ c) ↔ x = y :=
  ⟨fun h => turned g _ (allN_lt g) a c x y (sumB_inj g h), fun h => by rw [h]⟩

/-- Three texts of one length, put together byte by byte by exclusive or. -/
def mix3 : List UInt8 → List UInt8 → List UInt8 → List UInt8
  | a :: l, b :: m, c :: n => (a ^^^ b ^^^ c) :: mix3 l m n
  | _, _, _ => []
theorem mix3_length : ∀ (l m n : List UInt8), l.length = m.length → l.length = n.length → (mix3 l m n).length = l.length
  | [], [], [], _, _ => rfl
  | a :: l, b :: m, c :: n, h, k => by
    rw [mix3, List.length_cons, List.length_cons, mix3_length l m n (by simpa using h) (by simpa using k)]
theorem mix3_get : ∀ (l m n : List UInt8) (_ : l.length = m.length) (_ : l.length = n.length) (i : Nat) (h : i < l.length) (h1 : i < m.length) (h2 : i < n.length) (h3 : i < (mix3 l m n).length), (mix3 l m n)[i].toNat = l[i].toNat ^^^ m[i].toNat ^^^ n[i].toNat
  | a :: l, b :: m, c :: n, h, k, 0, _, _, _, _ => by simp [mix3]
  | a :: l, b :: m, c :: n, h, k, i + 1, h0, h1, h2, h3 => by
    have := mix3_get l m n (by simpa using h) (by simpa using k) i (by simpa using h0) (by simpa using h1) (by simpa using h2) (by simpa [mix3] using h3)
    simpa [mix3] using this
theorem mix3_append : ∀ (l m n l' m' n' : List UInt8), l.length = m.length → l.length = n.length → mix3 (l ++ l') (m ++ m') (n ++ n') = mix3 l m n ++ mix3 l' m' n'
  | [], [], [], _, _, _, _, _ => rfl
  | a :: l, b :: m, c :: n, l', m', n', h, k => by
    have := mix3_append l m n l' m' n' (by simpa using h) (by simpa using k)
    simp [mix3, this]
theorem mix3_take (l m n : List UInt8) (h : l.length = m.length) (k : l.length = n.length) (i : Nat) : (mix3 l m n).take i = mix3 (l.take i) (m.take i) (n.take i) := by
  induction i generalizing l m n with
  | zero => simp [mix3]
  | succ i ih =>
    match l, m, n, h, k with
    | [], [], [], _, _ => rfl
    | a :: l, b :: m, c :: n, h, k => simp [mix3, ih l m n (by simpa using h) (by simpa using k)]

theorem xor3_div (x y z k : Nat) : (x ^^^ y ^^^ z) / 2 ^ k = (x / 2 ^ k) ^^^ (y / 2 ^ k) ^^^ (z / 2 ^ k) := by
  apply Nat.eq_of_testBit_eq
  intro i
  simp only [Nat.testBit_div_two_pow, Nat.testBit_xor]
theorem xor3_mod (x y z k : Nat) : (x ^^^ y ^^^ z) % 2 ^ k = (x % 2 ^ k) ^^^ (y % 2 ^ k) ^^^ (z % 2 ^ k) := by
  apply Nat.eq_of_testBit_eq
  intro i
  simp only [Nat.testBit_mod_two_pow, Nat.testBit_xor]
  by_cases h : i < k <;> simp [h]
theorem digits_mix3 (w : Nat) : ∀ x y z : Nat, digits w (x ^^^ y ^^^ z) = mix3 (digits w x) (digits w y) (digits w z) := by
  induction w with
  | zero => intro x y z; rfl
  | succ w ih =>
    intro x y z
    have hd := xor3_div x y z 8
    have hm := xor3_mod x y z 8
    rw [digits, digits, digits, digits, mix3_append _ _ _ _ _ _ (by rw [digits_length, digits_length]) (by rw [digits_length, digits_length]), ← ih]
    rw [show x / 256 ^^^ y / 256 ^^^ z / 256 = (x ^^^ y ^^^ z) / 256 from hd.symm]
    congr 1
    simp only [mix3, List.cons.injEq, and_true]
    apply UInt8.toNat_inj.1
    have l : ∀ q : Nat, (UInt8.ofNat (q % 256)).toNat = q % 256 := fun q => UInt8.toNat_ofNat_of_lt' (by show _ < 256; omega)
    rw [UInt8.toNat_xor, UInt8.toNat_xor, l, l, l, l]
    exact hm
/-- Of three texts of one length the sums, put together, are the sum of the three put together. -/
theorem mixed_sum (g : Bool) (l m n : List UInt8) (h : l.length = m.length) (k : l.length = n.length) : sumB g (mix3 l m n) = mix3 (sumB g l) (sumB g m) (sumB g n) := by
  have hl := mix3_length l m n h k
  have hr := runN_xor3 (putN g) l m n (mix3 l m n) (allN g) (allN g) (allN g) h k hl.symm (fun i h0 h1 h2 h3 => mix3_get l m n h k i h0 h1 h2 h3)
  have hs : sumN g (mix3 l m n) = sumN g l ^^^ sumN g m ^^^ sumN g n := by
    have e : allN g ^^^ allN g ^^^ allN g = allN g := by rw [Nat.xor_self, Nat.zero_xor]
    rw [e] at hr
    have key : ∀ a b c d : Nat, (a ^^^ b ^^^ c) ^^^ d = (a ^^^ d) ^^^ (b ^^^ d) ^^^ (c ^^^ d) := fun a b c d => by
      rw [xor_swap a d b d, Nat.xor_self, Nat.xor_zero, Nat.xor_assoc]
    unfold sumN
    rw [hr, key]
  rw [sumB, hs, digits_mix3]; rfl

/-- Nat's exclusive or of two registers, byte by byte: the number of bytes. -/
theorem val_fold (l : List UInt8) : val l = l.foldl (fun a b => 256 * a + b.toNat) 0 := by
  rw [val, valFrom]
  congr 1
  funext a b
  omega

end Go.Proofs.YtlabmomehjfjdaaDoor
