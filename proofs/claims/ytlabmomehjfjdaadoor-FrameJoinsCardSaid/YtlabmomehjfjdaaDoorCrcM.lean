/-
  Sums of bytes: plain naturals and lists, no program. No condition.
-/
import Derived.WalkKit
namespace Go.Proofs.YtlabmomehjfjdaaDoor

/-- One bit falls out of a register. -/
def stepN (put r : Nat) : Nat := if r % 2 = 1 then (r / 2) ^^^ put else r / 2
/-- So many bits. -/
def stepsN (put : Nat) : Nat → Nat → Nat
  | 0, r => r
  | k + 1, r => stepN put (stepsN put k r)
/-- A byte's part. -/
def partN (put b : Nat) : Nat := stepsN put 8 b
/-- What is put to a kind's register. -/
def putN (big : Bool) : Nat := if big then 2197175160 else 33800
/-- A kind's bits. -/
def bitsN (big : Bool) : Nat := if big then 32 else 16

theorem xor_mod2 (x y : Nat) : (x ^^^ y) % 2 = (x % 2 + y % 2) % 2 := by
  have h := Nat.testBit_xor x y 0
  simp only [Nat.testBit_zero] at h
  rcases Nat.mod_two_eq_zero_or_one x with hx | hx <;> rcases Nat.mod_two_eq_zero_or_one y with hy | hy <;> rcases Nat.mod_two_eq_zero_or_one (x ^^^ y) with hz | hz <;> simp [hx, hy, hz] at h ⊢
theorem xor_div2 (x y : Nat) : (x ^^^ y) / 2 = x / 2 ^^^ y / 2 := by
  apply Nat.eq_of_testBit_eq
  intro i
  rw [Nat.testBit_xor]
  simp only [← Nat.testBit_succ, Nat.testBit_xor]
theorem xor_swap (a b c d : Nat) : (a ^^^ b) ^^^ (c ^^^ d) = (a ^^^ c) ^^^ (b ^^^ d) := by
  rw [Nat.xor_assoc, ← Nat.xor_assoc b c d, Nat.xor_comm b c, Nat.xor_assoc c b d, ← Nat.xor_assoc]
theorem xor_can (a b : Nat) : a ^^^ (a ^^^ b) = b := by rw [← Nat.xor_assoc, Nat.xor_self, Nat.zero_xor]
theorem xor_inj {a b c : Nat} (h : a ^^^ b = a ^^^ c) : b = c := by rw [← xor_can a b, h, xor_can]
theorem xor_inj' {a b c : Nat} (h : b ^^^ a = c ^^^ a) : b = c := by rw [Nat.xor_comm b, Nat.xor_comm c] at h; exact xor_inj h

theorem stepN_xor (put x y : Nat) : stepN put (x ^^^ y) = stepN put x ^^^ stepN put y := by
  unfold stepN
  rw [xor_mod2, xor_div2]
  rcases Nat.mod_two_eq_zero_or_one x with hx | hx <;> rcases Nat.mod_two_eq_zero_or_one y with hy | hy <;> rw [hx, hy]
  · rfl
  · show (x / 2 ^^^ y / 2) ^^^ put = x / 2 ^^^ (y / 2 ^^^ put); rw [Nat.xor_assoc]
  · show (x / 2 ^^^ y / 2) ^^^ put = (x / 2 ^^^ put) ^^^ y / 2; rw [Nat.xor_assoc, Nat.xor_assoc, Nat.xor_comm (y / 2)]
  · show (x / 2 ^^^ y / 2) = (x / 2 ^^^ put) ^^^ (y / 2 ^^^ put); rw [xor_swap, Nat.xor_self, Nat.xor_zero]
theorem stepsN_xor (put k x y : Nat) : stepsN put k (x ^^^ y) = stepsN put k x ^^^ stepsN put k y := by
  induction k with
  | zero => rfl
  | succ k ih => rw [stepsN, ih, stepN_xor]; rfl
theorem stepsN_add (put j k x : Nat) : stepsN put (j + k) x = stepsN put j (stepsN put k x) := by
  induction j with
  | zero => rw [Nat.zero_add]; rfl
  | succ j ih => rw [Nat.succ_add, stepsN, ih]; rfl
theorem stepsN_shift (put k x : Nat) : stepsN put k (x * 2 ^ k) = x := by
  induction k generalizing x with
  | zero => simp [stepsN]
  | succ k ih =>
    rw [stepsN, show x * 2 ^ (k + 1) = (2 * x) * 2 ^ k by rw [Nat.pow_succ, Nat.mul_comm 2 x, Nat.mul_assoc, Nat.mul_comm 2]]
    rw [ih, stepN, if_neg (by omega)]
    omega
theorem stepsN_zero (put k : Nat) : stepsN put k 0 = 0 := by
  have := stepsN_shift put k 0
  rwa [Nat.zero_mul] at this

theorem split8 (r : Nat) : r = (r / 256 * 2 ^ 8) ^^^ (r % 256) := by
  apply Nat.eq_of_testBit_eq
  intro i
  rw [Nat.testBit_xor, Nat.mul_comm, Nat.testBit_two_pow_mul, show r / 256 = r / 2 ^ 8 from rfl, show r % 256 = r % 2 ^ 8 from rfl, Nat.testBit_mod_two_pow, Nat.testBit_div_two_pow]
  by_cases hi : i < 8
  · simp [hi, show ¬ 8 ≤ i by omega]
  · have e : i - 8 + 8 = i := by omega
    simp [hi, show 8 ≤ i by omega, e]
/-- Eight bits that fall out are the byte's part, put to the rest. -/
theorem steps8 (put r : Nat) : stepsN put 8 r = (r / 256) ^^^ partN put (r % 256) := by
  conv => lhs; rw [split8 r]
  rw [stepsN_xor, stepsN_shift]; rfl

theorem stepN_lt {put r w : Nat} (hp : put < 2 ^ w) (hr : r < 2 ^ w) : stepN put r < 2 ^ w := by
  unfold stepN
  split
  · exact Nat.xor_lt_two_pow (by omega) hp
  · omega
theorem stepsN_lt {put r w : Nat} (k : Nat) (hp : put < 2 ^ w) (hr : r < 2 ^ w) : stepsN put k r < 2 ^ w := by
  induction k with
  | zero => exact hr
  | succ k ih => exact stepN_lt hp ih
theorem stepN_inj {put w x y : Nat} (hw : 1 ≤ w) (hp : put < 2 ^ w) (ht : put.testBit (w - 1) = true) (hx : x < 2 ^ w) (hy : y < 2 ^ w) (h : stepN put x = stepN put y) : x = y := by
  have hpow : 2 ^ w = 2 * 2 ^ (w - 1) := by
    obtain ⟨v, rfl⟩ : ∃ v, w = v + 1 := ⟨w - 1, by omega⟩
    rw [Nat.add_sub_cancel, Nat.pow_succ]; omega
  have bx : (x / 2).testBit (w - 1) = false := Nat.testBit_lt_two_pow (by omega)
  have by_ : (y / 2).testBit (w - 1) = false := Nat.testBit_lt_two_pow (by omega)
  unfold stepN at h
  split at h <;> split at h
  · have := xor_inj' h; omega
  · have h' := congrArg (fun n => n.testBit (w - 1)) h
    rw [Nat.testBit_xor, bx, ht, by_] at h'
    cases h'
  · have h' := congrArg (fun n => n.testBit (w - 1)) h
    rw [Nat.testBit_xor, bx, ht, by_] at h'
    cases h'
  · omega
theorem stepsN_inj {put w x y : Nat} (k : Nat) (hw : 1 ≤ w) (hp : put < 2 ^ w) (ht : put.testBit (w - 1) = true) (hx : x < 2 ^ w) (hy : y < 2 ^ w) (h : stepsN put k x = stepsN put k y) : x = y := by
  induction k with
  | zero => exact h
  | succ k ih => exact ih (stepN_inj hw hp ht (stepsN_lt k hp hx) (stepsN_lt k hp hy) h)

theorem putN_lt (b : Bool) : putN b < 2 ^ bitsN b := by cases b <;> simp only [putN, bitsN] <;> exact of_decide_eq_true (by decide +kernel)
theorem putN_top (b : Bool) : (putN b).testBit (bitsN b - 1) = true := by cases b <;> decide +kernel
theorem bitsN_pos (b : Bool) : 8 ≤ bitsN b := by cases b <;> decide

/-- A register behind a text. -/
def runN (put r : Nat) (l : List UInt8) : Nat := l.foldl (fun r b => stepsN put 8 (r ^^^ b.toNat)) r
theorem runN_append (put r : Nat) (l m : List UInt8) : runN put r (l ++ m) = runN put (runN put r l) m := by simp [runN]
theorem runN_cons (put r : Nat) (b : UInt8) (l : List UInt8) : runN put r (b :: l) = runN put (stepsN put 8 (r ^^^ b.toNat)) l := by
  unfold runN; rw [List.foldl_cons]
theorem byte_lt {w : Nat} (b : UInt8) (hw : 8 ≤ w) : b.toNat < 2 ^ w := by
  have h1 := b.toNat_lt
  have h2 : 2 ^ 8 ≤ 2 ^ w := Nat.pow_le_pow_right (by omega) hw
  omega
theorem runN_lt {put w : Nat} (hw : 8 ≤ w) (hp : put < 2 ^ w) (l : List UInt8) : ∀ r, r < 2 ^ w → runN put r l < 2 ^ w := by
  induction l with
  | nil => intro r h; exact h
  | cons b l ih => intro r h; rw [runN_cons]; exact ih _ (stepsN_lt 8 hp (Nat.xor_lt_two_pow h (byte_lt b hw)))
theorem runN_inj {put w : Nat} (hw : 8 ≤ w) (hp : put < 2 ^ w) (ht : put.testBit (w - 1) = true) (l : List UInt8) : ∀ x y, x < 2 ^ w → y < 2 ^ w → runN put x l = runN put y l → x = y := by
  induction l with
  | nil => intro x y _ _ h; exact h
  | cons b l ih =>
    intro x y hx hy h
    rw [runN_cons, runN_cons] at h
    have h1 := ih _ _ (stepsN_lt 8 hp (Nat.xor_lt_two_pow hx (byte_lt b hw))) (stepsN_lt 8 hp (Nat.xor_lt_two_pow hy (byte_lt b hw))) h
    have h2 := stepsN_inj 8 (by omega) hp ht (Nat.xor_lt_two_pow hx (byte_lt b hw)) (Nat.xor_lt_two_pow hy (byte_lt b hw)) h1
    exact xor_inj' h2

/-- A text's number, the least part first. -/
def lev : List UInt8 → Nat
  | [] => 0
  | b :: l => b.toNat ^^^ (lev l * 2 ^ 8)
theorem runN_lev (put : Nat) (l : List UInt8) : ∀ r, runN put r l = stepsN put (8 * l.length) (r ^^^ lev l) := by
  induction l with
  | nil => intro r; simp [runN, lev, stepsN]
  | cons b l ih =>
    intro r
    rw [runN_cons, ih, List.length_cons, show 8 * (l.length + 1) = 8 * l.length + 8 by omega, stepsN_add, lev, ← Nat.xor_assoc, stepsN_xor put 8 (r ^^^ b.toNat), stepsN_shift]
theorem lev_lt (l : List UInt8) : lev l < 2 ^ (8 * l.length) := by
  induction l with
  | nil => simp [lev]
  | cons b l ih =>
    rw [lev, List.length_cons, show 8 * (l.length + 1) = 8 * l.length + 8 by omega]
    refine Nat.xor_lt_two_pow (byte_lt b (by omega)) ?_
    rw [Nat.pow_add]
    exact Nat.mul_lt_mul_of_pos_right ih (by decide)
theorem lev_inj (l : List UInt8) : ∀ m : List UInt8, l.length = m.length → lev l = lev m → l = m := by
  induction l with
  | nil => intro m hm _; cases m with
    | nil => rfl
    | cons c m => simp at hm
  | cons b l ih =>
    intro m hm h
    cases m with
    | nil => simp at hm
    | cons c m =>
      rw [lev, lev] at h
      have e : ∀ (b : UInt8) (x : Nat), (b.toNat ^^^ (x * 2 ^ 8)) % 256 = b.toNat ∧ (b.toNat ^^^ (x * 2 ^ 8)) / 256 = x := by
        intro b x
        have hb := b.toNat_lt
        have hs : b.toNat ^^^ (x * 2 ^ 8) = x * 256 + b.toNat := by
          have := split8 (x * 256 + b.toNat)
          rw [show (x * 256 + b.toNat) / 256 = x by omega, show (x * 256 + b.toNat) % 256 = b.toNat by omega, Nat.xor_comm] at this
          exact this.symm
        rw [hs]; omega
      have h1 := e b (lev l)
      have h2 := e c (lev m)
      rw [h] at h1
      have hbc : b = c := UInt8.toNat_inj.1 (h1.1.symm.trans h2.1)
      have hl := ih m (by simpa using hm) (h1.2.symm.trans h2.2)
      rw [hbc, hl]

/-- Bytes beside each other, as many as the register has or fewer: other ones make another register. -/
theorem burst {put w : Nat} (hw : 8 ≤ w) (hp : put < 2 ^ w) (ht : put.testBit (w - 1) = true) (r : Nat) (hr : r < 2 ^ w) (a x y c : List UInt8) (hxy : x.length = y.length) (hx : 8 * x.length ≤ w)
    (h : runN put r (a ++ x ++ c) = runN put r (a ++ y ++ c)) : x = y := by
  rw [runN_append, runN_append, runN_append, runN_append] at h
  have ha := runN_lt hw hp a r hr
  have h1 := runN_inj hw hp ht c _ _ (runN_lt hw hp x _ ha) (runN_lt hw hp y _ ha) h
  rw [runN_lev put x, runN_lev put y, ← hxy] at h1
  have lx : lev x < 2 ^ w := Nat.lt_of_lt_of_le (lev_lt x) (Nat.pow_le_pow_right (by omega) hx)
  have ly : lev y < 2 ^ w := Nat.lt_of_lt_of_le (lev_lt y) (Nat.pow_le_pow_right (by omega) (by omega))
  have h2 := stepsN_inj (8 * x.length) (by omega) hp ht (Nat.xor_lt_two_pow ha lx) (Nat.xor_lt_two_pow ha ly) h1
  exact lev_inj x y hxy (xor_inj h2)

theorem no_fix (b : Bool) : (List.range 256).all (fun d => partN (putN b) d != d || d == 0) = true := by cases b <;> decide +kernel
/-- Two neighbours that are turned. -/
theorem turned (g : Bool) (r : Nat) (hr : r < 2 ^ bitsN g) (a c : List UInt8) (x y : UInt8)
    (h : runN (putN g) r (a ++ [x, y] ++ c) = runN (putN g) r (a ++ [y, x] ++ c)) : x = y := by
  have hw := bitsN_pos g
  have hp := putN_lt g
  have ht := putN_top g
  rw [runN_append, runN_append, runN_append, runN_append] at h
  have ha := runN_lt hw hp a r hr
  have h1 := runN_inj hw hp ht c _ _ (runN_lt hw hp _ _ ha) (runN_lt hw hp _ _ ha) h
  have h2 : stepsN (putN g) 8 (stepsN (putN g) 8 (runN (putN g) r a ^^^ x.toNat) ^^^ y.toNat) = stepsN (putN g) 8 (stepsN (putN g) 8 (runN (putN g) r a ^^^ y.toNat) ^^^ x.toNat) := h1
  have l : ∀ z : UInt8, runN (putN g) r a ^^^ z.toNat < 2 ^ bitsN g := fun z => Nat.xor_lt_two_pow ha (byte_lt z hw)
  have h3 := stepsN_inj 8 (by omega) hp ht (Nat.xor_lt_two_pow (stepsN_lt 8 hp (l x)) (byte_lt y hw)) (Nat.xor_lt_two_pow (stepsN_lt 8 hp (l y)) (byte_lt x hw)) h2
  rw [stepsN_xor, stepsN_xor, Nat.xor_assoc, Nat.xor_assoc] at h3
  have h4 := xor_inj h3
  have h5 : partN (putN g) (x.toNat ^^^ y.toNat) = x.toNat ^^^ y.toNat := by
    show stepsN (putN g) 8 _ = _
    rw [stepsN_xor]
    have h6 : stepsN (putN g) 8 x.toNat = (stepsN (putN g) 8 y.toNat ^^^ x.toNat) ^^^ y.toNat := by rw [← h4, Nat.xor_assoc, Nat.xor_self, Nat.xor_zero]
    rw [h6, Nat.xor_comm _ (stepsN (putN g) 8 y.toNat), Nat.xor_assoc, xor_can]
  have hd : x.toNat ^^^ y.toNat < 256 := Nat.xor_lt_two_pow (n := 8) x.toNat_lt y.toNat_lt
  have hk := List.all_eq_true.1 (no_fix g) _ (List.mem_range.2 hd)
  rw [h5] at hk
  have h0 : x.toNat ^^^ y.toNat = 0 := by simpa using hk
  refine UInt8.toNat_inj.1 ?_
  have := congrArg (fun n => n ^^^ y.toNat) h0
  simpa [Nat.xor_assoc] using this

/-- Linear: three registers. -/
theorem runN_xor3 (put : Nat) : ∀ (l m n o : List UInt8) (r s t : Nat), l.length = m.length → l.length = n.length → l.length = o.length →
    (∀ i (h : i < l.length) (h1 : i < m.length) (h2 : i < n.length) (h3 : i < o.length), o[i].toNat = l[i].toNat ^^^ m[i].toNat ^^^ n[i].toNat) →
    runN put (r ^^^ s ^^^ t) o = runN put r l ^^^ runN put s m ^^^ runN put t n := by
  intro l
  induction l with
  | nil =>
    intro m n o r s t h1 h2 h3 _
    match m, n, o, h1, h2, h3 with
    | [], [], [], _, _, _ => rfl
  | cons a l ih =>
    intro m n o r s t h1 h2 h3 h
    match m, n, o, h1, h2, h3 with
    | b :: m, c :: n, d :: o, h1, h2, h3 =>
      have h0 : d.toNat = a.toNat ^^^ b.toNat ^^^ c.toNat := h 0 (by simp) (by simp) (by simp) (by simp)
      rw [runN_cons, runN_cons, runN_cons, runN_cons, h0]
      rw [show r ^^^ s ^^^ t ^^^ (a.toNat ^^^ b.toNat ^^^ c.toNat) = (r ^^^ a.toNat) ^^^ (s ^^^ b.toNat) ^^^ (t ^^^ c.toNat) by rw [xor_swap, xor_swap r]]
      rw [stepsN_xor, stepsN_xor]
      exact ih m n o _ _ _ (by simpa using h1) (by simpa using h2) (by simpa using h3) (fun i g g1 g2 g3 => h (i + 1) (by simpa using g) (by simpa using g1) (by simpa using g2) (by simpa using g3))

theorem partN_xor (put x y : Nat) : partN put (x ^^^ y) = partN put x ^^^ partN put y := stepsN_xor put 8 x y
theorem partN_zero (put : Nat) : partN put 0 = 0 := stepsN_zero put 8
theorem partN_lt (g : Bool) {b : Nat} (hb : b < 256) : partN (putN g) b < 2 ^ bitsN g := stepsN_lt 8 (putN_lt g) (Nat.lt_of_lt_of_le hb (Nat.pow_le_pow_right (n := 2) (by omega) (bitsN_pos g)))

/-- A text's sum. -/
def allN (g : Bool) : Nat := if g then 4294967295 else 65535
def sumN (g : Bool) (l : List UInt8) : Nat := runN (putN g) (allN g) l ^^^ allN g
theorem allN_lt (g : Bool) : allN g < 2 ^ bitsN g := by cases g <;> decide +kernel
theorem sumN_lt (g : Bool) (l : List UInt8) : sumN g l < 2 ^ bitsN g := Nat.xor_lt_two_pow (runN_lt (bitsN_pos g) (putN_lt g) l _ (allN_lt g)) (allN_lt g)

end Go.Proofs.YtlabmomehjfjdaaDoor
