/-
  Numbers as bytes: plain lists and naturals, no program: 'val', 'digits', and what the program and the document's answer compute with them, and more of the kind. Conditions: as the theorems' own hypotheses say.
-/
import Derived.WalkKit
namespace Go.Proofs.YtmebjdbkngehiaaGreatDoor
variable {put r w k : Nat} {l s : List UInt8} {i : Int} {L : List (List UInt8)}
theorem snoc_ind {α : Type} {C : List α → Prop} (h0 : C []) (hs : ∀ l a, C l → C (l ++ [a])) : ∀ l, C l := by
 intro l
 have : ∀ r : List α, C r.reverse := by
  intro r
  induction r with
  | nil => exact h0
  | cons a r ih => rw [List.reverse_cons]; exact hs _ _ ih
 have := this l.reverse
 rwa [List.reverse_reverse] at this
def valFrom (acc : Nat) (l : List UInt8) : Nat := l.foldl (fun a b => a * 256 + b.toNat) acc
def val (l : List UInt8) : Nat := valFrom 0 l
theorem valFrom_append (acc : Nat) (l m : List UInt8) : valFrom acc (l ++ m) = valFrom (valFrom acc l) m := by simp [valFrom]
theorem valFrom_cons (acc : Nat) (b : UInt8) (l : List UInt8) : valFrom acc (b :: l) = valFrom (acc * 256 + b.toNat) l := rfl
theorem valFrom_eq (acc : Nat) (l : List UInt8) : valFrom acc l = acc * 256 ^ l.length + val l := by
 induction l generalizing acc with
 | nil => simp [valFrom, val]
 | cons b l ih =>
  rw [valFrom_cons, ih]
  show _ = _ + valFrom (0 * 256 + b.toNat) l
  rw [ih (0 * 256 + b.toNat)]
  simp only [List.length_cons, Nat.pow_succ, Nat.zero_mul, Nat.zero_add, Nat.add_mul]
  rw [Nat.mul_comm (256 ^ l.length) 256, ← Nat.mul_assoc]
  omega
theorem val_append (l m : List UInt8) : val (l ++ m) = val l * 256 ^ m.length + val m := by
 rw [val, valFrom_append, valFrom_eq]; rfl
theorem val_snoc (l : List UInt8) (b : UInt8) : val (l ++ [b]) = val l * 256 + b.toNat := by
 rw [val, valFrom_append]; rfl
theorem val_lt (l : List UInt8) : val l < 256 ^ l.length := by
 induction l using snoc_ind with
 | h0 => simp [val, valFrom]
 | hs l b ih =>
  rw [val_snoc, List.length_append]
  simp only [List.length_cons, List.length_nil, Nat.pow_succ, Nat.zero_add]
  have := b.toNat_lt
  omega
theorem val_take_le (l : List UInt8) (k : Nat) : val (l.take k) ≤ val l := by
 conv => rhs; rw [← List.take_append_drop k l, val_append]
 have : 1 ≤ 256 ^ (l.drop k).length := Nat.one_le_pow _ _ (by omega)
 calc val (l.take k) = val (l.take k) * 1 := by omega
  _ ≤ val (l.take k) * 256 ^ (l.drop k).length := Nat.mul_le_mul_left _ this
  _ ≤ _ := by omega
def digits : Nat → Nat → List UInt8
 | 0, _ => []
 | w + 1, n => digits w (n / 256) ++ [UInt8.ofNat (n % 256)]
theorem digits_length (w n : Nat) : (digits w n).length = w := by
 induction w generalizing n with
 | zero => rfl
 | succ w ih => simp [digits, ih]
theorem digits_succ' (w n : Nat) : digits (w + 1) n = UInt8.ofNat (n / 256 ^ w % 256) :: digits w n := by
 induction w generalizing n with
 | zero => simp [digits]
 | succ w ih =>
  rw [digits, ih (n / 256)]
  show _ = _ :: (digits w (n / 256) ++ [UInt8.ofNat (n % 256)])
  rw [Nat.div_div_eq_div_mul, show 256 * 256 ^ w = 256 ^ (w + 1) by rw [Nat.pow_succ, Nat.mul_comm]]
  rfl
def stepN (put r : Nat) : Nat := if r % 2 = 1 then (r / 2) ^^^ put else r / 2
def stepsN (put : Nat) : Nat → Nat → Nat
 | 0, r => r
 | k + 1, r => stepN put (stepsN put k r)
def partN (put b : Nat) : Nat := stepsN put 8 b
def putN (big : Bool) : Nat := if big then 2197175160 else 33800
def bitsN (big : Bool) : Nat := if big then 32 else 16
theorem xor_mod2 (x y : Nat) : (x ^^^ y) % 2 = (x % 2 + y % 2) % 2 := by
 have h := Nat.testBit_xor x y 0
 simp only [Nat.testBit_zero] at h
 rcases Nat.mod_two_eq_zero_or_one x with hx | hx <;> rcases Nat.mod_two_eq_zero_or_one y with hy | hy <;> rcases Nat.mod_two_eq_zero_or_one (x ^^^ y) with hz | hz <;> simp [hx, hy, hz] at h ⊢
theorem xor_div2 (x y : Nat) : (x ^^^ y) / 2 = x / 2 ^^^ y / 2 := by
 apply Nat.eq_of_testBit_eq
 intro i
 rw [Nat.testBit_xor]
 simp only [← Nat.testBit_succ, Nat.testBit_xor]
theorem xor_swap (a b c d : Nat) : (a ^^^ b) ^^^ (c ^^^ d) = (a ^^^ c) ^^^ (b ^^^ d) := by
 rw [Nat.xor_assoc, ← Nat.xor_assoc b c d, Nat.xor_comm b c, Nat.xor_assoc c b d, ← Nat.xor_assoc]
theorem stepN_xor (put x y : Nat) : stepN put (x ^^^ y) = stepN put x ^^^ stepN put y := by
 unfold stepN
 rw [xor_mod2, xor_div2]
 rcases Nat.mod_two_eq_zero_or_one x with hx | hx <;> rcases Nat.mod_two_eq_zero_or_one y with hy | hy <;> rw [hx, hy]
 ·rfl
 ·show (x / 2 ^^^ y / 2) ^^^ put = x / 2 ^^^ (y / 2 ^^^ put); rw [Nat.xor_assoc]
 ·show (x / 2 ^^^ y / 2) ^^^ put = (x / 2 ^^^ put) ^^^ y / 2; rw [Nat.xor_assoc, Nat.xor_assoc, Nat.xor_comm (y / 2)]
 ·show (x / 2 ^^^ y / 2) = (x / 2 ^^^ put) ^^^ (y / 2 ^^^ put); rw [xor_swap, Nat.xor_self, Nat.xor_zero]
theorem stepsN_xor (put k x y : Nat) : stepsN put k (x ^^^ y) = stepsN put k x ^^^ stepsN put k y := by
 induction k with
 | zero => rfl
 | succ k ih => rw [stepsN, ih, stepN_xor]; rfl
theorem stepsN_shift (put k x : Nat) : stepsN put k (x * 2 ^ k) = x := by
 induction k generalizing x with
 | zero => simp [stepsN]
 | succ k ih =>
  rw [stepsN, show x * 2 ^ (k + 1) = (2 * x) * 2 ^ k by rw [Nat.pow_succ, Nat.mul_comm 2 x, Nat.mul_assoc, Nat.mul_comm 2]]
  rw [ih, stepN, if_neg (by omega)]
  omega
theorem split8 (r : Nat) : r = (r / 256 * 2 ^ 8) ^^^ (r % 256) := by
 apply Nat.eq_of_testBit_eq
 intro i
 rw [Nat.testBit_xor, Nat.mul_comm, Nat.testBit_two_pow_mul, show r / 256 = r / 2 ^ 8 from rfl, show r % 256 = r % 2 ^ 8 from rfl, Nat.testBit_mod_two_pow, Nat.testBit_div_two_pow]
 by_cases hi : i < 8
 ·simp [hi, show ¬ 8 ≤ i by omega]
 ·have e : i - 8 + 8 = i := by omega
  simp [hi, show 8 ≤ i by omega, e]
theorem steps8 (put r : Nat) : stepsN put 8 r = (r / 256) ^^^ partN put (r % 256) := by
 conv => lhs; rw [split8 r]
 rw [stepsN_xor, stepsN_shift]; rfl
theorem stepN_lt (hp : put < 2 ^ w) (hr : r < 2 ^ w) : stepN put r < 2 ^ w := by
 unfold stepN
 split
 ·exact Nat.xor_lt_two_pow (by omega) hp
 ·omega
theorem stepsN_lt (k : Nat) (hp : put < 2 ^ w) (hr : r < 2 ^ w) : stepsN put k r < 2 ^ w := by
 induction k with
 | zero => exact hr
 | succ k ih => exact stepN_lt hp ih
theorem putN_lt (b : Bool) : putN b < 2 ^ bitsN b := by cases b <;> simp only [putN, bitsN] <;> exact of_decide_eq_true (by decide +kernel)
theorem bitsN_pos (b : Bool) : 8 ≤ bitsN b := by cases b <;> decide
def runN (put r : Nat) (l : List UInt8) : Nat := l.foldl (fun r b => stepsN put 8 (r ^^^ b.toNat)) r
theorem runN_cons (put r : Nat) (b : UInt8) (l : List UInt8) : runN put r (b :: l) = runN put (stepsN put 8 (r ^^^ b.toNat)) l := by
 unfold runN; rw [List.foldl_cons]
theorem byte_lt (b : UInt8) (hw : 8 ≤ w) : b.toNat < 2 ^ w := by
 have h1 := b.toNat_lt
 have h2 : 2 ^ 8 ≤ 2 ^ w := Nat.pow_le_pow_right (by omega) hw
 omega
theorem runN_lt (hw : 8 ≤ w) (hp : put < 2 ^ w) (l : List UInt8) : ∀ r, r < 2 ^ w → runN put r l < 2 ^ w := by
 induction l with
 | nil => intro r h; exact h
 | cons b l ih => intro r h; rw [runN_cons]; exact ih _ (stepsN_lt 8 hp (Nat.xor_lt_two_pow h (byte_lt b hw)))
theorem partN_lt (g : Bool) {b : Nat} (hb : b < 256) : partN (putN g) b < 2 ^ bitsN g := stepsN_lt 8 (putN_lt g) (Nat.lt_of_lt_of_le hb (Nat.pow_le_pow_right (n := 2) (by omega) (bitsN_pos g)))
def allN (g : Bool) : Nat := if g then 4294967295 else 65535
def sumN (g : Bool) (l : List UInt8) : Nat := runN (putN g) (allN g) l ^^^ allN g
theorem allN_lt (g : Bool) : allN g < 2 ^ bitsN g := by cases g <;> decide +kernel
theorem sumN_lt (g : Bool) (l : List UInt8) : sumN g l < 2 ^ bitsN g := Nat.xor_lt_two_pow (runN_lt (bitsN_pos g) (putN_lt g) l _ (allN_lt g)) (allN_lt g)
def tabL (g : Bool) : List Nat := (List.range 256).map (partN (putN g))
theorem tabL_length (g : Bool) : (tabL g).length = 256 := by simp [tabL]
theorem tabL_get (g : Bool) (i : Nat) (h : i < 256) : (tabL g).getD i 0 = partN (putN g) i := by
 rw [List.getD, tabL, List.getElem?_map, List.getElem?_range h]; rfl
def stepT (g : Bool) (T : List Nat) (r : Nat) (b : UInt8) : Nat := (r / 256) ^^^ (T.getD ((r % 256) ^^^ b.toNat) 0 % 2 ^ bitsN g)
def runT (g : Bool) (T : List Nat) (r : Nat) (l : List UInt8) : Nat := l.foldl (stepT g T) r
def sumT (g : Bool) (T : List Nat) (l : List UInt8) : Nat := runT g T (allN g) l ^^^ allN g
theorem runT_snoc (g : Bool) (T : List Nat) (r : Nat) (l : List UInt8) (b : UInt8) : runT g T r (l ++ [b]) = stepT g T (runT g T r l) b := by simp [runT]
theorem stepT_lt (g : Bool) (T : List Nat) {r : Nat} (h : r < 2 ^ bitsN g) (b : UInt8) : stepT g T r b < 2 ^ bitsN g := by
 refine Nat.xor_lt_two_pow (by omega) (Nat.mod_lt _ (Nat.pow_pos (by omega)))
theorem runT_lt (g : Bool) (T : List Nat) (l : List UInt8) : ∀ r, r < 2 ^ bitsN g → runT g T r l < 2 ^ bitsN g := by
 induction l with
 | nil => intro r h; exact h
 | cons b l ih => intro r h; exact ih _ (stepT_lt g T h b)
theorem sumT_lt (g : Bool) (T : List Nat) (l : List UInt8) : sumT g T l < 2 ^ bitsN g := Nat.xor_lt_two_pow (runT_lt g T l _ (allN_lt g)) (allN_lt g)
theorem xor_low (b : UInt8) : (r ^^^ b.toNat) / 256 = r / 256 ∧ (r ^^^ b.toNat) % 256 = (r % 256) ^^^ b.toNat := by
 have hb := b.toNat_lt
 have h1 : (r ^^^ b.toNat) / 2 ^ 8 = r / 2 ^ 8 := by
  apply Nat.eq_of_testBit_eq
  intro i
  rw [Nat.testBit_div_two_pow, Nat.testBit_div_two_pow, Nat.testBit_xor]
  have : b.toNat.testBit (i + 8) = false := Nat.testBit_lt_two_pow (Nat.lt_of_lt_of_le (show b.toNat < 2 ^ 8 from hb) (Nat.pow_le_pow_right (by omega) (by omega)))
  rw [this]; simp
 have h2 : (r ^^^ b.toNat) % 2 ^ 8 = (r % 2 ^ 8) ^^^ b.toNat := by
  apply Nat.eq_of_testBit_eq
  intro i
  rw [Nat.testBit_mod_two_pow, Nat.testBit_xor, Nat.testBit_xor, Nat.testBit_mod_two_pow]
  by_cases hi : i < 8
  ·simp [hi]
  ·have : b.toNat.testBit i = false := Nat.testBit_lt_two_pow (Nat.lt_of_lt_of_le (show b.toNat < 2 ^ 8 from hb) (Nat.pow_le_pow_right (by omega) (by omega)))
   simp [hi, this]
 exact ⟨h1, h2⟩
theorem idx_lt (r : Nat) (b : UInt8) : (r % 256) ^^^ b.toNat < 256 := Nat.xor_lt_two_pow (n := 8) (Nat.mod_lt _ (by omega)) b.toNat_lt
theorem stepT_own (g : Bool) (r : Nat) (b : UInt8) : stepT g (tabL g) r b = stepsN (putN g) 8 (r ^^^ b.toNat) := by
 obtain ⟨h1, h2⟩ := xor_low (r := r) b
 rw [steps8, h1, h2, stepT, tabL_get g _ (idx_lt r b), Nat.mod_eq_of_lt (partN_lt g (idx_lt r b))]
theorem runT_own (g : Bool) (l : List UInt8) : ∀ r, runT g (tabL g) r l = runN (putN g) r l := by
 induction l with
 | nil => intro r; rfl
 | cons b l ih => intro r; rw [runN_cons, ← ih, ← stepT_own]; rfl
theorem sumT_own (g : Bool) (l : List UInt8) : sumT g (tabL g) l = sumN g l := by rw [sumT, runT_own]; rfl
def sizeN (g : Bool) : Nat := if g then 4 else 2
theorem sizeN_bits (g : Bool) : 8 * sizeN g = bitsN g ∧ 256 ^ sizeN g = 2 ^ bitsN g := by cases g <;> exact ⟨rfl, rfl⟩
def sumB (g : Bool) (l : List UInt8) : List UInt8 := digits (sizeN g) (sumN g l)
structure RecN where
 op : Nat
 id : Nat
 data : List UInt8
def okRec (r : RecN) : Prop := 1 ≤ r.op ∧ r.op ≤ 9 ∧ r.id ≤ 281474976710655 ∧ r.data.length ≤ 2000
instance (r : RecN) : Decidable (okRec r) := by unfold okRec; exact inferInstance
def fbody (r : RecN) : List UInt8 := 225 :: UInt8.ofNat r.op :: (digits 6 r.id ++ (digits 2 r.data.length ++ r.data))
def frameL (r : RecN) : List UInt8 := fbody r ++ digits 4 (sumN true (fbody r))
theorem fbody_length (r : RecN) : (fbody r).length = 10 + r.data.length := by simp [fbody, digits_length]; omega
theorem frameL_length (r : RecN) : (frameL r).length = 14 + r.data.length := by simp [frameL, fbody_length, digits_length]; omega
def roughF (l : List UInt8) : RecN := { op := val (l.take 2) % 256, id := val ((l.drop 2).take 6), data := (l.drop 10).take (val ((l.drop 8).take 2)) }
def decF (l : List UInt8) : Option RecN :=
 if 10 ≤ l.length ∧ 10 + val ((l.drop 8).take 2) ≤ l.length ∧ okRec (roughF l) ∧ l.take (frameL (roughF l)).length = frameL (roughF l) then some (roughF l) else none
theorem frame_dec {r : RecN} (h : decF l = some r) : okRec r ∧ l.take (frameL r).length = frameL r ∧ (frameL r).length ≤ l.length := by
 rw [decF] at h
 split at h
 ·rename_i hc
  injection h with h
  subst h
  refine ⟨hc.2.2.1, hc.2.2.2, ?_⟩
  have := congrArg List.length hc.2.2.2
  rw [List.length_take] at this
  omega
 ·cases h
def scanF : Nat → List UInt8 → List RecN × Nat
 | 0, _ => ([], 0)
 | f + 1, l => match decF l with
  | none => ([], 0)
  | some r => (r :: (scanF f (l.drop (frameL r).length)).1, (frameL r).length + (scanF f (l.drop (frameL r).length)).2)
def layL (l : List RecN) : List UInt8 := l.flatMap frameL
theorem scan_more (f : Nat) : ∀ (g : Nat) (l : List UInt8), l.length < f → l.length < g → scanF f l = scanF g l := by
 induction f with
 | zero => intro g l h; omega
 | succ f ih =>
  intro g l h1 h2
  cases g with
  | zero => omega
  | succ g =>
   rw [scanF, scanF]
   cases hd : decF l with
   | none => rfl
   | some r =>
    obtain ⟨_, _, h4⟩ := frame_dec hd
    have h5 := frameL_length r
    dsimp only
    rw [ih g _ (by rw [List.length_drop]; omega) (by rw [List.length_drop]; omega)]
def scanOf (l : List UInt8) : List RecN × Nat := scanF (l.length + 1) l
theorem scanOf_none (h : decF l = none) : scanOf l = ([], 0) := by rw [scanOf, scanF, h]
theorem scanOf_some {r : RecN} (h : decF l = some r) : scanOf l = (r :: (scanOf (l.drop (frameL r).length)).1, (frameL r).length + (scanOf (l.drop (frameL r).length)).2) := by
 obtain ⟨_, _, h4⟩ := frame_dec h
 have h5 := frameL_length r
 rw [scanOf, scanF, h]
 dsimp only
 rw [scanOf, scan_more l.length ((l.drop (frameL r).length).length + 1) _ (by rw [List.length_drop]; omega) (by omega)]
theorem lay_scan (f : Nat) : ∀ l : List UInt8, l.length < f → (∀ r ∈ (scanOf l).1, okRec r) ∧ (scanOf l).2 = (layL (scanOf l).1).length ∧ (scanOf l).2 ≤ l.length ∧ l.take (scanOf l).2 = layL (scanOf l).1 := by
 induction f with
 | zero => intro l h; omega
 | succ f ih =>
  intro l h
  cases hd : decF l with
  | none => rw [scanOf_none hd]; simp [layL]
  | some r =>
   obtain ⟨h1, h2, h3⟩ := frame_dec hd
   have h5 := frameL_length r
   obtain ⟨i1, i2, i3, i4⟩ := ih (l.drop (frameL r).length) (by rw [List.length_drop]; omega)
   rw [scanOf_some hd]
   dsimp only
   refine ⟨fun q hq => ?_, ?_, ?_, ?_⟩
   ·rcases List.mem_cons.1 hq with rfl | hq
    ·exact h1
    ·exact i1 q hq
   ·rw [i2]; simp [layL]
   ·rw [List.length_drop] at i3; omega
   ·rw [List.take_add, h2, i4]; simp [layL]
structure DN where
 L : List (List UInt8)
 left : Nat
 cut : Nat
 down : Bool
 n : Nat
structure DN.Fit (d : DN) : Prop where
 sec : ∀ s ∈ d.L, s.length = 64
 cut : d.cut ≤ 64
def DN.new (k : Nat) : DN := ⟨List.replicate k (List.replicate 64 0), 0, 0, false, 0⟩
theorem DN.new_fit (k : Nat) : (DN.new k).Fit := ⟨fun s hs => by rw [List.eq_of_mem_replicate hs]; simp, Nat.zero_le _⟩
def DN.has (d : DN) (i : Int) : Bool := decide (0 ≤ i) && decide (i < (d.L.length : Int))
theorem DN.has_iff {d : DN} : d.has i = true ↔ ∃ k : Nat, i = (k : Int) ∧ k < d.L.length := by
 simp only [DN.has, Bool.and_eq_true, decide_eq_true_eq]
 constructor
 ·rintro ⟨h1, h2⟩
  exact ⟨i.toNat, by omega, by omega⟩
 ·rintro ⟨k, rfl, h⟩
  omega
def DN.read (d : DN) (i : Int) : List UInt8 × Int := if d.down then ([], 180) else if d.has i then (d.L.getD i.toNat [], 0) else ([], 181)
def DN.write (d : DN) (i : Int) (s : List UInt8) : DN × Int :=
 if d.down then (d, 180) else if d.has i = true ∧ s.length = 64 then
  ({ L := d.L.set i.toNat (s.take (if d.left = 1 then d.cut else 64) ++ (d.L.getD i.toNat []).drop (if d.left = 1 then d.cut else 64)), left := d.left - 1, cut := d.cut, down := decide (d.left = 1), n := d.n + 1 }, if d.left = 1 then 180 else 0)
 else (d, 181)
def DN.arm (d : DN) (k c : Int) : DN × Int := if 1 ≤ k ∧ 0 ≤ c ∧ c ≤ 64 then ({ d with left := k.toNat, cut := c.toNat }, 0) else (d, 2)
def DN.restart (d : DN) : DN := { d with left := 0, cut := 0, down := false }
theorem DN.write_fit {d : DN} (h : d.Fit) (i : Int) (s : List UInt8) : (d.write i s).1.Fit ∧ (d.write i s).1.L.length = d.L.length ∧ (d.write i s).1.n ≤ d.n + 1 := by
 unfold DN.write
 split
 ·exact ⟨h, rfl, Nat.le_succ _⟩
 ·split
  ·rename_i _ hc
   obtain ⟨k, rfl, hk⟩ := DN.has_iff.1 hc.1
   have hs := h.sec _ (List.getElem_mem hk)
   have hcut := h.cut
   refine ⟨⟨fun t ht => ?_, h.cut⟩, by simp, by simp⟩
   rcases List.mem_or_eq_of_mem_set ht with ht | rfl
   ·exact h.sec t ht
   ·have e : d.L.getD (Int.toNat (k : Int)) [] = d.L[k] := by rw [Int.toNat_natCast, List.getD, List.getElem?_eq_getElem hk]; rfl
    rw [e, List.length_append, List.length_take, List.length_drop, hs, hc.2]
    split <;> omega
  ·exact ⟨h, rfl, Nat.le_succ _⟩
theorem DN.arm_fit {d : DN} (h : d.Fit) (k c : Int) : (d.arm k c).1.Fit ∧ (d.arm k c).1.L.length = d.L.length ∧ (d.arm k c).1.n = d.n := by
 unfold DN.arm
 split
 ·exact ⟨⟨h.sec, by show c.toNat ≤ 64; omega⟩, rfl, rfl⟩
 ·exact ⟨h, rfl, rfl⟩
theorem DN.restart_fit {d : DN} (h : d.Fit) : d.restart.Fit ∧ d.restart.L.length = d.L.length ∧ d.restart.n = d.n := ⟨⟨h.sec, by show 0 ≤ 64; omega⟩, rfl, rfl⟩
theorem flat_length (h : ∀ s ∈ L, s.length = 64) : L.flatten.length = 64 * L.length := by
 induction L with
 | nil => rfl
 | cons s L ih =>
  rw [List.flatten_cons, List.length_append, h s (by simp), ih fun t ht => h t (by simp [ht]), List.length_cons]
  omega
theorem flat_sector (h : ∀ s ∈ L, s.length = 64) : ∀ (k : Nat) (hk : k < L.length), (L.flatten.drop (64 * k)).take 64 = L[k] := by
 induction L with
 | nil => intro k hk; simp at hk
 | cons s L ih =>
  intro k hk
  have hs := h s (by simp)
  rw [List.flatten_cons]
  cases k with
  | zero => rw [Nat.mul_zero, List.drop_zero, List.take_left' hs]; rfl
  | succ k =>
   rw [show 64 * (k + 1) = s.length + 64 * k by omega, ← List.drop_drop, List.drop_left' rfl]
   exact ih (fun t ht => h t (by simp [ht])) k (by simpa using hk)
theorem flat_set (h : ∀ s ∈ L, s.length = 64) : ∀ (k : Nat) (t : List UInt8) (_ : k < L.length) (_ : t.length = 64), (L.set k t).flatten = L.flatten.take (64 * k) ++ t ++ L.flatten.drop (64 * k + 64) := by
 induction L with
 | nil => intro k t hk; simp at hk
 | cons s L ih =>
  intro k t hk ht
  have hs := h s (by simp)
  cases k with
  | zero =>
   rw [List.set_cons_zero, List.flatten_cons, List.flatten_cons, Nat.mul_zero, List.take_zero, List.nil_append, Nat.zero_add, List.drop_left' hs]
  | succ k =>
   have h2 := ih (fun u hu => h u (by simp [hu])) k t (by simpa using hk) ht
   rw [List.set_cons_succ, List.flatten_cons, List.flatten_cons, h2, show 64 * (k + 1) = s.length + 64 * k by omega, List.take_length_add_append, show s.length + 64 * k + 64 = s.length + (64 * k + 64) by omega, List.drop_length_add_append]
   simp
theorem getD_eq (h : k < L.length) : L.getD (Int.toNat (k : Int)) [] = L[k] := by rw [Int.toNat_natCast, List.getD, List.getElem?_eq_getElem h]; rfl
theorem DN.read_ok {d : DN} (hd : d.down = false) (hk : k < d.L.length) : d.read (k : Int) = (d.L[k], 0) := by
 rw [DN.read, if_neg (by rw [hd]; decide), if_pos (DN.has_iff.2 ⟨k, rfl, hk⟩), getD_eq hk]
theorem DN.read_no {d : DN} (hd : d.down = false) (hi : d.has i = false) : d.read i = ([], 181) := by
 rw [DN.read, if_neg (by rw [hd]; decide), if_neg (by rw [hi]; decide)]
theorem DN.read_down {d : DN} (hd : d.down = true) : d.read i = ([], 180) := by rw [DN.read, if_pos hd]
theorem DN.write_down {d : DN} (hd : d.down = true) : d.write i s = (d, 180) := by rw [DN.write, if_pos hd]
theorem DN.write_no {d : DN} (hd : d.down = false) (h : ¬ (d.has i = true ∧ s.length = 64)) : d.write i s = (d, 181) := by rw [DN.write, if_neg (by rw [hd]; decide), if_neg h]
theorem DN.write_ok {d : DN} (hf : d.Fit) (hd : d.down = false) (hl : d.left ≠ 1) (hk : k < d.L.length) (hs : s.length = 64) :
  d.write (k : Int) s = ({ L := d.L.set k s, left := d.left - 1, cut := d.cut, down := false, n := d.n + 1 }, 0) := by
 have h64 := hf.sec _ (List.getElem_mem hk)
 rw [DN.write, if_neg (by rw [hd]; decide), if_pos ⟨DN.has_iff.2 ⟨k, rfl, hk⟩, hs⟩, if_neg hl, if_neg hl, getD_eq hk, List.take_of_length_le (by omega), List.drop_of_length_le (by omega), List.append_nil, Int.toNat_natCast, decide_eq_false hl]
theorem DN.write_last {d : DN} (hd : d.down = false) (hl : d.left = 1) (hk : k < d.L.length) (hs : s.length = 64) :
  d.write (k : Int) s = ({ L := d.L.set k (s.take d.cut ++ d.L[k].drop d.cut), left := 0, cut := d.cut, down := true, n := d.n + 1 }, 180) := by
 rw [DN.write, if_neg (by rw [hd]; decide), if_pos ⟨DN.has_iff.2 ⟨k, rfl, hk⟩, hs⟩, if_pos hl, if_pos hl, getD_eq hk, Int.toNat_natCast, hl]
 rfl
theorem has_cases (d : DN) (i : Int) : d.has i = false ∨ ∃ k : Nat, i = (k : Int) ∧ k < d.L.length := by
 cases h : d.has i with
 | false => exact .inl rfl
 | true => exact .inr (DN.has_iff.1 h)
theorem zeros_flat (k : Nat) : (DN.new k).L.flatten = List.replicate (64 * k) 0 := by
 show (List.replicate k (List.replicate 64 (0 : UInt8))).flatten = _
 rw [List.flatten_replicate_replicate, Nat.mul_comm]
end Go.Proofs.YtmebjdbkngehiaaGreatDoor
