/-
  Package postriderlaw18: what its laws have in common. No condition.
-/
import Derived.Test.YtlkghcfjcdeokaaDoorDkQ
import Derived.Test.YtlkghcfjcdeokaaDoorDkK
import Derived.Test.YtlkghcfjcdeokaaDoorDiskP
namespace Go.Proofs.YtlkghcfjcdeokaaDoor
open Go.RowKit Go.Shelf

/-- The first calls as they are listed. -/
structure OpsAt (w : World) (A : Option Addr) (n : Nat) (xs : List OI) : Prop where
  len : xs.length = min n 40
  rd : RdO w A xs
  sz : ∀ x ∈ xs, x.s.size ≤ 9223372036854775807
  ok : ∀ x ∈ xs, x.Ok
theorem cut_ok {xs : List OI} (h : ∀ x ∈ xs, x.Ok) : ∀ x ∈ xs.map OI.cut, x.Ok := by
  intro x hx
  obtain ⟨y, hy, rfl⟩ := List.mem_map.1 hx
  exact ⟨(h y hy).a, (h y hy).b1, (h y hy).b2⟩
/-- Where a loop over calls stands. -/
def Ran (w : World) (p g k j : Nat) (d : DN) (W : World) : Prop := Play w p g d W ∧ d.L.length = k ∧ d.n ≤ j
theorem Ran.start {w : World} {p g k : Nat} {W : World} (h : Play w p g (DN.new k) W) : Ran w p g k 0 (DN.new k) W := ⟨h, by show (List.replicate k _).length = k; simp, Nat.le_refl _⟩
theorem Ran.act {w : World} {p g k j : Nat} {d : DN} {W W' : World} (h : Ran w p g k j d W) (x : OI) (h' : Play w p g (d.act x).1 W') : Ran w p g k (j + 1) (d.act x).1 W' := by
  obtain ⟨h1, h2, h3⟩ := h
  obtain ⟨-, q2, q3⟩ := DN.act_fit h1.disk.fit x
  exact ⟨h', q2.trans h2, by omega⟩
theorem quo64 (a : Nat) (ha : a ≤ 9223372036854775807) : wrap64 ((a : Int).tdiv 64) = ((a / 64 : Nat) : Int) := by
  rw [show (a : Int).tdiv 64 = ((a / 64 : Nat) : Int) from rfl, IntWalk.wrap64_in _ ⟨by omega, by omega⟩]
theorem rem64 (a : Nat) : (a : Int).tmod 64 = ((a % 64 : Nat) : Int) := rfl
theorem ext_drop (l : List UInt8) (i n : Nat) : (⟨l.toArray⟩ : ByteArray).extract i (i + n) = ⟨((l.drop i).take n).toArray⟩ := by
  apply ByteArray.ext
  rw [ByteArray.data_extract]
  show l.toArray.extract i (i + n) = ((l.drop i).take n).toArray
  rw [List.extract_toArray, List.extract_eq_take_drop, Nat.add_sub_cancel_left]
theorem list_size2 (l : List UInt8) : (⟨l.toArray⟩ : ByteArray).size = l.length := by show l.toArray.size = _; simp
theorem ext_all (s : ByteArray) : s.extract 0 s.size = s := by
  apply ByteArray.ext
  rw [ByteArray.data_extract]
  show s.data.extract 0 s.data.size = s.data
  simp
/-- Bytes of a disk that is up. -/
theorem bytes_ok {d : DN} (hd : d.down = false) (hf : d.Fit) {a n : Nat} (h : a + n ≤ 64 * d.L.length) : d.bytes (a : Int) (n : Int) = ((⟨d.L.flatten.toArray⟩ : ByteArray).extract a (a + n), 0) := by
  have hl := flat_length hf.sec
  rw [DN.bytes, if_neg (by rw [hd]; decide), cutV_ok (okWithin_iff.2 (by rw [list_size2]; omega))]
  rw [show ((a : Int)).toNat = a by omega, show ((a : Int) + (n : Int)).toNat = a + n by omega]
/-- One byte, of all and of its sector. -/
theorem one_byte {L : List (List UInt8)} (h : ∀ s ∈ L, s.length = 64) {m : Nat} (hm : m < 64 * L.length) : ∃ hk : m / 64 < L.length,
    (⟨L.flatten.toArray⟩ : ByteArray).extract m (m + 1) = (⟨L[m / 64].toArray⟩ : ByteArray).extract (m % 64) (m % 64 + 1) ∧ ((⟨L.flatten.toArray⟩ : ByteArray).extract m (m + 1)).size = 1 ∧ (⟨L[m / 64].toArray⟩ : ByteArray).size = 64 := by
  obtain ⟨hk, e⟩ := byte_at h m hm
  have hl := flat_length h
  refine ⟨hk, ?_, ?_, ?_⟩
  · rw [ext_drop, ext_drop, e]
  · rw [ext_drop, list_size2, List.length_take, List.length_drop]; omega
  · rw [list_size2]; exact h _ (List.getElem_mem hk)
/-- A write to a disk that is up, whole or cut. -/
theorem write_both {d : DN} {k : Nat} {s : List UInt8} (hf : d.Fit) (hd : d.down = false) (hk : k < d.L.length) (hs : s.length = 64) :
    ∃ c ≤ 64, ((d.write (k : Int) s).2 = 0 ∧ c = 64 ∨ (d.write (k : Int) s).2 = 180) ∧ (d.write (k : Int) s).1.L = d.L.set k (s.take c ++ d.L[k].drop c) := by
  by_cases hl : d.left = 1
  · rw [DN.write_last hd hl hk hs]
    exact ⟨d.cut, hf.cut, .inr rfl, rfl⟩
  · rw [DN.write_ok hf hd hl hk hs]
    have h64 := hf.sec _ (List.getElem_mem hk)
    refine ⟨64, Nat.le_refl _, .inl ⟨rfl, rfl⟩, ?_⟩
    rw [List.take_of_length_le (by omega), List.drop_of_length_le (by omega), List.append_nil]
theorem ext_list (s : ByteArray) (i n : Nat) (h : i + n = s.size) : s.extract i s.size = ⟨(s.data.toList.drop i).toArray⟩ := by
  have := ext_drop s.data.toList i n
  rw [show (⟨s.data.toList.toArray⟩ : ByteArray) = s from rfl, h] at this
  rw [this, List.take_of_length_le (by rw [List.length_drop, list_len]; omega)]
/-- What stands after a write of a sector: its text's beginning and the old end. -/
theorem apart_text {s : ByteArray} {b : List UInt8} (hs : s.size = 64) (hb : b.length = 64) (c : Nat) (hc : c ≤ 64) {T : ByteArray} (hT : T = ⟨(s.data.toList.take c ++ b.drop c).toArray⟩) :
    T.size = 64 ∧ (c = 64 → T = s) ∧ ∀ n ≤ 64, (n = 64 ∨ ∃ (h1 : n < T.size) (h2 : n < s.size), T[n] ≠ s[n]) → T.extract n 64 = (⟨b.toArray⟩ : ByteArray).extract n 64 := by
  subst hT
  have hsl : s.data.toList.length = 64 := by rw [list_len]; exact hs
  have h1 : (s.data.toList.take c ++ b.drop c).length = 64 := by rw [List.length_append, List.length_take, List.length_drop]; omega
  refine ⟨by rw [list_size2]; exact h1, fun e => ?_, fun n hn h => ?_⟩
  · subst e
    rw [List.take_of_length_le (by omega), List.drop_of_length_le (by omega), List.append_nil]
  · have key : (s.data.toList.take c ++ b.drop c).drop n = b.drop n := by
      refine apart_tail hsl hb c n hc ?_
      rcases h with h | ⟨q1, q2, q3⟩
      · exact .inl h
      · exact .inr ⟨by rw [h1]; rw [list_size2] at q1; omega, by omega, fun e => q3 e⟩
    have e1 := ext_drop (s.data.toList.take c ++ b.drop c) n (64 - n)
    have e2 := ext_drop b n (64 - n)
    rw [show n + (64 - n) = 64 by omega] at e1 e2
    rw [e1, e2, key]
/-- What is read after a write of sector r. -/
theorem read_after {d D : DN} (hd : d.down = false) (hD : D.down = false) {r : Nat} {x : List UInt8} (hL : D.L = d.L.set r x) (hr : r < d.L.length) (o : Int) :
    D.read o = ((D.read o).1, (d.read o).2) ∧ (o ≠ (r : Int) → (D.read o).1 = (d.read o).1) ∧ D.read (r : Int) = (x, 0) := by
  have hl : D.L.length = d.L.length := by rw [hL, List.length_set]
  have hr' : r < D.L.length := by omega
  refine ⟨?_, fun hne => ?_, ?_⟩
  · rcases has_cases d o with h | ⟨k, rfl, hk⟩
    · rw [DN.read_no hd h, DN.read_no hD (by rw [DN.has, hl]; exact h)]
    · rw [DN.read_ok hd hk, DN.read_ok hD (by omega)]
  · rcases has_cases d o with h | ⟨k, rfl, hk⟩
    · rw [DN.read_no hd h, DN.read_no hD (by rw [DN.has, hl]; exact h)]
    · rw [DN.read_ok hd hk, DN.read_ok hD (by omega)]
      simp only [hL]
      rw [List.getElem_set_ne (by omega)]
  · rw [DN.read_ok hD hr']
    simp only [hL, List.getElem_set_self]

end Go.Proofs.YtlkghcfjcdeokaaDoor
