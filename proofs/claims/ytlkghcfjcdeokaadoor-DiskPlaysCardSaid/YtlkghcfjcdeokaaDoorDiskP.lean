/-
  A disk whose power may go: what the laws of chapter 18 ask, over plain lists, no program. No condition.
-/
import Derived.Test.YtlkghcfjcdeokaaDoorDiskM
namespace Go.Proofs.YtlkghcfjcdeokaaDoor

theorem getD_eq {L : List (List UInt8)} {k : Nat} (h : k < L.length) : L.getD (Int.toNat (k : Int)) [] = L[k] := by rw [Int.toNat_natCast, List.getD, List.getElem?_eq_getElem h]; rfl
theorem DN.read_ok {d : DN} {k : Nat} (hd : d.down = false) (hk : k < d.L.length) : d.read (k : Int) = (d.L[k], 0) := by
  rw [DN.read, if_neg (by rw [hd]; decide), if_pos (DN.has_iff.2 ⟨k, rfl, hk⟩), getD_eq hk]
theorem DN.read_no {d : DN} {i : Int} (hd : d.down = false) (hi : d.has i = false) : d.read i = ([], 181) := by
  rw [DN.read, if_neg (by rw [hd]; decide), if_neg (by rw [hi]; decide)]
theorem DN.read_down {d : DN} {i : Int} (hd : d.down = true) : d.read i = ([], 180) := by rw [DN.read, if_pos hd]
theorem DN.write_down {d : DN} {i : Int} {s : List UInt8} (hd : d.down = true) : d.write i s = (d, 180) := by rw [DN.write, if_pos hd]
theorem DN.write_no {d : DN} {i : Int} {s : List UInt8} (hd : d.down = false) (h : ¬ (d.has i = true ∧ s.length = 64)) : d.write i s = (d, 181) := by rw [DN.write, if_neg (by rw [hd]; decide), if_neg h]
theorem DN.write_ok {d : DN} {k : Nat} {s : List UInt8} (hf : d.Fit) (hd : d.down = false) (hl : d.left ≠ 1) (hk : k < d.L.length) (hs : s.length = 64) :
    d.write (k : Int) s = ({ L := d.L.set k s, left := d.left - 1, cut := d.cut, down := false, n := d.n + 1 }, 0) := by
  have h64 := hf.sec _ (List.getElem_mem hk)
  rw [DN.write, if_neg (by rw [hd]; decide), if_pos ⟨DN.has_iff.2 ⟨k, rfl, hk⟩, hs⟩, if_neg hl, if_neg hl, getD_eq hk, List.take_of_length_le (by omega), List.drop_of_length_le (by omega), List.append_nil, Int.toNat_natCast, decide_eq_false hl]
theorem DN.write_last {d : DN} {k : Nat} {s : List UInt8} (hd : d.down = false) (hl : d.left = 1) (hk : k < d.L.length) (hs : s.length = 64) :
    d.write (k : Int) s = ({ L := d.L.set k (s.take d.cut ++ d.L[k].drop d.cut), left := 0, cut := d.cut, down := true, n := d.n + 1 }, 180) := by
  rw [DN.write, if_neg (by rw [hd]; decide), if_pos ⟨DN.has_iff.2 ⟨k, rfl, hk⟩, hs⟩, if_pos hl, if_pos hl, getD_eq hk, Int.toNat_natCast, hl]
  rfl
theorem has_cases (d : DN) (i : Int) : d.has i = false ∨ ∃ k : Nat, i = (k : Int) ∧ k < d.L.length := by
  cases h : d.has i with
  | false => exact .inl rfl
  | true => exact .inr (DN.has_iff.1 h)

/-- Where a write's bytes and what is asked for part, the old ones stand. -/
theorem apart_tail {s b : List UInt8} (hs : s.length = 64) (hb : b.length = 64) (k n : Nat) (hk : k ≤ 64)
    (hn : n = 64 ∨ ∃ (h1 : n < (s.take k ++ b.drop k).length) (h2 : n < s.length), (s.take k ++ b.drop k)[n] ≠ s[n]) : (s.take k ++ b.drop k).drop n = b.drop n := by
  have hl : (s.take k).length = k := by rw [List.length_take]; omega
  rcases hn with rfl | ⟨h1, h2, h3⟩
  · rw [List.drop_of_length_le (by rw [List.length_append, List.length_drop]; omega), List.drop_of_length_le (by omega)]
  · have hkn : k ≤ n := by
      rcases Nat.lt_or_ge n k with h | h
      · exfalso
        apply h3
        rw [List.getElem_append_left (by omega), List.getElem_take]
      · exact h
    rw [List.drop_append, hl, List.drop_of_length_le (by omega), List.nil_append, List.drop_drop]
    congr 1
    omega

/-- One byte of all, and of its sector. -/
theorem byte_at {L : List (List UInt8)} (h : ∀ s ∈ L, s.length = 64) (a : Nat) (ha : a < 64 * L.length) : ∃ hk : a / 64 < L.length, (L.flatten.drop a).take 1 = (L[a / 64].drop (a % 64)).take 1 := by
  have hk : a / 64 < L.length := by omega
  refine ⟨hk, ?_⟩
  rw [← flat_sector h _ hk, List.drop_take, List.take_take, List.drop_drop, Nat.min_eq_left (by omega), show 64 * (a / 64) + a % 64 = a by omega]
theorem zeros_flat (k : Nat) : (DN.new k).L.flatten = List.replicate (64 * k) 0 := by
  show (List.replicate k (List.replicate 64 (0 : UInt8))).flatten = _
  rw [List.flatten_replicate_replicate, Nat.mul_comm]

end Go.Proofs.YtlkghcfjcdeokaaDoor
