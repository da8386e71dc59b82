/-
  Package postriderlaw03: what its functions share, and the first law. Conditions: the listed variables hold what 'HInv' says.
-/
import Derived.Test.YtmoghgmbpkpcfaaGreatDoorHeadK
namespace Go.Proofs.YtmoghgmbpkpcfaaGreatDoor
open Go.RowKit

theorem rDecode_more (s : ByteArray) (p M R wd : Nat) (w : World) (hs : s.size ≤ 9223372036854775807) (hp : p < s.size) (hM : Split s[p] M R)
    (hf : okMajor M = true) (hR : R ≤ 27) (hR2 : ¬ R < 24) (hw : wRest R = wd) (h1 : 1 ≤ wd) (h8 : wd ≤ 8)
    (hA : (∀ e, takeV s ((p : Int) + 1) (wd : Int) = (0, e) → e ≠ 0 → Calls Tryz.prog 42 #[.string s, .int .i64 (p : Int)] w (Ret (decR ((0, 0, 0), e)) w)) ∧
    (∀ n : Nat, takeV s ((p : Int) + 1) (wd : Int) = ((n : Int), 0) → n ≤ 281474976710655 → p + 1 + wd ≤ s.size → Calls Tryz.prog 42 #[.string s, .int .i64 (p : Int)] w (Ret (if wOf n = wd then decR (((M : Int), (n : Int), (p : Int) + 1 + (wd : Int)), 0) else decR ((0, 0, 0), 20)) w))) :
    Calls Tryz.prog 42 #[.string s, .int .i64 (p : Int)] w (Ret (decR (decV s (p : Int))) w) := by
  have hls := list_size s
  rw [decV, if_neg (by omega), Int.toNat_natCast, list_at s p hp, decL, ← hM.m, ← hM.r, if_neg (by simp [hf, hR]), if_neg hR2, hw]
  have hkw : okWidth (wd : Int) = true := okWidth_iff.2 ⟨by omega, by omega⟩
  by_cases c : (s.data.toList.drop (p + 1)).length < wd
  · rw [if_pos c]
    rw [List.length_drop] at c
    have ht : takeV s ((p : Int) + 1) (wd : Int) = (0, 11) := takeV_short hkw (by
      rcases bool_cases (okWithin s.size ((p : Int) + 1) (wd : Int)) with k | k
      · exact k
      · have := okWithin_iff.1 k; omega)
    exact hA.1 11 ht (by decide)
  · rw [if_neg c]
    rw [List.length_drop] at c
    have hkk : okWithin s.size ((p : Int) + 1) (wd : Int) = true := okWithin_iff.2 ⟨by omega, by omega, by omega, by omega⟩
    have ht := takeV_ok hkw hkk
    rw [show ((p : Int) + 1).toNat = p + 1 by omega, Int.toNat_natCast] at ht
    by_cases c2 : 281474976710655 < val ((s.data.toList.drop (p + 1)).take wd)
    · rw [if_pos c2]
      rw [takeN, takeE, if_neg (by omega), if_neg (by omega)] at ht
      exact hA.1 10 ht (by decide)
    · rw [if_neg c2]
      rw [takeN, takeE, if_pos (by omega), if_pos (by omega)] at ht
      have hfit := hA.2 _ ht (by omega) (by omega)
      by_cases c3 : wOf (val ((s.data.toList.drop (p + 1)).take wd)) = wd
      · rw [if_neg (by simp [c3])]
        rw [if_pos c3] at hfit
        exact hfit
      · rw [if_pos c3]
        rw [if_neg c3] at hfit
        exact hfit

theorem rDecode_any (s : ByteArray) (a : Int) (w : World) (hs : s.size ≤ 9223372036854775807) :
    Calls Tryz.prog 42 #[.string s, .int .i64 a] w (Ret (decR (decV s a)) w) := by
  by_cases ho : a < 0 ∨ (s.size : Int) ≤ a
  · rw [decV, if_pos ho]
    exact rDecode_out s a w ho
  obtain ⟨p, rfl⟩ := Int.eq_ofNat_of_zero_le (show 0 ≤ a by omega)
  have hp : p < s.size := by omega
  obtain ⟨M, R, hM⟩ : ∃ M R, Split s[p] M R := ⟨_, _, split_of s[p]⟩
  by_cases c1 : okMajor M = true ∧ R ≤ 27
  · obtain ⟨k1, k2⟩ := c1
    by_cases c2 : R < 24
    · rw [decV, if_neg (by omega), Int.toNat_natCast, list_at s p hp, decL, ← hM.m, ← hM.r, if_neg (by simp [k1, k2]), if_pos c2]
      have := rDecode_low s p M R w hs hp hM ((majB_nat M).trans k1) c2
      rw [show (p : Int) + 1 = (p : Int) + 1 + ((0 : Nat) : Int) by omega] at this
      exact this
    · obtain h24 | h25 | h26 | h27 : R = 24 ∨ R = 25 ∨ R = 26 ∨ R = 27 := by omega
      · subst h24; exact rDecode_more s p M 24 1 w hs hp hM k1 k2 c2 rfl (by omega) (by omega) (rDecode_24 s p M w hs hp hM ((majB_nat M).trans k1))
      · subst h25; exact rDecode_more s p M 25 2 w hs hp hM k1 k2 c2 rfl (by omega) (by omega) (rDecode_25 s p M w hs hp hM ((majB_nat M).trans k1))
      · subst h26; exact rDecode_more s p M 26 4 w hs hp hM k1 k2 c2 rfl (by omega) (by omega) (rDecode_26 s p M w hs hp hM ((majB_nat M).trans k1))
      · subst h27; exact rDecode_more s p M 27 8 w hs hp hM k1 k2 c2 rfl (by omega) (by omega) (rDecode_27 s p M w hs hp hM ((majB_nat M).trans k1))
  · rw [decV, if_neg ho, Int.toNat_natCast, list_at s p hp, decL, ← hM.m, ← hM.r, if_pos (by
      rw [Bool.not_eq_true', Bool.and_eq_false_iff]
      by_cases k : okMajor M = true
      · exact .inr (decide_eq_false (fun hk => c1 ⟨k, hk⟩))
      · exact .inl (by simpa using k))]
    refine rDecode_form s p M R w hs hp hM ?_
    rw [majB_nat]
    by_cases k : okMajor M = true
    · exact .inr ⟨k, Nat.lt_of_not_le (fun hk => c1 ⟨k, hk⟩)⟩
    · exact .inl (by simpa using k)

/-- The first one hundred bytes. -/
def cut100 (s : ByteArray) : ByteArray := s.extract 0 (min s.size 100)
theorem cut100_size (s : ByteArray) : (cut100 s).size ≤ 100 := by rw [cut100, ByteArray.size_extract]; omega
theorem hs1 : encV 4 300 = (⟨#[153, 1, 44]⟩, 0) := by kernel_rfl
theorem hs2 : decV ⟨#[97, 153, 1, 44]⟩ 1 = ((4, 300, 4), 0) := by kernel_rfl
theorem hs3 : decV ⟨#[24, 23]⟩ 0 = ((0, 0, 0), 20) := by kernel_rfl
theorem hs4 : encV 1 0 = (⟨#[]⟩, 2) := by kernel_rfl
end Go.Proofs.YtmoghgmbpkpcfaaGreatDoor
