/-
  Package postriderlaw13: the walk of the statement SignsTimes: it hands back true. Conditions: the listed variables hold different errors of errors.New's make ('GInv').
-/
import Derived.Test.YtinflolpcemnhaaDoorSignsL
namespace Go.Proofs.YtinflolpcemnhaaDoor
open Go.RowKit

set_option maxHeartbeats 1000000 in
theorem SignsTimes_law (n : Int) (w : World) (A : Nat → Addr) (hI : GInv w A) (hn1 : -9223372036854775808 ≤ n) (hn2 : n ≤ 9223372036854775807) :
    Calls Tryd.prog 4 #[.int .i64 n] w (Ret (.bool true) w) := by
  have hdm : n.tdiv 1000 * 1000 + n.tmod 1000 = n := by have := Int.mul_tdiv_add_tmod n 1000; omega
  go_enter Tryd.func4, Tryd.ntmps4
  go_wp2_with fail
  refine (shown_any _ A hI).mono ?_
  rintro e w1 ⟨rfl, hb1⟩
  go_wp2_with fail
  refine (Millis_any n _ A (hI.below hb1)).mono ?_
  rintro e w2 ⟨rfl, hb2'⟩
  have hb2 := ext_trans hb1 hb2'
  clear hb1 hb2'
  go_wp2_with fail
  refine (Seconds_any n _ A (hI.below hb2) hn1 hn2).mono ?_
  rintro e w3 ⟨rfl, hb3'⟩
  have hb3 := ext_trans hb2 hb3'
  clear hb2 hb3'
  have M := Millis_cases n
  have S := Seconds_cases n
  generalize toldV (wrap64 (n * 1000)) (milE n) = mv at M
  generalize codeIx (milE n) = mc at M
  generalize toldV (n.tdiv 1000) (secE n) = sv at S
  generalize codeIx (secE n) = sc at S
  have hok := rRight_any
  rcases S with ⟨s1, s2, rfl, rfl⟩ | ⟨s1, s2, rfl, rfl⟩ | ⟨s1, rfl, rfl⟩
  · have hr : 0 ≤ n ∧ n ≤ 281474976710655 := by simpa [okNum] using s1
    obtain ⟨r0, r1⟩ := hr
    have hz : n.tmod 1000 = 0 := by simpa using s2
    have hq : n.tdiv 1000 * 1000 = n := by omega
    have hq2 : wrap64 (1000 * n.tdiv 1000) = n := by rw [IntWalk.wrap64_in _ ⟨by omega, by omega⟩]; omega
    generalize n.tdiv 1000 = q at hq hq2
    have hqb : (1000 * q == n) = true := by rw [beq_iff_eq]; omega
    rcases M with ⟨m0, m1, rfl, rfl⟩ | ⟨m0, rfl, rfl⟩
    · have hm : wrap64 (1000 * n) = n * 1000 := by rw [IntWalk.wrap64_in _ ⟨by omega, by omega⟩]; omega
      go_wp2_with fail
      refine (Right_any n _).mono ?_
      rintro e w4 ⟨rfl, rfl⟩
      rw [s1]
      go_wp2_with fail
      go_ret
      exact ⟨by first | rfl | simp [*], hb3⟩
    · have m1 : ¬ n ≤ 281474976710 := fun h => m0 ⟨r0, h⟩
      clear m0
      go_wp2_with fail
      refine (Right_any n _).mono ?_
      rintro e w4 ⟨rfl, rfl⟩
      rw [s1]
      go_wp2_with fail
      go_ret
      exact ⟨by first | rfl | simp [*], hb3⟩
  · have hr : 0 ≤ n ∧ n ≤ 281474976710655 := by simpa [okNum] using s1
    obtain ⟨r0, r1⟩ := hr
    have s3 : (n % 1000 == 0) = false := by rw [Int.tmod_eq_emod_of_nonneg r0] at s2; exact s2
    rcases M with ⟨m0, m1, rfl, rfl⟩ | ⟨m0, rfl, rfl⟩
    · have hm : wrap64 (1000 * n) = n * 1000 := by rw [IntWalk.wrap64_in _ ⟨by omega, by omega⟩]; omega
      go_wp2_with fail
      refine (Right_any n _).mono ?_
      rintro e w4 ⟨rfl, rfl⟩
      rw [s1]
      go_wp2_with fail
      go_ret
      exact ⟨by first | rfl | simp [*], hb3⟩
    · have m1 : ¬ n ≤ 281474976710 := fun h => m0 ⟨r0, h⟩
      clear m0
      go_wp2_with fail
      refine (Right_any n _).mono ?_
      rintro e w4 ⟨rfl, rfl⟩
      rw [s1]
      go_wp2_with fail
      go_ret
      exact ⟨by first | rfl | simp [*], hb3⟩
  · rcases M with ⟨m0, m1, rfl, rfl⟩ | ⟨m0, rfl, rfl⟩
    · exact absurd (show okNum n = true by simp [okNum]; omega) (by rw [s1]; decide)
    · by_cases r0 : 0 ≤ n
      · have m1 : ¬ n ≤ 281474976710 := fun h => m0 ⟨r0, h⟩
        clear m0
        go_wp2_with fail
        refine (Right_any n _).mono ?_
        rintro e w4 ⟨rfl, rfl⟩
        rw [s1]
        go_wp2_with fail
        go_ret
        exact ⟨by first | rfl | simp [*], hb3⟩
      · clear m0
        go_wp2_with fail
        refine (Right_any n _).mono ?_
        rintro e w4 ⟨rfl, rfl⟩
        rw [s1]
        go_wp2_with fail
        go_ret
        exact ⟨by first | rfl | simp [*], hb3⟩

end Go.Proofs.YtinflolpcemnhaaDoor
