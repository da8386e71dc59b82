/-
  Package postriderlaw02: the law SdnvCodes. Conditions: errors.errorType holds the handle of the type error ('SInv').
-/
import Derived.Test.YtcahfdhfdigjaaaDoorSdP
namespace Go.Proofs.YtcahfdhfdigjaaaDoor
open Go.RowKit

/-- The first thirty numbers. -/
theorem few_any (A : Option Addr) (n c : Nat) (w : World) (hc : n ≤ c) (hl : c ≤ 9223372036854775807) (h0 : A = none → n = 0 ∧ c = 0) :
    Calls Tryd.prog 17 #[.slice A n c] w (Pure (.slice A (min n 30) c) w) := by
  by_cases h : n ≤ 30
  · rw [Nat.min_eq_left h]
    have hq : ¬ (30 : Int) < (n : Int) := by omega
    go_enter Tryd.func17, Tryd.ntmps17
    go_wp2
    go_ret
    exact ⟨rfl, rfl⟩
  · rw [Nat.min_eq_right (by omega)]
    have hq : (30 : Int) < (n : Int) := by omega
    have hq2 : (30 : Nat) ≤ c := by omega
    go_enter Tryd.func17, Tryd.ntmps17
    go_wp2
    go_ret
    exact ⟨rfl, rfl⟩

set_option maxRecDepth 100000 in
theorem SdnvCodes_law (n : Int) (s : ByteArray) (a : Int) (w : World) (h : SInv w) (hs : s.size ≤ 9223372036854775807) (ha : a ≤ 9223372036854775807) :
    Calls Tryd.prog 10 #[.int .i64 n, .string s, .int .i64 a] w (Ret (.bool true) w) := by
  have hz := cut100_size s
  have E1 := fun w' h' => Encode_any n w' h'
  have E2 := fun w' => rEncode_any n w'
  have S1 := fun w' h' => Size_any n w' h'
  have S2 := fun w' => rSize_any n w'
  have D1 := fun w' h' => Decode_any (cut100 s) a w' h' (by omega) ha
  have D2 := fun w' => rDecode_any (cut100 s) a w' (by omega) ha
  have HC := fun w' => scut_any s w' hs
  unfold sdR at D1 D2
  generalize sdV (cut100 s) a = d at *
  generalize encV n = e at *
  generalize sizeV n = z at *
  generalize cut100 s = t at *
  go_enter Tryd.func10, Tryd.ntmps10
  go_wp2_with fail
  refine (sshown_any _ h).mono ?_
  rintro e0 w1 ⟨rfl, hb1⟩
  go_wp2_with fail
  refine (HC _).mono ?_
  rintro e0 wp ⟨rfl, rfl⟩
  go_wp2_with fail
  refine (E1 _ (h.below hb1)).mono ?_
  rintro e0 w2 ⟨rfl, hb2'⟩
  have hb2 := ext_trans hb1 hb2'
  clear hb2' hb1
  go_wp2_with fail
  refine (E2 _).mono ?_
  rintro e0 w3 ⟨rfl, hb3'⟩
  have hb3 := ext_trans hb2 hb3'
  clear hb3' hb2
  go_wp2_with fail
  refine (S1 _ (h.below hb3)).mono ?_
  rintro e0 w4 ⟨rfl, hb4'⟩
  have hb4 := ext_trans hb3 hb4'
  clear hb4' hb3
  go_wp2_with fail
  refine (S2 _).mono ?_
  rintro e0 w5 ⟨rfl, hb5'⟩
  have hb5 := ext_trans hb4 hb5'
  clear hb5' hb4
  go_wp2_with fail
  refine (D1 _ (h.below hb5)).mono ?_
  rintro e0 w6 ⟨rfl, hb6'⟩
  have hb6 := ext_trans hb5 hb6'
  clear hb6' hb5
  go_wp2_with fail
  refine (D2 _).mono ?_
  rintro e0 w7 ⟨rfl, hb7'⟩
  have hb7 := ext_trans hb6 hb7'
  clear hb7' hb6
  go_wp2_with fail
  go_ret
  exact ⟨by first | rfl | (simp; done) | (simp; omega), hb7⟩

end Go.Proofs.YtcahfdhfdigjaaaDoor
