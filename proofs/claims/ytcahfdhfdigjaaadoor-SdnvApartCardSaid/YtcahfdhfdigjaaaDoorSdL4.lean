/-
  Package postriderlaw02: the law SdnvApart. Conditions: errors.errorType holds the handle of the type error ('SInv').
-/
import Derived.Test.YtcahfdhfdigjaaaDoorSdP
namespace Go.Proofs.YtcahfdhfdigjaaaDoor
open Go.RowKit

set_option maxRecDepth 100000 in
set_option maxHeartbeats 4000000 in
theorem SdnvApart_law (n m : Int) (w : World) (h : SInv w) :
    Calls Tryd.prog 4 #[.int .i64 n, .int .i64 m] w (Ret (.bool true) w) := by
  have E1 := fun w' h' => Encode_any n w' h'
  have E2 := fun w' h' => Encode_any m w' h'
  have F := Lib.hid (apart_facts n m)
  generalize encV n = x at *
  generalize encV m = y at *
  obtain ⟨a, e⟩ := x
  obtain ⟨b, f⟩ := y
  go_enter Tryd.func4, Tryd.ntmps4
  go_wp2_with fail
  refine (sshown_any _ h).mono ?_
  rintro e0 w1 ⟨rfl, hb1⟩
  go_wp2_with fail
  refine (E1 _ (h.below hb1)).mono ?_
  rintro e0 w2 ⟨rfl, hb2'⟩
  have hb2 := ext_trans hb1 hb2'
  clear hb2' hb1
  go_wp2_with fail
  refine (E2 _ (h.below hb2)).mono ?_
  rintro e0 w3 ⟨rfl, hb3'⟩
  have hb3 := ext_trans hb2 hb3'
  clear hb3' hb2
  have F := F.out
  try dsimp only at F
  rcases F with ⟨F1, rfl, F2⟩ | ⟨rfl, F1, rfl⟩ | ⟨rfl, rfl, F1, F2, F3⟩
  · have F1' : (e != 0) = true := by rw [bne, F1]; rfl
    rcases F2 with rfl | ⟨F2, rfl⟩
    ·
      go_wp2_with fail
      go_ret
      exact ⟨by first | rfl | (simp; done) | (simp; omega), hb3⟩
    · have F2' : (f != 0) = true := by rw [bne, F2]; rfl
      go_wp2_with fail
      go_ret
      exact ⟨by first | rfl | (simp; done) | (simp; omega), hb3⟩
  · have F1' : (f != 0) = true := by rw [bne, F1]; rfl
    go_wp2_with fail
    go_ret
    exact ⟨by first | rfl | (simp; done) | (simp; omega), hb3⟩
  · have F4 : (1 : Int) ≤ (a.size : Int) := by omega
    have F5 : (a.size : Int) ≤ 7 := by omega
    have F6 : (0 : Int) ≤ (a.size : Int) := by omega
    rcases F3 with ⟨F7, F8, F9⟩ | ⟨F7, F8⟩ | ⟨rfl, rfl, F9⟩ | ⟨F7, F8, F9⟩
    · have F8' : (a.size : Int) ≤ (b.size : Int) := by omega
      have k1 : (n == m) = false := beq_eq_false_iff_ne.2 (by omega)
      go_wp2_with fail
      go_ret
      exact ⟨by first | rfl | (simp; done) | (simp; omega), hb3⟩
    · have F8' : ¬ (a.size : Int) ≤ (b.size : Int) := by omega
      have k1 : (n == m) = false := beq_eq_false_iff_ne.2 (by omega)
      go_wp2_with fail
      go_ret
      exact ⟨by first | rfl | (simp; done) | (simp; omega), hb3⟩
    ·
      go_wp2_with fail
      go_ret
      exact ⟨by first | rfl | (simp; done) | (simp; omega), hb3⟩
    · have F8' : (a.size : Int) ≤ (b.size : Int) := by omega
      have k1 : (n == m) = false := beq_eq_false_iff_ne.2 (by omega)
      have k2 : ¬ m < n := by omega
      go_wp2_with fail
      go_ret
      exact ⟨by first | rfl | (simp; done) | (simp; omega), hb3⟩

end Go.Proofs.YtcahfdhfdigjaaaDoor
