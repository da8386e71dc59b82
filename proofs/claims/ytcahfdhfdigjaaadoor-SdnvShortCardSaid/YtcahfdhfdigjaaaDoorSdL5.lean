/-
  Package postriderlaw02: the law SdnvShort. Conditions: errors.errorType holds the handle of the type error ('SInv').
-/
import Derived.Test.YtcahfdhfdigjaaaDoorSdP
namespace Go.Proofs.YtcahfdhfdigjaaaDoor
open Go.RowKit

set_option maxRecDepth 100000 in
set_option maxHeartbeats 4000000 in
theorem SdnvShort_law (n at' : Int) (w : World) (h : SInv w) :
    Calls Tryd.prog 6 #[.int .i64 n, .int .i64 at'] w (Ret (.bool true) w) := by
  have E1 := fun w' h' => Encode_any n w' h'
  have F := Lib.hid (short_facts n at')
  have hz := encV_len n
  generalize encV n = x at *
  obtain ⟨a, e⟩ := x
  dsimp only at hz
  go_enter Tryd.func6, Tryd.ntmps6
  go_wp2_with fail
  refine (sshown_any _ h).mono ?_
  rintro e0 w1 ⟨rfl, hb1⟩
  go_wp2_with fail
  refine (E1 _ (h.below hb1)).mono ?_
  rintro e0 w2 ⟨rfl, hb2'⟩
  have hb2 := ext_trans hb1 hb2'
  clear hb2' hb1
  have F := F.out
  try dsimp only at F
  rcases F with F1 | ⟨rfl, F1 | F1⟩ | ⟨rfl, k, rfl, F1, F2⟩
  · have F1' : (e != 0) = true := by rw [bne, F1]; rfl
    go_wp2_with fail
    go_ret
    exact ⟨by first | rfl | (simp; done) | (simp; omega), hb2⟩
  ·
    go_wp2_with fail
    go_ret
    exact ⟨by first | rfl | (simp; done) | (simp; omega), hb2⟩
  · have c : ¬ at' < 0 := by omega
    go_wp2_with fail
    go_ret
    exact ⟨by first | rfl | (simp; done) | (simp; omega), hb2⟩
  · have D1 := fun w' h' => Decode_any (a.extract 0 k) 0 w' h' (by rw [ByteArray.size_extract]; omega) (by omega)
    rw [F2] at D1
    unfold sdR at D1
    dsimp only at D1
    have G1 : ¬ (k : Int) < 0 := by omega
    have G2 : ¬ (a.size : Int) ≤ (k : Int) := by omega
    have G3 : (0 : Int) ≤ (k : Int) := by omega
    have G4 : (k : Int) ≤ (a.size : Int) := by omega
    clear F2
    go_wp2_with fail
    refine (D1 _ (h.below hb2)).mono ?_
    rintro e0 w3 ⟨rfl, hb3'⟩
    have hb3 := ext_trans hb2 hb3'
    clear hb3' hb2
    go_wp2_with fail
    go_ret
    exact ⟨by first | rfl | (simp; done) | (simp; omega), hb3⟩

end Go.Proofs.YtcahfdhfdigjaaaDoor
