/-
  Package postriderlaw02: the law SdnvOne. Conditions: errors.errorType holds the handle of the type error ('SInv').
-/
import Derived.Test.YtcahfdhfdigjaaaDoorSdP
namespace Go.Proofs.YtcahfdhfdigjaaaDoor
open Go.RowKit

set_option maxRecDepth 100000 in
set_option maxHeartbeats 4000000 in
theorem SdnvOne_law (s : ByteArray) (w : World) (h : SInv w) (hs : s.size ≤ 9223372036854775807) :
    Calls Tryd.prog 7 #[.string s] w (Ret (.bool true) w) := by
  have hz := cut100_size s
  have HC := fun w' => scut_any s w' hs
  have D1 := fun w' h' => Decode_any (cut100 s) 0 w' h' (by omega) (by omega)
  have A1 := fun w' h' => All_any (cut100 s) w' h' (by omega)
  have hln := all_len (cut100 s)
  have F := Lib.hid (one_facts (cut100 s))
  generalize allV (cut100 s) = y at *
  generalize sdV (cut100 s) 0 = x at *
  generalize cut100 s = s' at *
  obtain ⟨l, f⟩ := y
  obtain ⟨⟨n, at'⟩, e⟩ := x
  unfold sdR at D1
  dsimp only at A1 D1 hln
  go_enter Tryd.func7, Tryd.ntmps7
  go_wp2_with fail
  refine (sshown_any _ h).mono ?_
  rintro e0 w1 ⟨rfl, hb1⟩
  go_wp2_with fail
  refine (HC _).mono ?_
  rintro e0 wp ⟨rfl, rfl⟩
  go_wp2_with fail
  refine (D1 _ (h.below hb1)).mono ?_
  rintro e0 w2 ⟨rfl, hb2'⟩
  have hb2 := ext_trans hb1 hb2'
  clear hb2' hb1
  go_wp2_with fail
  refine (A1 _ (h.below hb2)).mono ?_
  rintro e0 w3 ⟨V, rfl, hown, hb3'⟩
  have hb3 := ext_trans hb2 hb3'
  clear hb3' hb2
  obtain ⟨-, B, c1, rfl, hrB⟩ := rdI_own hown
  clear hown
  have F := F.out
  try dsimp only at F
  rcases F with ⟨rfl, F1, rfl, rfl, F2⟩ | ⟨F1, F2⟩
  · rw [F2] at hrB
    have F1' : ((l.length : Int) == 1) = true := by rw [F1]; rfl
    rw [F1]
    clear F2
    go_wp2_with fail
    have hI := Ints_true B (some ⟨w3.heap.size, 0, none⟩) c1 1 1 [n] _ rfl (hrB.below (ext_new w3 (.cells #[.int .i64 n] 3))) (rdI_one n w3) (by omega)
    refine hI.mono ?_
    rintro e0 w4 ⟨rfl, hb4'⟩
    have hb4 := ext_trans (ext_trans hb3 (ext_new _ _)) hb4'
    clear hb3 hb4'
    go_wp2_with fail
    go_ret
    exact ⟨rfl, hb4⟩
  · clear hrB
    rcases F1 with F1 | ⟨rfl, F1⟩
    all_goals
      rcases F2 with F2 | ⟨rfl, F2⟩
      all_goals
        go_wp2_with fail
        go_ret
        exact ⟨by first | rfl | (simp; done) | (simp; omega), hb3⟩

end Go.Proofs.YtcahfdhfdigjaaaDoor
