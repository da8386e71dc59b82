/-
  Package postriderlaw17: the law FrameScans. Conditions: the listed variables hold what 'CInv' says.
-/
import Derived.Test.YtlabmomehjfjdaaDoorFrP
namespace Go.Proofs.YtlabmomehjfjdaaDoor
open Go.RowKit

set_option maxRecDepth 100000 in
set_option maxHeartbeats 4000000 in
theorem FrameScans_law (A : Option Addr) (n c : Nat) (xs : List RI) (s : ByteArray) (w : World) (aA aT aN aW aS : Addr) (h : CInv w aA aT aN aW aS) (hx : xs.length = min n 10) (hr : RdR w A xs) (hd : ∀ x ∈ xs, x.d.size ≤ 9223372036854775807) (hs : s.size ≤ 9223372036854775807) :
    Calls Tryd.prog 6 #[.slice A n c, .string s] w (Ret (.bool true) w) := by
  have hz := cut3000_size s
  have HC := fun w' => fcut_any s w' hs
  have FC := fun w' r' => FCut_any A n c xs w' hx r' hd
  have S1 := fun w' h' => Scan_any (cut3000 s) (by omega) w' aA aT aN aW aS h'
  have S2 := fun w' => rFScan_any (cut3000 s) (by omega) w'
  have hln := scan_small (cut3000 s).data.toList
  rw [list_size] at hln
  generalize scanOf (cut3000 s).data.toList = sc at *
  obtain ⟨l, q⟩ := sc
  dsimp only at S1 S2 hln
  generalize cut3000 s = s' at *
  generalize hys : xs.map RI.cut = ys at *
  have hyl : ys.length = min n 10 := by rw [← hys, List.length_map, hx]
  have hxy : xs.length = ys.length := by rw [hyl, hx]
  rw [hxy] at FC
  have hy10 : ys.length ≤ 10 := by omega
  clear hd hx hys hxy hyl
  go_enter Tryd.func6, Tryd.ntmps6
  go_wp2_with fail
  refine (fshown_any _ aA aT aN aW aS h).mono ?_
  rintro e w1 ⟨rfl, hb1⟩
  go_wp2_with fail
  refine (FC _ (hr.below hb1)).mono ?_
  rintro e w2 ⟨V, rfl, hown, hb2'⟩
  have hb2 := ext_trans hb1 hb2'
  obtain ⟨-, B, c1, rfl, hrB⟩ := rdR_own hown
  clear hown hb2' hb1 FC
  have L1 := fun w' h' r' => Lay_any B c1 ys.length ys w' aA aT aN aW aS h' rfl r' (by omega)
  have L2 := fun w' r' => rFLay_any B c1 ys.length ys w' rfl r' (by omega)
  generalize layV ys = lv at *
  go_wp2_with fail
  refine (HC _).mono ?_
  rintro e wp ⟨rfl, rfl⟩
  go_wp2_with fail
  refine (L1 _ (h.below hb2) hrB).mono ?_
  rintro e w3 ⟨rfl, hb3'⟩
  have hrB3 := hrB.below hb3'
  have hb3 := ext_trans hb2 hb3'
  clear hb3' hb2 hrB
  go_wp2_with fail
  refine (L2 _ hrB3).mono ?_
  rintro e w4 ⟨rfl, hb4'⟩
  have hb4 := ext_trans hb3 hb4'
  clear hb4' hb3 hrB3
  go_wp2_with fail
  refine (S1 _ (h.below hb4)).mono ?_
  rintro e w5 ⟨V, rfl, hown, hb5'⟩
  have hb5 := ext_trans hb4 hb5'
  rw [cellsR_i] at hown
  obtain ⟨-, C, c2, rfl, hrC⟩ := rdR_own hown
  clear hown hb5' hb4
  go_wp2_with fail
  refine (S2 _).mono ?_
  rintro e w6 ⟨V, rfl, hown, hb6'⟩
  have hb6 := ext_trans hb5 hb6'
  have hrC6 := hrC.below hb6'
  rw [cellsR_i] at hown
  obtain ⟨-, D, c3, rfl, hrD⟩ := rdR_own hown
  clear hown hb6' hb5 hrC
  go_wp2_with fail
  refine (Same_true C D c2 c3 l.length (l.map RecN.i) _ (by rw [List.length_map]) hrC6 hrD (by omega)).mono ?_
  rintro e w7 ⟨rfl, hb7'⟩
  have hb7 := ext_trans hb6 hb7'
  go_wp2_with fail
  go_ret
  exact ⟨rfl, hb7⟩

end Go.Proofs.YtlabmomehjfjdaaDoor
