/-
  Package postriderlaw02: the law SdnvAll. Conditions: errors.errorType holds the handle of the type error ('SInv').
-/
import Derived.Test.YtcahfdhfdigjaaaDoorSdP
import Derived.Test.YtcahfdhfdigjaaaDoorSdL1
namespace Go.Proofs.YtcahfdhfdigjaaaDoor
open Go.RowKit

set_option maxRecDepth 100000 in
set_option maxHeartbeats 4000000 in
theorem SdnvAll_law (A : Option Addr) (n c : Nat) (xs : List Int) (s : ByteArray) (w : World) (h : SInv w) (hc : n ≤ c) (hc2 : c ≤ 9223372036854775807) (h0 : A = none → n = 0 ∧ c = 0) (hx : xs.length = min n 30) (hr : RdI w A xs) (hs : s.size ≤ 9223372036854775807) :
    Calls Tryd.prog 9 #[.slice A n c, .string s] w (Ret (.bool true) w) := by
  have hz := cut100_size s
  have HF := fun w' => few_any A n c w' hc hc2 h0
  have HC := fun w' => scut_any s w' hs
  have L1 := fun w' h' r' => List_any A c (min n 30) xs w' h' hx r' (by omega)
  have A1 := fun w' h' => All_any (listV xs).1 w' h' (listV_len xs (by omega))
  have A2 := fun w' h' => All_any (cut100 s) w' h' (by omega)
  have L2 := fun B c1 w' h' r' => List_any B c1 (allV (cut100 s)).1.length ((allV (cut100 s)).1.map fun n : Nat => (n : Int)) w' h' (by simp) r' (by have := all_len (cut100 s); omega)
  have hln := all_len (cut100 s)
  have F := Lib.hid (all_facts xs)
  have G := Lib.hid (all_facts2 (cut100 s))
  generalize hy : allV (cut100 s) = y at *
  generalize hy2 : listV (y.1.map fun n : Nat => (n : Int)) = y2 at *
  clear hy hy2
  generalize listV xs = x at *
  obtain ⟨a, e⟩ := x
  dsimp only at A1 F
  generalize hz2 : allV a = z at *
  clear hz2
  generalize cut100 s = s' at *
  obtain ⟨ld, g⟩ := y
  obtain ⟨d, i⟩ := y2
  obtain ⟨lb, f⟩ := z
  dsimp only at A2 L2 hln G A1 L1 F
  have hmn : min n 30 ≤ 30 := by omega
  generalize min n 30 = n' at *
  have HX := Lib.hid hx
  clear hx
  go_enter Tryd.func9, Tryd.ntmps9
  go_wp2_with fail
  refine (sshown_any _ h).mono ?_
  rintro e0 w1 ⟨rfl, hb1⟩
  go_wp2_with fail
  refine (HF _).mono ?_
  rintro e0 wp ⟨rfl, rfl⟩
  go_wp2_with fail
  refine (HC _).mono ?_
  rintro e0 wp ⟨rfl, rfl⟩
  go_wp2_with fail
  refine (L1 _ (h.below hb1) (hr.below hb1)).mono ?_
  rintro e0 w2 ⟨rfl, hb2'⟩
  have hb2 := ext_trans hb1 hb2'
  clear hb2' hb1
  go_wp2_with fail
  refine (A1 _ (h.below hb2)).mono ?_
  rintro e0 w3 ⟨V, rfl, hown, hb3'⟩
  have hb3 := ext_trans hb2 hb3'
  clear hb3' hb2
  obtain ⟨-, B, c1, rfl, hrB⟩ := rdI_own hown
  clear hown
  have F := F.out
  try dsimp only at F
  rcases F with ⟨F1, rfl, F2⟩ | ⟨rfl, rfl, F1⟩
  · have F1' : (e != 0) = true := by rw [bne, F1]; rfl
    go_wp2_with fail
    refine (A2 _ (h.below hb3)).mono ?_
    rintro e0 w4 ⟨V, rfl, hown, hb4'⟩
    have hb4 := ext_trans hb3 hb4'
    clear hb4' hb3
    obtain ⟨-, C, c2, rfl, hrC⟩ := rdI_own hown
    clear hown
    have L3 := L2 C c2
    go_wp2_with fail
    refine (L3 _ (h.below hb4) hrC).mono ?_
    rintro e0 w5 ⟨rfl, hb5'⟩
    have hb5 := ext_trans hb4 hb5'
    clear hb5' hb4
    have G := G.out
    try dsimp only at G
    rcases G with ⟨G1, rfl⟩ | ⟨rfl, G1⟩
    · have G1' : (g != 0) = true := by rw [bne, G1]; rfl
      go_wp2_with fail
      go_ret
      exact ⟨by first | rfl | (simp; done) | (simp; omega), hb5⟩
    · injection G1 with G2 G3
      subst G2 G3
      go_wp2_with fail
      go_ret
      exact ⟨by first | rfl | (simp; done) | (simp; omega), hb5⟩
  · have hlen : lb.length = n' := by have := congrArg List.length F1; rw [List.length_map, HX.out] at this; exact this
    rw [F1] at hrB
    have hI := Ints_true B A c1 c n' xs w3 HX.out hrB (hr.below hb3) (by omega)
    rw [hlen]
    clear F1
    go_wp2_with fail
    refine hI.mono ?_
    rintro e0 w4 ⟨rfl, hb4'⟩
    have hb4 := ext_trans hb3 hb4'
    clear hb3 hb4' hI
    go_wp2_with fail
    refine (A2 _ (h.below hb4)).mono ?_
    rintro e0 w5 ⟨V, rfl, hown, hb5'⟩
    have hb5 := ext_trans hb4 hb5'
    clear hb5' hb4
    obtain ⟨-, C, c2, rfl, hrC⟩ := rdI_own hown
    clear hown
    have L3 := L2 C c2
    go_wp2_with fail
    refine (L3 _ (h.below hb5) hrC).mono ?_
    rintro e0 w6 ⟨rfl, hb6'⟩
    have hb6 := ext_trans hb5 hb6'
    clear hb6' hb5
    have G := G.out
    try dsimp only at G
    rcases G with ⟨G1, rfl⟩ | ⟨rfl, G1⟩
    · have G1' : (g != 0) = true := by rw [bne, G1]; rfl
      go_wp2_with fail
      go_ret
      exact ⟨by first | rfl | (simp; done) | (simp; omega), hb6⟩
    · injection G1 with G2 G3
      subst G2 G3
      go_wp2_with fail
      go_ret
      exact ⟨by first | rfl | (simp; done) | (simp; omega), hb6⟩

end Go.Proofs.YtcahfdhfdigjaaaDoor
