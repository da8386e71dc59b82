/-
  Package postriderlaw02: the law SdnvBack. Conditions: errors.errorType holds the handle of the type error ('SInv').
-/
import Derived.Test.YtcahfdhfdigjaaaDoorSdP
namespace Go.Proofs.YtcahfdhfdigjaaaDoor
open Go.RowKit

set_option maxRecDepth 100000 in
set_option maxHeartbeats 4000000 in
theorem SdnvBack_law (n : Int) (s t : ByteArray) (w : World) (h : SInv w) (hs : s.size ≤ 9223372036854775807) (ht : t.size ≤ 9223372036854775807) :
    Calls Tryd.prog 3 #[.int .i64 n, .string s, .string t] w (Ret (.bool true) w) := by
  have E1 := fun w' h' => Encode_any n w' h'
  have HC := fun w' => scut_any s w' hs
  have HC2 := fun w' => scut_any t w' ht
  have hz := cut100_size s
  have hz2 := cut100_size t
  have hz3 := encV_len n
  have D1 := fun w' h' => Decode_any (cut100 s ++ (encV n).1 ++ cut100 t) ((cut100 s).size : Int) w' h' (by rw [ByteArray.size_append, ByteArray.size_append]; omega) (by omega)
  have D2 := fun w' h' => Decode_any (cut100 t) 0 w' h' (by omega) (by omega)
  have E2 := fun w' h' => Encode_any (sdV (cut100 t) 0).1.1 w' h'
  have F := Lib.hid (back_facts n (cut100 s) (cut100 t))
  have G := Lib.hid (back_facts2 (cut100 t))
  generalize cut100 s = s' at *
  generalize cut100 t = t' at *
  generalize encV n = x at *
  generalize sdV t' 0 = y at *
  obtain ⟨a, e⟩ := x
  obtain ⟨⟨d, to⟩, hh⟩ := y
  generalize encV d = z at *
  obtain ⟨u, i⟩ := z
  generalize sdV (s' ++ a ++ t') (s'.size : Int) = y at *
  obtain ⟨⟨b, at'⟩, f⟩ := y
  unfold sdR at D1 D2
  dsimp only at D1 D2 E1 E2 hz3
  have u1 : wrap64 ((s'.size : Int) + (a.size : Int)) = (s'.size : Int) + (a.size : Int) := by unfold wrap64; omega
  have u2 : ¬ (9223372036854775807 < s'.size + a.size) := by omega
  have u3 : ¬ (9223372036854775807 < s'.size + a.size + t'.size) := by omega
  have u4 : ¬ (9223372036854775807 < (s' ++ a).size + t'.size) := by rw [ByteArray.size_append]; omega
  have F := F.out
  try dsimp only at F
  go_enter Tryd.func3, Tryd.ntmps3
  go_wp2_with fail
  refine (sshown_any _ h).mono ?_
  rintro e0 w1 ⟨rfl, hb1⟩
  go_wp2_with fail
  refine (HC _).mono ?_
  rintro e0 wp ⟨rfl, rfl⟩
  go_wp2_with fail
  refine (HC2 _).mono ?_
  rintro e0 wp ⟨rfl, rfl⟩
  go_wp2_with fail
  refine (E1 _ (h.below hb1)).mono ?_
  rintro e0 w2 ⟨rfl, hb2'⟩
  have hb2 := ext_trans hb1 hb2'
  clear hb2' hb1
  go_wp2_with fail
  refine (D1 _ (h.below hb2)).mono ?_
  rintro e0 w3 ⟨rfl, hb3'⟩
  have hb3 := ext_trans hb2 hb3'
  clear hb3' hb2
  rcases F with F1 | ⟨rfl, F2⟩
  · have F1' : (e != 0) = true := by rw [bne, F1]; rfl
    go_wp2_with fail
    refine (D2 _ (h.below hb3)).mono ?_
    rintro e0 w4 ⟨rfl, hb4'⟩
    have hb4 := ext_trans hb3 hb4'
    clear hb4' hb3
    go_wp2_with fail
    refine (E2 _ (h.below hb4)).mono ?_
    rintro e0 w5 ⟨rfl, hb5'⟩
    have hb5 := ext_trans hb4 hb5'
    clear hb5' hb4
    have G := G.out
    try dsimp only at G
    rcases G with ⟨G1, rfl, rfl⟩ | ⟨rfl, k, rfl, G1, G2, G3⟩
    · have G1' : (hh != 0) = true := by rw [bne, G1]; rfl
      go_wp2_with fail
      go_ret
      exact ⟨by first | rfl | (simp; done) | (simp; omega), hb5⟩
    · have G4 : (1 : Int) ≤ (k : Int) := by omega
      have G5 : (k : Int) ≤ (t'.size : Int) := by omega
      have G6 : (0 : Int) ≤ (k : Int) := by omega
      injection G3 with G7 G8
      subst G7 G8
      go_wp2_with fail
      go_ret
      exact ⟨by first | rfl | (simp; done) | (simp; omega), hb5⟩
  · injection F2 with F3 F4
    injection F3 with F5 F6
    subst F4 F5 F6
    go_wp2_with fail
    refine (D2 _ (h.below hb3)).mono ?_
    rintro e0 w4 ⟨rfl, hb4'⟩
    have hb4 := ext_trans hb3 hb4'
    clear hb4' hb3
    go_wp2_with fail
    refine (E2 _ (h.below hb4)).mono ?_
    rintro e0 w5 ⟨rfl, hb5'⟩
    have hb5 := ext_trans hb4 hb5'
    clear hb5' hb4
    have G := G.out
    try dsimp only at G
    rcases G with ⟨G1, rfl, rfl⟩ | ⟨rfl, k, rfl, G1, G2, G3⟩
    · have G1' : (hh != 0) = true := by rw [bne, G1]; rfl
      go_wp2_with fail
      go_ret
      exact ⟨by first | rfl | (simp; done) | (simp; omega), hb5⟩
    · have G4 : (1 : Int) ≤ (k : Int) := by omega
      have G5 : (k : Int) ≤ (t'.size : Int) := by omega
      have G6 : (0 : Int) ≤ (k : Int) := by omega
      injection G3 with G7 G8
      subst G7 G8
      go_wp2_with fail
      go_ret
      exact ⟨by first | rfl | (simp; done) | (simp; omega), hb5⟩

end Go.Proofs.YtcahfdhfdigjaaaDoor
