/-
  Package postriderlaw17: the law FrameBack. Conditions: the listed variables hold what 'CInv' says.
-/
import Derived.Test.YtlabmomehjfjdaaDoorFrP
namespace Go.Proofs.YtlabmomehjfjdaaDoor
open Go.RowKit

/-- What stands behind the frames. -/
def RestOf (s T : ByteArray) : Prop := decF T.data.toList = none ∧ T.size ≤ s.size + 1

set_option maxRecDepth 100000 in
set_option maxHeartbeats 4000000 in
theorem FrameBack_law (A : Option Addr) (n c : Nat) (xs : List RI) (s : ByteArray) (w : World) (aA aT aN aW aS : Addr) (h : CInv w aA aT aN aW aS) (hx : xs.length = min n 10) (hr : RdR w A xs) (hd : ∀ x ∈ xs, x.d.size ≤ 9223372036854775807) (hs : s.size ≤ 9223372036854775807) :
    Calls Tryd.prog 7 #[.slice A n c, .string s] w (Ret (.bool true) w) := by
  have hz := cut3000_size s
  have HC := fun w' => fcut_any s w' hs
  have FC := fun w' r' => FCut_any A n c xs w' hx r' hd
  generalize cut3000 s = s' at *
  have S2 := fun w' h' => Scan_any s' (by omega) w' aA aT aN aW aS h'
  obtain ⟨b1, b2, b3, b4⟩ := scan_back s'
  generalize scanOf s'.data.toList = sc at *
  obtain ⟨l, q⟩ := sc
  dsimp only at S2 b1 b2 b3 b4
  generalize hys : xs.map RI.cut = ys at *
  have hyl : ys.length = min n 10 := by rw [← hys, List.length_map, hx]
  have hxy : xs.length = ys.length := by rw [hyl, hx]
  rw [hxy] at FC
  have hy10 : ys.length ≤ 10 := by omega
  clear hd hx hys hxy hyl
  obtain ⟨dx, hdx⟩ : ∃ dx, s'.extract 0 q = dx := ⟨_, rfl⟩
  rw [hdx] at b1 b2
  have hq3 : ((s'.extract 0 q).toList == dx.toList) = true := by rw [hdx]; exact beq_self_eq_true _
  clear hdx
  have B1 := Lib.hid b1
  have hl4 : l.length ≤ 400 := by omega
  have hq0 : (0 : Int) ≤ (q : Int) := by omega
  have hq1 : (q : Int) ≤ (s'.size : Int) := by omega
  have hq2 : ((q : Int) == (dx.size : Int)) = true := by rw [b2]; simp
  clear b1 b2 b3 b4
  go_enter Tryd.func7, Tryd.ntmps7
  go_wp2_with fail
  refine (fshown_any _ aA aT aN aW aS h).mono ?_
  rintro e w1 ⟨rfl, hb1⟩
  go_wp2_with fail
  refine (FC _ (hr.below hb1)).mono ?_
  rintro e w2 ⟨V, rfl, hown, hb2'⟩
  have hb2 := ext_trans hb1 hb2'
  obtain ⟨-, B, c1, rfl, hrB⟩ := rdR_own hown
  clear hown hb2' hb1 FC
  have L1 := fun w' h' r' => Lay_any B c1 ys.length ys w' aA aT aN aW aS h' rfl r' (by omega)
  go_wp2_with fail
  refine (HC _).mono ?_
  rintro e wp ⟨rfl, rfl⟩
  go_wp2_with fail
  refine (L1 _ (h.below hb2) hrB).mono ?_
  rintro e w3 ⟨rfl, hb3'⟩
  have hrB3 := hrB.below hb3'
  have hb3 := ext_trans hb2 hb3'
  clear hb3' hb2 hrB L1
  have hrest : (s'.size = 0 ∧ decF s'.data.toList = none) ∨ (∃ hp : 0 < s'.size, ((s'[0].toNat : Int) == 225) = false ∧ decF s'.data.toList = none) ∨ (∃ hp : 0 < s'.size, ((s'[0].toNat : Int) == 225) = true ∧ decF ((⟨#[0]⟩ : ByteArray) ++ s').data.toList = none) := by
    rcases Nat.eq_zero_or_pos s'.size with h0 | hp
    · exact .inl ⟨h0, rest_none0 h0⟩
    · by_cases hb : s'[0].toNat = 225
      · exact .inr (.inr ⟨hp, by rw [hb]; rfl, rest_none2 _⟩)
      · exact .inr (.inl ⟨hp, by simp; omega, rest_none1 hp hb⟩)
  rcases lay_cases ys with ⟨hok, hv⟩ | hv
  · rw [hv]
    have hll := lay_len ys hok
    have HBO := Lib.hid (fun (T : ByteArray) hT => back_ok hok (T := T) hT)
    have hcb := cells_back hok
    have hsz : (⟨(layL (ys.map RI.n)).toArray⟩ : ByteArray).size ≤ 20140 := by rw [size_of]; omega
    clear hv hok hll
    generalize hm : ys.map RI.n = ms at *
    have hml : ms.length = ys.length := by rw [← hm, List.length_map]
    clear hm
    generalize (⟨(layL ms).toArray⟩ : ByteArray) = F at *
    dsimp only
    rcases hrest with ⟨h0, hT⟩ | ⟨hp, hb, hT⟩ | ⟨hp, hb, hT⟩
    · have HB := HBO.out s' hT
      have hn1 : (s' : ByteArray).size ≤ 3001 := by omega
      have S1 := fun w' h' => Scan_any (F ++ s') (by rw [ByteArray.size_append]; omega) w' aA aT aN aW aS h'
      rw [HB] at S1
      dsimp only at S1
      have n1 : ¬ (9223372036854775807 < F.size + (s' : ByteArray).size) := by omega
      have i0 : ¬ (0 : Int) < (s'.size : Int) := by omega
      clear h0
      clear HB hn1 HBO hT
      go_wp2_with fail
      refine (S1 _ (h.below hb3)).mono ?_
      rintro e w4 ⟨V, rfl, hown, hb4'⟩
      rw [hcb, hml] at hown
      obtain ⟨-, C, c2, rfl, hrC⟩ := rdR_own hown
      have hrB4 := hrB3.below hb4'
      have hb4 := ext_trans hb3 hb4'
      clear hown hb4' hb3 hrB3 S1
      go_wp2_with fail
      refine (Same_true C B c2 c1 ys.length ys _ rfl hrC hrB4 (by omega)).mono ?_
      rintro e w5 ⟨rfl, hb5'⟩
      have hb5 := ext_trans hb4 hb5'
      clear hb5' hb4 hrC hrB4
      go_wp2_with fail
      refine (S2 _ (h.below hb5)).mono ?_
      rintro e w6 ⟨V, rfl, hown, hb6'⟩
      rw [cellsR_i] at hown
      obtain ⟨-, D, c3, rfl, hrD⟩ := rdR_own hown
      have hb6 := ext_trans hb5 hb6'
      clear hown hb6' hb5 S2
      go_wp2_with fail
      refine (Lay_any D c3 l.length (l.map RecN.i) _ aA aT aN aW aS (h.below hb6) (by rw [List.length_map]) hrD hl4).mono ?_
      rintro e w7 ⟨rfl, hb7'⟩
      rw [B1.out]
      have hb7 := ext_trans hb6 hb7'
      clear hb7' hb6
      dsimp only
      go_wp2_with fail
      go_ret
      exact ⟨rfl, hb7⟩
    · have HB := HBO.out s' hT
      have hn1 : (s' : ByteArray).size ≤ 3001 := by omega
      have S1 := fun w' h' => Scan_any (F ++ s') (by rw [ByteArray.size_append]; omega) w' aA aT aN aW aS h'
      rw [HB] at S1
      dsimp only at S1
      have n1 : ¬ (9223372036854775807 < F.size + (s' : ByteArray).size) := by omega
      have i0 : (0 : Int) < (s'.size : Int) := by omega
      clear HB hn1 HBO hT
      go_wp2_with fail
      refine (S1 _ (h.below hb3)).mono ?_
      rintro e w4 ⟨V, rfl, hown, hb4'⟩
      rw [hcb, hml] at hown
      obtain ⟨-, C, c2, rfl, hrC⟩ := rdR_own hown
      have hrB4 := hrB3.below hb4'
      have hb4 := ext_trans hb3 hb4'
      clear hown hb4' hb3 hrB3 S1
      go_wp2_with fail
      refine (Same_true C B c2 c1 ys.length ys _ rfl hrC hrB4 (by omega)).mono ?_
      rintro e w5 ⟨rfl, hb5'⟩
      have hb5 := ext_trans hb4 hb5'
      clear hb5' hb4 hrC hrB4
      go_wp2_with fail
      refine (S2 _ (h.below hb5)).mono ?_
      rintro e w6 ⟨V, rfl, hown, hb6'⟩
      rw [cellsR_i] at hown
      obtain ⟨-, D, c3, rfl, hrD⟩ := rdR_own hown
      have hb6 := ext_trans hb5 hb6'
      clear hown hb6' hb5 S2
      go_wp2_with fail
      refine (Lay_any D c3 l.length (l.map RecN.i) _ aA aT aN aW aS (h.below hb6) (by rw [List.length_map]) hrD hl4).mono ?_
      rintro e w7 ⟨rfl, hb7'⟩
      rw [B1.out]
      have hb7 := ext_trans hb6 hb7'
      clear hb7' hb6
      dsimp only
      go_wp2_with fail
      go_ret
      exact ⟨rfl, hb7⟩
    · have HB := HBO.out ((⟨#[0]⟩ : ByteArray) ++ s') hT
      have hn1 : (((⟨#[0]⟩ : ByteArray) ++ s') : ByteArray).size ≤ 3001 := by rw [ByteArray.size_append]; show 1 + _ ≤ _; omega
      have S1 := fun w' h' => Scan_any (F ++ ((⟨#[0]⟩ : ByteArray) ++ s')) (by rw [ByteArray.size_append]; omega) w' aA aT aN aW aS h'
      rw [HB] at S1
      dsimp only at S1
      have n1 : ¬ (9223372036854775807 < F.size + (((⟨#[0]⟩ : ByteArray) ++ s') : ByteArray).size) := by omega
      have n2 : ¬ (9223372036854775807 < (⟨#[0]⟩ : ByteArray).size + s'.size) := by show ¬ (_ < 1 + _); omega
      have n3 : ¬ (9223372036854775807 < 1 + s'.size) := by omega
      have i0 : (0 : Int) < (s'.size : Int) := by omega
      clear HB hn1 HBO hT
      go_wp2_with fail
      refine (S1 _ (h.below hb3)).mono ?_
      rintro e w4 ⟨V, rfl, hown, hb4'⟩
      rw [hcb, hml] at hown
      obtain ⟨-, C, c2, rfl, hrC⟩ := rdR_own hown
      have hrB4 := hrB3.below hb4'
      have hb4 := ext_trans hb3 hb4'
      clear hown hb4' hb3 hrB3 S1
      go_wp2_with fail
      refine (Same_true C B c2 c1 ys.length ys _ rfl hrC hrB4 (by omega)).mono ?_
      rintro e w5 ⟨rfl, hb5'⟩
      have hb5 := ext_trans hb4 hb5'
      clear hb5' hb4 hrC hrB4
      go_wp2_with fail
      refine (S2 _ (h.below hb5)).mono ?_
      rintro e w6 ⟨V, rfl, hown, hb6'⟩
      rw [cellsR_i] at hown
      obtain ⟨-, D, c3, rfl, hrD⟩ := rdR_own hown
      have hb6 := ext_trans hb5 hb6'
      clear hown hb6' hb5 S2
      go_wp2_with fail
      refine (Lay_any D c3 l.length (l.map RecN.i) _ aA aT aN aW aS (h.below hb6) (by rw [List.length_map]) hrD hl4).mono ?_
      rintro e w7 ⟨rfl, hb7'⟩
      rw [B1.out]
      have hb7 := ext_trans hb6 hb7'
      clear hb7' hb6
      dsimp only
      go_wp2_with fail
      go_ret
      exact ⟨rfl, hb7⟩
  · rw [hv]
    clear hv
    dsimp only
    rcases hrest with ⟨h0, hT⟩ | ⟨hp, hb, hT⟩ | ⟨hp, hb, hT⟩
    · have hn1 : (s' : ByteArray).size ≤ 3001 := by omega
      have S1 := fun w' h' => Scan_any (ByteArray.empty ++ s') (by rw [ByteArray.size_append]; show 0 + _ ≤ _; omega) w' aA aT aN aW aS h'
      generalize scanOf (ByteArray.empty ++ s').data.toList = sc1 at S1
      have n1 : ¬ (9223372036854775807 < ByteArray.empty.size + (s' : ByteArray).size) := by show ¬ (_ < 0 + _); omega
      have i0 : ¬ (0 : Int) < (s'.size : Int) := by omega
      clear h0
      clear hn1 hT
      go_wp2_with fail
      refine (S1 _ (h.below hb3)).mono ?_
      rintro e w4 ⟨V, rfl, hown, hb5'⟩
      obtain ⟨A1, c2, rfl⟩ := own_form hown
      have hb5 := ext_trans hb3 hb5'
      clear hown hb5' hb3 hrB3 S1
      go_wp2_with fail
      refine (S2 _ (h.below hb5)).mono ?_
      rintro e w6 ⟨V, rfl, hown, hb6'⟩
      rw [cellsR_i] at hown
      obtain ⟨-, D, c3, rfl, hrD⟩ := rdR_own hown
      have hb6 := ext_trans hb5 hb6'
      clear hown hb6' hb5 S2
      go_wp2_with fail
      refine (Lay_any D c3 l.length (l.map RecN.i) _ aA aT aN aW aS (h.below hb6) (by rw [List.length_map]) hrD hl4).mono ?_
      rintro e w7 ⟨rfl, hb7'⟩
      rw [B1.out]
      have hb7 := ext_trans hb6 hb7'
      clear hb7' hb6
      dsimp only
      go_wp2_with fail
      go_ret
      exact ⟨rfl, hb7⟩
    · have hn1 : (s' : ByteArray).size ≤ 3001 := by omega
      have S1 := fun w' h' => Scan_any (ByteArray.empty ++ s') (by rw [ByteArray.size_append]; show 0 + _ ≤ _; omega) w' aA aT aN aW aS h'
      generalize scanOf (ByteArray.empty ++ s').data.toList = sc1 at S1
      have n1 : ¬ (9223372036854775807 < ByteArray.empty.size + (s' : ByteArray).size) := by show ¬ (_ < 0 + _); omega
      have i0 : (0 : Int) < (s'.size : Int) := by omega
      clear hn1 hT
      go_wp2_with fail
      refine (S1 _ (h.below hb3)).mono ?_
      rintro e w4 ⟨V, rfl, hown, hb5'⟩
      obtain ⟨A1, c2, rfl⟩ := own_form hown
      have hb5 := ext_trans hb3 hb5'
      clear hown hb5' hb3 hrB3 S1
      go_wp2_with fail
      refine (S2 _ (h.below hb5)).mono ?_
      rintro e w6 ⟨V, rfl, hown, hb6'⟩
      rw [cellsR_i] at hown
      obtain ⟨-, D, c3, rfl, hrD⟩ := rdR_own hown
      have hb6 := ext_trans hb5 hb6'
      clear hown hb6' hb5 S2
      go_wp2_with fail
      refine (Lay_any D c3 l.length (l.map RecN.i) _ aA aT aN aW aS (h.below hb6) (by rw [List.length_map]) hrD hl4).mono ?_
      rintro e w7 ⟨rfl, hb7'⟩
      rw [B1.out]
      have hb7 := ext_trans hb6 hb7'
      clear hb7' hb6
      dsimp only
      go_wp2_with fail
      go_ret
      exact ⟨rfl, hb7⟩
    · have hn1 : (((⟨#[0]⟩ : ByteArray) ++ s') : ByteArray).size ≤ 3001 := by rw [ByteArray.size_append]; show 1 + _ ≤ _; omega
      have S1 := fun w' h' => Scan_any (ByteArray.empty ++ ((⟨#[0]⟩ : ByteArray) ++ s')) (by rw [ByteArray.size_append]; show 0 + _ ≤ _; omega) w' aA aT aN aW aS h'
      generalize scanOf (ByteArray.empty ++ ((⟨#[0]⟩ : ByteArray) ++ s')).data.toList = sc1 at S1
      have n1 : ¬ (9223372036854775807 < ByteArray.empty.size + (((⟨#[0]⟩ : ByteArray) ++ s') : ByteArray).size) := by show ¬ (_ < 0 + _); omega
      have n2 : ¬ (9223372036854775807 < (⟨#[0]⟩ : ByteArray).size + s'.size) := by show ¬ (_ < 1 + _); omega
      have n3 : ¬ (9223372036854775807 < 1 + s'.size) := by omega
      have i0 : (0 : Int) < (s'.size : Int) := by omega
      clear hn1 hT
      go_wp2_with fail
      refine (S1 _ (h.below hb3)).mono ?_
      rintro e w4 ⟨V, rfl, hown, hb5'⟩
      obtain ⟨A1, c2, rfl⟩ := own_form hown
      have hb5 := ext_trans hb3 hb5'
      clear hown hb5' hb3 hrB3 S1
      go_wp2_with fail
      refine (S2 _ (h.below hb5)).mono ?_
      rintro e w6 ⟨V, rfl, hown, hb6'⟩
      rw [cellsR_i] at hown
      obtain ⟨-, D, c3, rfl, hrD⟩ := rdR_own hown
      have hb6 := ext_trans hb5 hb6'
      clear hown hb6' hb5 S2
      go_wp2_with fail
      refine (Lay_any D c3 l.length (l.map RecN.i) _ aA aT aN aW aS (h.below hb6) (by rw [List.length_map]) hrD hl4).mono ?_
      rintro e w7 ⟨rfl, hb7'⟩
      rw [B1.out]
      have hb7 := ext_trans hb6 hb7'
      clear hb7' hb6
      dsimp only
      go_wp2_with fail
      go_ret
      exact ⟨rfl, hb7⟩

end Go.Proofs.YtlabmomehjfjdaaDoor
