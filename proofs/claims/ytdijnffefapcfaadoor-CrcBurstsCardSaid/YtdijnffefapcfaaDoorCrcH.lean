/-
  The small functions of the statements of chapter 05 (cut, few, mixed, shown): their contracts. Conditions: the listed variables hold what 'CInv' says.
-/
import Derived.Test.YtdijnffefapcfaaDoorCrcG
namespace Go.Proofs.YtdijnffefapcfaaDoor
open Go.RowKit

def cut200 (s : ByteArray) : ByteArray := s.extract 0 (min s.size 200)
theorem cut200_size (s : ByteArray) : (cut200 s).size ≤ 200 := by rw [cut200, ByteArray.size_extract]; omega

theorem ccut_any (s : ByteArray) (w : World) (hs : s.size ≤ 9223372036854775807) : Calls Tryd.prog 11 #[.string s] w (Pure (.string (cut200 s)) w) := by
  by_cases h : s.size ≤ 200
  · have hc : cut200 s = s.extract 0 s.size := by rw [cut200, Nat.min_eq_left (by omega)]
    rw [hc]
    go_enter Tryd.func11, Tryd.ntmps11
    go_wp2
    all_goals
      go_ret
      exact ⟨by first | rfl | simp, rfl⟩
  · have hc : cut200 s = s.extract 0 200 := by rw [cut200, Nat.min_eq_right (by omega)]
    rw [hc]
    go_enter Tryd.func11, Tryd.ntmps11
    go_wp2
    all_goals
      go_ret
      exact ⟨by first | rfl | simp, rfl⟩

theorem few_any (A : Option Addr) (n c : Nat) (w : World) (hn : n ≤ c) (hc : c ≤ 9223372036854775807) (h0 : A = none → n = 0 ∧ c = 0) :
    Calls Tryd.prog 10 #[.slice A n c] w (Pure (.slice A (min n 257) c) w) := by
  rcases A with _ | a
  · obtain ⟨rfl, rfl⟩ := h0 rfl
    go_enter Tryd.func10, Tryd.ntmps10
    go_wp2
    go_ret
    exact ⟨rfl, rfl⟩
  · clear h0
    by_cases h : n ≤ 257
    · rw [Nat.min_eq_left (by omega)]
      go_enter Tryd.func10, Tryd.ntmps10
      go_wp2
      all_goals
        go_ret
        exact ⟨by first | rfl | simp, rfl⟩
    · rw [Nat.min_eq_right (by omega)]
      go_enter Tryd.func10, Tryd.ntmps10
      go_wp2
      all_goals
        go_ret
        exact ⟨by first | rfl | simp, rfl⟩

theorem sh16 : (⟨(sumB false (⟨#[49, 50, 51, 52, 53, 54, 55, 56, 57]⟩ : ByteArray).data.toList).toArray⟩ : ByteArray) = ⟨#[144, 110]⟩ := by kernel_rfl
theorem sh32 : (⟨(sumB true (⟨#[49, 50, 51, 52, 53, 54, 55, 56, 57]⟩ : ByteArray).data.toList).toArray⟩ : ByteArray) = ⟨#[227, 6, 146, 131]⟩ := by kernel_rfl

theorem cshown_any (w : World) (aA aT aN aW aS : Addr) (h : CInv w aA aT aN aW aS) : Calls Tryd.prog 9 #[] w (Ret (.bool true) w) := by
  go_enter Tryd.func9, Tryd.ntmps9
  go_wp2_with fail
  refine (Of_1 _ _ aA aT aN aW aS h (by decide)).mono ?_
  rintro e w1 ⟨rfl, hb1⟩
  rw [sh16]
  go_wp2_with fail
  refine (Of_2 _ _ aA aT aN aW aS (h.below hb1) (by decide)).mono ?_
  rintro e w2 ⟨rfl, hb2'⟩
  have hb2 := ext_trans hb1 hb2'
  clear hb1 hb2'
  rw [sh32]
  go_wp2_with fail
  refine (Table_1 _ aA aT aN aW aS (h.below hb2)).mono ?_
  rintro e w3 ⟨hh, cap, rfl, _, hb3'⟩
  have hb3 := ext_trans hb2 hb3'
  clear hb2 hb3'
  go_wp2_with fail
  refine (Of_no 3 _ _ aA aT aN aW aS (h.below hb3) (by decide) (by decide) (by decide)).mono ?_
  rintro e w4 ⟨rfl, hb4'⟩
  have hb4 := ext_trans hb3 hb4'
  clear hb3 hb4'
  go_wp2_with fail
  refine (Sum_1_len none 0 0 _ _ aA aT aN aW aS (h.below hb4) (by decide)).mono ?_
  rintro e w5 ⟨rfl, hb5'⟩
  have hb5 := ext_trans hb4 hb5'
  clear hb4 hb5'
  go_wp2_with fail
  refine (Size_2 _ aA aT aN aW aS (h.below hb5)).mono ?_
  rintro e w6 ⟨rfl, hb6'⟩
  have hb6 := ext_trans hb5 hb6'
  clear hb5 hb6'
  go_wp2_with fail
  go_ret
  exact ⟨rfl, hb6⟩

end Go.Proofs.YtdijnffefapcfaaDoor
