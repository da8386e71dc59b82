/-
  Package postriderlaw04: ItemWhole. Conditions: as 'II' says.
-/
import Derived.Test.YtmoghgmbpkpcfaaGreatDoorItSh
namespace Go.Proofs.YtmoghgmbpkpcfaaGreatDoor
open Go.RowKit Go.Shelf

/-- A text's first bytes. -/
def cutS (n : Nat) (s : ByteArray) : ByteArray := s.extract 0 (min s.size n)
theorem cutS_size (n : Nat) (s : ByteArray) : (cutS n s).size ≤ n := by rw [cutS, ByteArray.size_extract]; omega
theorem cutI_any (s : ByteArray) (w : World) (hs : s.size ≤ 9223372036854775807) : Calls Tryz.prog 6 #[.string s] w (Pure (.string (cutS 700 s)) w) := by
  have e : cutS 700 s = s.extract 0 (min (s.size : Int) 700).toNat := by rw [cutS, show (min (s.size : Int) 700).toNat = min s.size 700 by omega]
  rw [e]
  go_enter Tryz.func6, Tryz.ntmps6
  go_wp2
  all_goals
    go_ret
    exact ⟨by first | rfl | simp, rfl⟩
theorem same_self (t u : TV) (h : t.item = u.item) : t.item.same u.item = true := (IN.same_iff _ _).2 h
theorem whole_cases (s : ByteArray) : ((decI s 0).2.2 ≠ 0 ∧ wholeI s = (nilI, (decI s 0).2.2)) ∨ ((decI s 0).2.2 = 0 ∧ (decI s 0).2.1 = (s.size : Int) ∧ wholeI s = ((decI s 0).1, 0)) ∨ ((decI s 0).2.2 = 0 ∧ (decI s 0).2.1 ≠ (s.size : Int) ∧ wholeI s = (nilI, 20)) := by
  unfold wholeI
  by_cases h : (decI s 0).2.2 = 0
  · rw [if_pos h]
    by_cases h2 : (decI s 0).2.1 = (s.size : Int)
    · rw [if_pos h2]; exact .inr (.inl ⟨h, h2, rfl⟩)
    · rw [if_neg h2]; exact .inr (.inr ⟨h, h2, rfl⟩)
  · rw [if_neg h]; exact .inl ⟨h, rfl⟩

end Go.Proofs.YtmoghgmbpkpcfaaGreatDoor
