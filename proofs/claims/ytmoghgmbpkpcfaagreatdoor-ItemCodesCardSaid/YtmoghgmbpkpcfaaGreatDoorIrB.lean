/-
  Package postriderref04 (the document's answer for items): count, where an item is not right by itself, or stands too deep. Conditions: as the theorems' own hypotheses say.
-/
import Derived.Test.YtmoghgmbpkpcfaaGreatDoorIrA
import Derived.Test.YtmoghgmbpkpcfaaGreatDoorMgF
import Derived.Test.YtmoghgmbpkpcfaaGreatDoorMgE
namespace Go.Proofs.YtmoghgmbpkpcfaaGreatDoor
open Go.RowKit Go.Shelf

theorem count_deep (t : TV) (d : Int) (w : World) (hd : 6 < d) : Calls Tryz.prog 28 #[t.val, .int .i64 d] w (Ret (.int .i64 61) w) := by
  unfold TV.val TV.row
  have q0 := ext_new w (.cells #[.int .i64 t.kind, .int .i64 t.num, .string t.txt, .slice t.at_ t.kids.length t.cap] 24)
  go_enter Tryz.func28, Tryz.ntmps28
  go_wp2_with fail
  go_ret
  exact ⟨rfl, q0⟩
/-- What is asked of one item's cells. -/
theorem count_wrong (k n : Int) (s : ByteArray) (a : Option Addr) (m c : Nat) (d : Int) (w : World) (hd : ¬ 6 < d) (hs : s.size ≤ 700) (h : oneB k n s m = false) :
    Calls Tryz.prog 28 #[.agg #[.int .i64 k, .int .i64 n, .string s, .slice a m c], .int .i64 d] w (Ret (.int .i64 61) w) := by
  have q0 := ext_new w (.cells #[.int .i64 k, .int .i64 n, .string s, .slice a m c] 24)
  by_cases k0 : k = 0
  · subst k0
    rw [oneB_0] at h
    have hR := rRight_any n (w.alloc (.cells #[.int .i64 0, .int .i64 n, .string s, .slice a m c] 24))
    generalize okNum n = b at *
    cases b
    · clear h
      go_enter Tryz.func28, Tryz.ntmps28
      go_wp2_with fail
      refine hR.mono ?_
      rintro e w1 ⟨rfl, rfl⟩
      go_wp2_with fail
      go_ret
      exact ⟨rfl, q0⟩
    · by_cases h1 : s.size = 0
      · obtain rfl := txt_empty h1
        have h2 : ¬ m = 0 := fun e => by subst e; cases h
        have h4 : (0 : Int) < (m : Int) := by omega
        clear h
        go_enter Tryz.func28, Tryz.ntmps28
        go_wp2_with fail
        refine hR.mono ?_
        rintro e w1 ⟨rfl, rfl⟩
        go_wp2_with fail
        go_ret
        exact ⟨rfl, q0⟩
      · obtain ⟨h3, h4⟩ := str_no h1
        clear h
        go_enter Tryz.func28, Tryz.ntmps28
        go_wp2_with fail
        refine hR.mono ?_
        rintro e w1 ⟨rfl, rfl⟩
        go_wp2_with fail
        go_ret
        exact ⟨rfl, q0⟩
  · have e0 : (k == 0) = false := by simpa using k0
    by_cases k4 : k = 4
    · subst k4
      rw [show oneB 4 n s m = (true && decide (n = 0) && decide (s.size = 0)) from rfl] at h
      by_cases h1 : n = 0
      · subst h1
        have h2 : ¬ s.size = 0 := fun e => by rw [decide_eq_true e] at h; cases h
        obtain ⟨h3, h4⟩ := str_no h2
        clear h
        go_enter Tryz.func28, Tryz.ntmps28
        go_wp2_with fail
        go_ret
        exact ⟨rfl, q0⟩
      · have h3 : (n == 0) = false := by simpa using h1
        clear h
        go_enter Tryz.func28, Tryz.ntmps28
        go_wp2_with fail
        go_ret
        exact ⟨rfl, q0⟩
    · by_cases k23 : k = 2 ∨ k = 3
      · have key : oneB k n s m = (decide (n = 0) && decide (s.size ≤ 600) && decide (m = 0) && (decide (k = 2) || textB s.data.toList)) := by
          rcases k23 with rfl | rfl
          · show (decide (n = 0) && decide (s.size ≤ 600) && decide (m = 0)) = _
            rw [show decide ((2 : Int) = 2) = true from rfl, Bool.true_or, Bool.and_true]
          · show (decide (n = 0) && decide (s.size ≤ 600) && decide (m = 0) && textB s.data.toList) = _
            rfl
        rw [key] at h
        clear key
        have hT := fun W => rtext_any s W (by omega)
        generalize textB s.data.toList = tb at *
        by_cases h1 : n = 0
        · subst h1
          by_cases h2 : s.size ≤ 600
          · have h2' : ¬ 600 < (s.size : Int) := by omega
            by_cases h3 : m = 0
            · subst h3
              rw [decide_eq_true h2] at h
              rcases k23 with rfl | rfl
              · cases h
              · have htb : tb = false := by cases tb with | false => rfl | true => cases h
                subst htb
                clear h
                go_enter Tryz.func28, Tryz.ntmps28
                go_wp2_with fail
                refine (hT _).mono ?_
                rintro e w1 ⟨rfl, rfl⟩
                go_wp2_with fail
                go_ret
                exact ⟨rfl, q0⟩
            · have h5 : (0 : Int) < (m : Int) := by omega
              clear h
              rcases k23 with rfl | rfl
              all_goals
                go_enter Tryz.func28, Tryz.ntmps28
                go_wp2_with fail
                go_ret
                exact ⟨rfl, q0⟩
          · have h2' : 600 < (s.size : Int) := by omega
            clear h
            rcases k23 with rfl | rfl
            all_goals
              go_enter Tryz.func28, Tryz.ntmps28
              go_wp2_with fail
              go_ret
              exact ⟨rfl, q0⟩
        · have h3 : (n == 0) = false := by simpa using h1
          clear h
          rcases k23 with rfl | rfl
          all_goals
            go_enter Tryz.func28, Tryz.ntmps28
            go_wp2_with fail
            go_ret
            exact ⟨rfl, q0⟩
      · have k2 : ¬ k = 2 := fun e => k23 (.inl e)
        have k3 : ¬ k = 3 := fun e => k23 (.inr e)
        clear k23 h
        have e2 : (k == 2) = false := by simpa using k2
        have e3 : (k == 3) = false := by simpa using k3
        have e4 : (k == 4) = false := by simpa using k4
        go_enter Tryz.func28, Tryz.ntmps28
        go_wp2_with fail
        go_ret
        exact ⟨rfl, q0⟩

end Go.Proofs.YtmoghgmbpkpcfaaGreatDoor
