/-
  Package disk: whether the power goes at a write (goes), Write. Conditions: errors.errorType holds the handle of the type error ('SInv').
-/
import Derived.Test.YtlkghcfjcdeokaaDoorDkF
import Derived.Lib.LazyBuf
import Derived.IntWalk
namespace Go.Proofs.YtlkghcfjcdeokaaDoor
open Go.RowKit Go.Shelf

theorem run_max_int2 (ts : Array TypeId) (t : TypeId) (x y : Int) (w : World) : (Builtin.max_ ts t #[.int .i64 x, .int .i64 y]).run Tryd.prog w = .ok (.int .i64 (if x < y then y else x)) w := by
  simp [Builtin.max_, Builtin.max2]

set_option maxRecDepth 100000 in
set_option maxHeartbeats 4000000 in
theorem goes_any {w : World} {p : Nat} {S C N : Value} (l : Nat) (b : Bool) (hB : Blk w p 59 #[S, .int .i64 (l : Int), C, .bool b, N]) (hl : l ≤ 9223372036854775807) :
    Calls Tryd.prog 37 #[.pointer (some ⟨p, 1, none⟩)] w fun e w' => e = .returned (.bool (decide (l = 1))) ∧ Blk w' p 59 #[S, .int .i64 ((l - 1 : Nat) : Int), C, .bool (decide (l = 1)), N] ∧ But2 p p w w' := by
  obtain ⟨c0, c1, c2, c3, c4, g0, g1, g2, g3, g4⟩ := hB.c5
  have hmax := fun w' => run_max_int2 #[3, 3] 3 (((l - 1 : Nat) : Int)) 0 w'
  rw [if_neg (by omega)] at hmax
  have fin : ∀ (u v : Value), Blk (((w.setCell ⟨p, 1, none⟩ u).setCell ⟨p, 3, none⟩ (.bool (decide (l = 1)))).setCell ⟨p, 1, none⟩ v) p 59 #[S, v, C, .bool (decide (l = 1)), N] ∧ But2 p p w (((w.setCell ⟨p, 1, none⟩ u).setCell ⟨p, 3, none⟩ (.bool (decide (l = 1)))).setCell ⟨p, 1, none⟩ v) := fun u v => by
    have q := ((hB.set_ 1 u).set_ 3 (.bool (decide (l = 1)))).set_ 1 v
    simp only [List.setIfInBounds_toArray, List.set_cons_succ, List.set_cons_zero] at q
    exact ⟨q, (((But2.refl p p w).set1 1 _).set1 3 _).set1 1 _⟩
  by_cases h0 : l = 0
  · subst h0
    go_enter Tryd.func37, Tryd.ntmps37
    go_wp2_with fail
    go_ret
    exact ⟨rfl, fin _ _⟩
  · by_cases h1 : l = 1
    · subst h1
      go_enter Tryd.func37, Tryd.ntmps37
      go_wp2_with fail
      go_ret
      exact ⟨rfl, fin _ _⟩
    · obtain ⟨q, hq⟩ : ∃ q, l - 1 = q := ⟨_, rfl⟩
      have e1 : wrap64 ((l : Int) - 1) = (q : Int) := by rw [IntWalk.wrap64_in _ ⟨by omega, by omega⟩]; omega
      have e1' : IntKind.i64.wrap ((l : Int) - 1) = (q : Int) := by rw [IntWalk.i64_in _ ⟨by omega, by omega⟩]; omega
      have e2 : ((q : Int) == 0) = false := by simp; omega
      have e3 : decide (l = 1) = false := by simp [h1]
      rw [hq] at hmax
      rw [e3] at fin
      rw [hq, e3]
      clear h0 h1 hq e3 hl
      generalize (l : Int) = L at *
      go_enter Tryd.func37, Tryd.ntmps37
      go_wp2_with fail
      go_ret
      exact ⟨rfl, fin _ _⟩

end Go.Proofs.YtlkghcfjcdeokaaDoor
