/-
  Package disk: what is told of a disk at once (IsDown, Sectors, Writes), Restart. No condition.
-/
import Derived.Test.YtlkghcfjcdeokaaDoorDkA
namespace Go.Proofs.YtlkghcfjcdeokaaDoor
open Go.RowKit

theorem IsDown_nil (w : World) : Calls Tryd.prog 14 #[.pointer none] w (Pure (.bool true) w) := by
  go_enter Tryd.func14, Tryd.ntmps14
  go_wp2_with fail
  go_ret
  exact ⟨rfl, rfl⟩
theorem IsDown_any {w : World} {p g : Nat} {d : DN} (h : DAt w p g d) : Calls Tryd.prog 14 #[.pointer (some ⟨p, 0, none⟩)] w (Pure (.bool d.down) w) := by
  obtain ⟨c0, c1, c2, c3, c4, -⟩ := h.disk.c5
  generalize d.down = b at *
  go_enter Tryd.func14, Tryd.ntmps14
  go_wp2_with fail
  go_ret
  exact ⟨by cases b <;> rfl, rfl⟩
theorem Sectors_nil (w : World) : Calls Tryd.prog 15 #[.pointer none] w (Pure (.int .i64 0) w) := by
  go_enter Tryd.func15, Tryd.ntmps15
  go_wp2_with fail
  go_ret
  exact ⟨rfl, rfl⟩
theorem Sectors_any {w : World} {p g : Nat} {d : DN} (h : DAt w p g d) : Calls Tryd.prog 15 #[.pointer (some ⟨p, 0, none⟩)] w (Pure (.int .i64 (d.L.length : Int)) w) := by
  obtain ⟨c0, c1, c2, c3, c4, -⟩ := h.disk.c5
  generalize d.L.length = n at *
  go_enter Tryd.func15, Tryd.ntmps15
  go_wp2_with fail
  go_ret
  exact ⟨rfl, rfl⟩
theorem Writes_any {w : World} {p g : Nat} {d : DN} (h : DAt w p g d) : Calls Tryd.prog 18 #[.pointer (some ⟨p, 0, none⟩)] w (Pure (.int .i64 (d.n : Int)) w) := by
  obtain ⟨c0, c1, c2, c3, c4, -⟩ := h.disk.c5
  generalize d.n = n at *
  go_enter Tryd.func18, Tryd.ntmps18
  go_wp2_with fail
  go_ret
  exact ⟨rfl, rfl⟩
/-- What a call that turns a disk leaves. -/
def Turned (v : Value) (p g : Nat) (d : DN) (w : World) (e : Ending) (w' : World) : Prop := e = .returned v ∧ DAt w' p g d ∧ But2 p g w w'
theorem Restart_any {w : World} {p g : Nat} {d : DN} (h : DAt w p g d) : Calls Tryd.prog 20 #[.pointer (some ⟨p, 0, none⟩)] w (Turned (.int .i64 0) p g d.restart w) := by
  obtain ⟨c0, c1, c2, c3, c4, g0, g1, g2, g3, g4⟩ := h.disk.c5
  go_enter Tryd.func20, Tryd.ntmps20
  go_wp2_with fail
  go_ret
  have q := ((h.disk.set_ 1 (.int .i64 0)).set_ 2 (.int .i64 0)).set_ 3 (.bool false)
  simp only [List.setIfInBounds_toArray, List.set_cons_succ, List.set_cons_zero] at q
  refine ⟨rfl, ⟨q, ((h.secs.set_other h.ne.symm _ _).set_other h.ne.symm _ _).set_other h.ne.symm _ _, h.ne, (DN.restart_fit h.fit).1, h.len, Nat.zero_le _, h.n⟩, ?_⟩
  exact (((But2.refl p g w).set1 _ _).set1 _ _).set1 _ _

end Go.Proofs.YtlkghcfjcdeokaaDoor
