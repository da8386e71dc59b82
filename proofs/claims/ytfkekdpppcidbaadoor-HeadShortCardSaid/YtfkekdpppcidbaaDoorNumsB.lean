/-
  Package nums: the walks of either (at string, at int), Cut, Rest and Take. Conditions: the listed variables hold three different errors of errors.New's make ('NInv').
-/
import Derived.Test.YtfkekdpppcidbaaDoorNumsA
namespace Go.Proofs.YtfkekdpppcidbaaDoor
open Go.RowKit

theorem eithers_nil (v : ByteArray) (w : World) (aN aW aS : Addr) (h : NInv w aN aW aS) :
    Calls Tryd.prog 41 #[.string v, .nilIface] w (Pure (.tuple #[.string v, .int .i64 0]) w) := by
  have hN := h.cN
  have hW := h.cW
  have hS := h.cS
  go_enter Tryd.func41, Tryd.ntmps41
  go_wp2_with fail
  refine (is_nil aW _).mono ?_
  rintro e w' ⟨rfl, rfl⟩
  go_wp2_with fail
  refine (is_nil aN _).mono ?_
  rintro e w' ⟨rfl, rfl⟩
  go_wp2_with fail
  refine (is_nil aS _).mono ?_
  rintro e w' ⟨rfl, rfl⟩
  go_wp2_with fail
  go_ret2
  exact ⟨rfl, rfl⟩

theorem eithers_W (v : ByteArray) (w : World) (aN aW aS : Addr) (h : NInv w aN aW aS) :
    Calls Tryd.prog 41 #[.string v, ErrV aW] w (Pure (.tuple #[.string ByteArray.empty, .int .i64 2]) w) := by
  have hN := h.cN
  have hW := h.cW
  have hS := h.cS
  go_enter Tryd.func41, Tryd.ntmps41
  go_wp2_with fail
  refine (is_same aW _).mono ?_
  rintro e w' ⟨rfl, rfl⟩
  go_wp2_with fail
  go_ret2
  exact ⟨rfl, rfl⟩

theorem eithers_N (v : ByteArray) (w : World) (aN aW aS : Addr) (h : NInv w aN aW aS) :
    Calls Tryd.prog 41 #[.string v, ErrV aN] w (Pure (.tuple #[.string ByteArray.empty, .int .i64 10]) w) := by
  have hN := h.cN
  have hW := h.cW
  have hS := h.cS
  go_enter Tryd.func41, Tryd.ntmps41
  go_wp2_with fail
  refine (is_other aN aW _ h.nW h.pN h.pW).mono ?_
  rintro e w' ⟨rfl, rfl⟩
  go_wp2_with fail
  refine (is_same aN _).mono ?_
  rintro e w' ⟨rfl, rfl⟩
  go_wp2_with fail
  go_ret2
  exact ⟨rfl, rfl⟩

theorem eithers_S (v : ByteArray) (w : World) (aN aW aS : Addr) (h : NInv w aN aW aS) :
    Calls Tryd.prog 41 #[.string v, ErrV aS] w (Pure (.tuple #[.string ByteArray.empty, .int .i64 11]) w) := by
  have hN := h.cN
  have hW := h.cW
  have hS := h.cS
  go_enter Tryd.func41, Tryd.ntmps41
  go_wp2_with fail
  refine (is_other aS aW _ (Ne.symm h.wS) h.pS h.pW).mono ?_
  rintro e w' ⟨rfl, rfl⟩
  go_wp2_with fail
  refine (is_other aS aN _ (Ne.symm h.nS) h.pS h.pN).mono ?_
  rintro e w' ⟨rfl, rfl⟩
  go_wp2_with fail
  refine (is_same aS _).mono ?_
  rintro e w' ⟨rfl, rfl⟩
  go_wp2_with fail
  go_ret2
  exact ⟨rfl, rfl⟩

theorem eitheri_nil (v : Int) (w : World) (aN aW aS : Addr) (h : NInv w aN aW aS) :
    Calls Tryd.prog 47 #[.int .i64 v, .nilIface] w (Pure (.tuple #[.int .i64 v, .int .i64 0]) w) := by
  have hN := h.cN
  have hW := h.cW
  have hS := h.cS
  go_enter Tryd.func47, Tryd.ntmps47
  go_wp2_with fail
  refine (is_nil aW _).mono ?_
  rintro e w' ⟨rfl, rfl⟩
  go_wp2_with fail
  refine (is_nil aN _).mono ?_
  rintro e w' ⟨rfl, rfl⟩
  go_wp2_with fail
  refine (is_nil aS _).mono ?_
  rintro e w' ⟨rfl, rfl⟩
  go_wp2_with fail
  go_ret2
  exact ⟨rfl, rfl⟩

theorem eitheri_W (v : Int) (w : World) (aN aW aS : Addr) (h : NInv w aN aW aS) :
    Calls Tryd.prog 47 #[.int .i64 v, ErrV aW] w (Pure (.tuple #[.int .i64 0, .int .i64 2]) w) := by
  have hN := h.cN
  have hW := h.cW
  have hS := h.cS
  go_enter Tryd.func47, Tryd.ntmps47
  go_wp2_with fail
  refine (is_same aW _).mono ?_
  rintro e w' ⟨rfl, rfl⟩
  go_wp2_with fail
  go_ret2
  exact ⟨rfl, rfl⟩

theorem eitheri_N (v : Int) (w : World) (aN aW aS : Addr) (h : NInv w aN aW aS) :
    Calls Tryd.prog 47 #[.int .i64 v, ErrV aN] w (Pure (.tuple #[.int .i64 0, .int .i64 10]) w) := by
  have hN := h.cN
  have hW := h.cW
  have hS := h.cS
  go_enter Tryd.func47, Tryd.ntmps47
  go_wp2_with fail
  refine (is_other aN aW _ h.nW h.pN h.pW).mono ?_
  rintro e w' ⟨rfl, rfl⟩
  go_wp2_with fail
  refine (is_same aN _).mono ?_
  rintro e w' ⟨rfl, rfl⟩
  go_wp2_with fail
  go_ret2
  exact ⟨rfl, rfl⟩

theorem eitheri_S (v : Int) (w : World) (aN aW aS : Addr) (h : NInv w aN aW aS) :
    Calls Tryd.prog 47 #[.int .i64 v, ErrV aS] w (Pure (.tuple #[.int .i64 0, .int .i64 11]) w) := by
  have hN := h.cN
  have hW := h.cW
  have hS := h.cS
  go_enter Tryd.func47, Tryd.ntmps47
  go_wp2_with fail
  refine (is_other aS aW _ (Ne.symm h.wS) h.pS h.pW).mono ?_
  rintro e w' ⟨rfl, rfl⟩
  go_wp2_with fail
  refine (is_other aS aN _ (Ne.symm h.nS) h.pS h.pN).mono ?_
  rintro e w' ⟨rfl, rfl⟩
  go_wp2_with fail
  refine (is_same aS _).mono ?_
  rintro e w' ⟨rfl, rfl⟩
  go_wp2_with fail
  go_ret2
  exact ⟨rfl, rfl⟩


theorem first1_new (b : Bool) (a : Addr) (w : World) :
    Calls Tryd.prog 39 #[.slice (some ⟨w.heap.size, 0, none⟩) 1 1] (w.alloc (.cells #[.bool b, ErrV a] 77)) (Ret (errOf (firstErr [(b, a)])) (w.alloc (.cells #[.bool b, ErrV a] 77))) := by
  refine first_any [(b, a)] w.heap.size _ ?_ (by simp) (by simp)
  intro i hi
  simp at hi
  subst hi
  simp

theorem first2_new (b b' : Bool) (a a' : Addr) (w : World) :
    Calls Tryd.prog 39 #[.slice (some ⟨w.heap.size, 0, none⟩) 2 2] (w.alloc (.cells #[.bool b, ErrV a, .bool b', ErrV a'] 77)) (Ret (errOf (firstErr [(b, a), (b', a')])) (w.alloc (.cells #[.bool b, ErrV a, .bool b', ErrV a'] 77))) := by
  refine first_any [(b, a), (b', a')] w.heap.size _ ?_ (by simp) (by simp)
  intro i hi
  simp at hi
  rcases i with _ | _ | i
  · simp
  · simp
  · omega

theorem okWithin_iff {len a n : Int} : okWithin len a n = true ↔ 0 ≤ a ∧ a ≤ len ∧ 0 ≤ n ∧ n ≤ len - a := by simp [okWithin]; omega

end Go.Proofs.YtfkekdpppcidbaaDoor
