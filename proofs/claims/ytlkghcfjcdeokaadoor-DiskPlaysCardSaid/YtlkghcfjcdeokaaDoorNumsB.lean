/-
  Package nums: the walks of either (at string, at int), Cut, Rest and Take. Conditions: the listed variables hold three different errors of errors.New's make ('NInv').
-/
import Derived.Test.YtlkghcfjcdeokaaDoorNumsA
namespace Go.Proofs.YtlkghcfjcdeokaaDoor
open Go.RowKit

theorem eithers_nil (v : ByteArray) (w : World) (aN aW aS : Addr) (h : NInv w aN aW aS) :
    Calls Tryd.prog 51 #[.string v, .nilIface] w (Pure (.tuple #[.string v, .int .i64 0]) w) := by
  have hN := h.cN
  have hW := h.cW
  have hS := h.cS
  go_enter Tryd.func51, Tryd.ntmps51
  go_wp2_with fail
  refine (is_nil aW _).mono ?_
  rintro e w' ⟨rfl, rfl⟩
  go_wp2_with fail
  refine (is_nil aN _).mono ?_
  rintro e w' ⟨rfl, rfl⟩
  go_wp2_with fail
  refine (is_nil aS _).mono ?_
  rintro e w' ⟨rfl, rfl⟩
  go_wp2_with fail
  go_ret2
  exact ⟨rfl, rfl⟩

theorem eithers_W (v : ByteArray) (w : World) (aN aW aS : Addr) (h : NInv w aN aW aS) :
    Calls Tryd.prog 51 #[.string v, ErrV aW] w (Pure (.tuple #[.string ByteArray.empty, .int .i64 2]) w) := by
  have hN := h.cN
  have hW := h.cW
  have hS := h.cS
  go_enter Tryd.func51, Tryd.ntmps51
  go_wp2_with fail
  refine (is_same aW _).mono ?_
  rintro e w' ⟨rfl, rfl⟩
  go_wp2_with fail
  go_ret2
  exact ⟨rfl, rfl⟩

theorem eithers_N (v : ByteArray) (w : World) (aN aW aS : Addr) (h : NInv w aN aW aS) :
    Calls Tryd.prog 51 #[.string v, ErrV aN] w (Pure (.tuple #[.string ByteArray.empty, .int .i64 10]) w) := by
  have hN := h.cN
  have hW := h.cW
  have hS := h.cS
  go_enter Tryd.func51, Tryd.ntmps51
  go_wp2_with fail
  refine (is_other aN aW _ h.nW h.pN h.pW).mono ?_
  rintro e w' ⟨rfl, rfl⟩
  go_wp2_with fail
  refine (is_same aN _).mono ?_
  rintro e w' ⟨rfl, rfl⟩
  go_wp2_with fail
  go_ret2
  exact ⟨rfl, rfl⟩

theorem eithers_S (v : ByteArray) (w : World) (aN aW aS : Addr) (h : NInv w aN aW aS) :
    Calls Tryd.prog 51 #[.string v, ErrV aS] w (Pure (.tuple #[.string ByteArray.empty, .int .i64 11]) w) := by
  have hN := h.cN
  have hW := h.cW
  have hS := h.cS
  go_enter Tryd.func51, Tryd.ntmps51
  go_wp2_with fail
  refine (is_other aS aW _ (Ne.symm h.wS) h.pS h.pW).mono ?_
  rintro e w' ⟨rfl, rfl⟩
  go_wp2_with fail
  refine (is_other aS aN _ (Ne.symm h.nS) h.pS h.pN).mono ?_
  rintro e w' ⟨rfl, rfl⟩
  go_wp2_with fail
  refine (is_same aS _).mono ?_
  rintro e w' ⟨rfl, rfl⟩
  go_wp2_with fail
  go_ret2
  exact ⟨rfl, rfl⟩

theorem first1_new (b : Bool) (a : Addr) (w : World) :
    Calls Tryd.prog 49 #[.slice (some ⟨w.heap.size, 0, none⟩) 1 1] (w.alloc (.cells #[.bool b, ErrV a] 93)) (Ret (errOf (firstErr [(b, a)])) (w.alloc (.cells #[.bool b, ErrV a] 93))) := by
  refine first_any [(b, a)] w.heap.size _ ?_ (by simp) (by simp)
  intro i hi
  simp at hi
  subst hi
  simp

theorem first2_new (b b' : Bool) (a a' : Addr) (w : World) :
    Calls Tryd.prog 49 #[.slice (some ⟨w.heap.size, 0, none⟩) 2 2] (w.alloc (.cells #[.bool b, ErrV a, .bool b', ErrV a'] 93)) (Ret (errOf (firstErr [(b, a), (b', a')])) (w.alloc (.cells #[.bool b, ErrV a, .bool b', ErrV a'] 93))) := by
  refine first_any [(b, a), (b', a')] w.heap.size _ ?_ (by simp) (by simp)
  intro i hi
  simp at hi
  rcases i with _ | _ | i
  · simp
  · simp
  · omega

theorem okWithin_iff {len a n : Int} : okWithin len a n = true ↔ 0 ≤ a ∧ a ≤ len ∧ 0 ≤ n ∧ n ≤ len - a := by simp [okWithin]; omega

theorem Cut_no (s : ByteArray) (at_ n : Int) (w : World) (aN aW aS : Addr) (hI : NInv w aN aW aS) (hs : s.size ≤ 9223372036854775807) (hn1 : -9223372036854775808 ≤ n) (hn2 : n ≤ 9223372036854775807) (hk : okWithin s.size at_ n = false) :
    Calls Tryd.prog 40 #[.string s, .int .i64 at_, .int .i64 n] w (Ret (.tuple #[.string ByteArray.empty, .int .i64 11]) w) := by
  have HK := Lib.hid hk
  clear hk
  go_enter Tryd.func40, Tryd.ntmps40
  go_wp2_with fail
  refine (within_any s at_ n _ aS hI.cS hs hn1 hn2).mono ?_
  rintro e w1 ⟨rfl, hb1⟩
  rw [HK.out]
  go_wp2_with fail
  refine (first1_new _ _ _).mono ?_
  rintro e w2 ⟨rfl, hb2⟩
  simp only [firstErr, errOf, ErrV, Bool.false_eq_true, if_false]
  go_wp2_with fail
  have hb := ext_trans (ext_alloc hb1 _) hb2
  refine (eithers_S ByteArray.empty _ aN aW aS (hI.below hb)).mono ?_
  rintro e w3 ⟨rfl, rfl⟩
  go_wp2_with fail
  go_ret2
  exact ⟨rfl, hb⟩

theorem Cut_ok (s : ByteArray) (at_ n : Int) (w : World) (aN aW aS : Addr) (hI : NInv w aN aW aS) (hs : s.size ≤ 9223372036854775807) (hk : okWithin s.size at_ n = true) :
    Calls Tryd.prog 40 #[.string s, .int .i64 at_, .int .i64 n] w (Ret (.tuple #[.string (s.extract at_.toNat (at_ + n).toNat), .int .i64 0]) w) := by
  obtain ⟨k1, k2, k3, k4⟩ := okWithin_iff.1 hk
  have HK := Lib.hid hk
  clear hk
  go_enter Tryd.func40, Tryd.ntmps40
  go_wp2_with fail
  refine (within_any s at_ n _ aS hI.cS hs (by omega) (by omega)).mono ?_
  rintro e w1 ⟨rfl, hb1⟩
  rw [HK.out]
  go_wp2_with fail
  refine (first1_new _ _ _).mono ?_
  rintro e w2 ⟨rfl, hb2⟩
  simp only [firstErr, errOf, if_true]
  go_wp2_with fail
  have hb := ext_trans (ext_alloc hb1 _) hb2
  refine (eithers_nil _ _ aN aW aS (hI.below hb)).mono ?_
  rintro e w3 ⟨rfl, rfl⟩
  go_wp2_with fail
  go_ret2
  exact ⟨rfl, hb⟩

end Go.Proofs.YtlkghcfjcdeokaaDoor
