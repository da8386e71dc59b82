/-
  Package nums and the document's answer for it: Cut alone, for programs that use no more of it. Conditions: the listed variables hold different errors of errors.New's make ('NInv').
-/
import Derived.Test.YtlkghcfjcdeokaaDoorNumsC
namespace Go.Proofs.YtlkghcfjcdeokaaDoor
open Go.RowKit

def cutV (s : ByteArray) (at_ n : Int) : ByteArray × Int := if okWithin s.size at_ n then (s.extract at_.toNat (at_ + n).toNat, 0) else (ByteArray.empty, 11)
theorem rCut_any (s : ByteArray) (at_ n : Int) (w : World) (hs : s.size ≤ 9223372036854775807) (hn1 : -9223372036854775808 ≤ n) (hn2 : n ≤ 9223372036854775807) :
    Calls Tryd.prog 46 #[.string s, .int .i64 at_, .int .i64 n] w (Pure (.tuple #[.string (cutV s at_ n).1, .int .i64 (cutV s at_ n).2]) w) := by
  by_cases hk : okWithin s.size at_ n = true
  · obtain ⟨k1, k2, k3, k4⟩ := okWithin_iff.1 hk
    rw [cutV, if_pos hk]
    clear hk
    go_enter Tryd.func46, Tryd.ntmps46
    go_wp2
    go_ret2
    exact ⟨rfl, rfl⟩
  · rw [cutV, if_neg hk]
    have hk' : ¬ (0 ≤ at_ ∧ at_ ≤ s.size ∧ 0 ≤ n ∧ n ≤ s.size - at_) := fun h => hk (okWithin_iff.2 h)
    clear hk
    have HK := Lib.hid hk'
    clear hk'
    go_enter Tryd.func46, Tryd.ntmps46
    go_wp2
    all_goals first
      | (go_ret2; exact ⟨rfl, rfl⟩)
      | exact absurd ⟨by omega, by omega, by omega, by omega⟩ HK.out

theorem cutV_ok {s : ByteArray} {a n : Int} (h : okWithin s.size a n = true) : cutV s a n = (s.extract a.toNat (a + n).toNat, 0) := by rw [cutV, if_pos h]
theorem cutV_no {s : ByteArray} {a n : Int} (h : okWithin s.size a n = false) : cutV s a n = (ByteArray.empty, 11) := by rw [cutV, if_neg (by rw [h]; decide)]
theorem Cut_any (s : ByteArray) (at_ n : Int) (w : World) (aN aW aS : Addr) (hI : NInv w aN aW aS) (hs : s.size ≤ 9223372036854775807) (hn1 : -9223372036854775808 ≤ n) (hn2 : n ≤ 9223372036854775807) :
    Calls Tryd.prog 40 #[.string s, .int .i64 at_, .int .i64 n] w (Ret (.tuple #[.string (cutV s at_ n).1, .int .i64 (cutV s at_ n).2]) w) := by
  have hcs : okWithin s.size at_ n = false ∨ okWithin s.size at_ n = true := by cases okWithin s.size at_ n <;> simp
  rcases hcs with h | h
  · rw [cutV_no h]; exact Cut_no s at_ n w aN aW aS hI hs hn1 hn2 h
  · rw [cutV_ok h]; exact Cut_ok s at_ n w aN aW aS hI hs h


end Go.Proofs.YtlkghcfjcdeokaaDoor
