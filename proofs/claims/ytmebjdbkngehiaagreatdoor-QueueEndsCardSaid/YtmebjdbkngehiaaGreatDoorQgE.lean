/-
  Package postriderref01 (the document's answer for numbers): the walks of its functions, each as a contract. Conditions: as the theorems' own hypotheses say. Package nums: its functions' contracts over all inputs, in the words of the document's answer. Conditions: the listed variables hold three different errors of errors.New's make ('NInv').
-/
import Derived.Test.YtmebjdbkngehiaaGreatDoorNumsG
import Derived.Lib.Strings
namespace Go.Proofs.YtmebjdbkngehiaaGreatDoor
open Go.RowKit

/-- What Cut, Rest, Take and Bytes tell. -/
def cutV (s : ByteArray) (at_ n : Int) : ByteArray × Int := if okWithin s.size at_ n then (s.extract at_.toNat (at_ + n).toNat, 0) else (ByteArray.empty, 11)
def restV (s : ByteArray) (at_ : Int) : ByteArray × Int := if okWithin s.size at_ 0 then (s.extract at_.toNat s.size, 0) else (ByteArray.empty, 11)
def takeV (s : ByteArray) (at_ n : Int) : Int × Int :=
  if okWidth n then (if okWithin s.size at_ n then (takeN ((s.data.toList.drop at_.toNat).take n.toNat), takeE ((s.data.toList.drop at_.toNat).take n.toNat)) else (0, 11)) else (0, 2)
def fits (n wd : Int) : Bool := okNum n && decide (n.toNat < 256 ^ wd.toNat)
def bytesV (n wd : Int) : ByteArray × Int := if okWidth wd then (if fits n wd then (⟨(digits wd.toNat n.toNat).toArray⟩, 0) else (ByteArray.empty, 10)) else (ByteArray.empty, 2)

theorem bytesV_width {n wd : Int} (h : okWidth wd = false) : bytesV n wd = (ByteArray.empty, 2) := by rw [bytesV, if_neg (by rw [h]; decide)]
theorem bytesV_num {n wd : Int} (h : okWidth wd = true) (hn : fits n wd = false) : bytesV n wd = (ByteArray.empty, 10) := by rw [bytesV, if_pos h, if_neg (by rw [hn]; decide)]
theorem bytesV_ok {n wd : Int} (h : okWidth wd = true) (hn : fits n wd = true) : bytesV n wd = (⟨(digits wd.toNat n.toNat).toArray⟩, 0) := by rw [bytesV, if_pos h, if_pos hn]

theorem cutV_ok {s : ByteArray} {a n : Int} (h : okWithin s.size a n = true) : cutV s a n = (s.extract a.toNat (a + n).toNat, 0) := by rw [cutV, if_pos h]
theorem cutV_no {s : ByteArray} {a n : Int} (h : okWithin s.size a n = false) : cutV s a n = (ByteArray.empty, 11) := by rw [cutV, if_neg (by rw [h]; decide)]
theorem takeV_width {s : ByteArray} {a n : Int} (h : okWidth n = false) : takeV s a n = (0, 2) := by rw [takeV, if_neg (by rw [h]; decide)]
theorem takeV_short {s : ByteArray} {a n : Int} (h : okWidth n = true) (h' : okWithin s.size a n = false) : takeV s a n = (0, 11) := by rw [takeV, if_pos h, if_neg (by rw [h']; decide)]
theorem takeV_ok {s : ByteArray} {a n : Int} (h : okWidth n = true) (h' : okWithin s.size a n = true) :
    takeV s a n = (takeN ((s.data.toList.drop a.toNat).take n.toNat), takeE ((s.data.toList.drop a.toNat).take n.toNat)) := by rw [takeV, if_pos h, if_pos h']

theorem extract_list (s : ByteArray) (p m : Nat) : (s.extract p (p + m)).data.toList = (s.data.toList.drop p).take m := by
  rw [Lib.extract_data, show p + m - p = m by omega]

end Go.Proofs.YtmebjdbkngehiaaGreatDoor

namespace Go.Proofs.YtmebjdbkngehiaaGreatDoor
open Go.RowKit

theorem restV_ok {s : ByteArray} {a : Int} (h : okWithin s.size a 0 = true) : restV s a = (s.extract a.toNat s.size, 0) := by rw [restV, if_pos h]
theorem restV_no {s : ByteArray} {a : Int} (h : okWithin s.size a 0 = false) : restV s a = (ByteArray.empty, 11) := by rw [restV, if_neg (by rw [h]; decide)]

theorem Cut_any (s : ByteArray) (at_ n : Int) (w : World) (aN aW aS : Addr) (hI : NInv w aN aW aS) (hs : s.size ≤ 9223372036854775807) (hn1 : -9223372036854775808 ≤ n) (hn2 : n ≤ 9223372036854775807) :
    Calls Tryz.prog 75 #[.string s, .int .i64 at_, .int .i64 n] w (Ret (.tuple #[.string (cutV s at_ n).1, .int .i64 (cutV s at_ n).2]) w) := by
  have hcs : okWithin s.size at_ n = false ∨ okWithin s.size at_ n = true := by cases okWithin s.size at_ n <;> simp
  rcases hcs with h | h
  · rw [cutV_no h]; exact Cut_no s at_ n w aN aW aS hI hs hn1 hn2 h
  · rw [cutV_ok h]; exact Cut_ok s at_ n w aN aW aS hI hs h

theorem Rest_any (s : ByteArray) (at_ : Int) (w : World) (aN aW aS : Addr) (hI : NInv w aN aW aS) (hs : s.size ≤ 9223372036854775807) :
    Calls Tryz.prog 174 #[.string s, .int .i64 at_] w (Ret (.tuple #[.string (restV s at_).1, .int .i64 (restV s at_).2]) w) := by
  have hcs : okWithin s.size at_ 0 = false ∨ okWithin s.size at_ 0 = true := by cases okWithin s.size at_ 0 <;> simp
  rcases hcs with h | h
  · rw [restV_no h]; exact Rest_no s at_ w aN aW aS hI hs h
  · rw [restV_ok h]; exact Rest_ok s at_ w aN aW aS hI hs h

theorem Take_any (s : ByteArray) (at_ n : Int) (w : World) (aN aW aS : Addr) (hI : NInv w aN aW aS) (hs : s.size ≤ 9223372036854775807) (hn1 : -9223372036854775808 ≤ n) (hn2 : n ≤ 9223372036854775807) :
    Calls Tryz.prog 173 #[.string s, .int .i64 at_, .int .i64 n] w (Ret (.tuple #[.int .i64 (takeV s at_ n).1, .int .i64 (takeV s at_ n).2]) w) := by
  have hck : okWidth n = false ∨ okWidth n = true := by cases okWidth n <;> simp
  have hcs : okWithin s.size at_ n = false ∨ okWithin s.size at_ n = true := by cases okWithin s.size at_ n <;> simp
  rcases hck with k | k
  · rw [takeV_width k]; exact Take_width s at_ n w aN aW aS hI hs hn1 hn2 k
  · rcases hcs with h | h
    · rw [takeV_short k h]; exact Take_short s at_ n w aN aW aS hI hs k h
    · rw [takeV_ok k h]; exact Take_ok s at_ n w aN aW aS hI hs k h

theorem okNum_iff {n : Int} : okNum n = true ↔ 0 ≤ n ∧ n ≤ 281474976710655 := by simp [okNum]

theorem Bytes_any (n wd : Int) (w : World) (aN aW aS : Addr) (hI : NInv w aN aW aS) :
    Calls Tryz.prog 132 #[.int .i64 n, .int .i64 wd] w (Ret (.tuple #[.string (bytesV n wd).1, .int .i64 (bytesV n wd).2]) w) := by
  have hcn : okNum n = false ∨ okNum n = true := by cases okNum n <;> simp
  have hcw : okWidth wd = false ∨ okWidth wd = true := by cases okWidth wd <;> simp
  rcases hcn with hn | hn
  · have h := Bytes_N n wd w aN aW aS hI hn
    rcases hcw with k | k
    · rw [k] at h; rw [bytesV_width k]; exact h
    · rw [k] at h; rw [bytesV_num k (by rw [fits, hn]; rfl)]; exact h
  · obtain ⟨n0, n1⟩ := okNum_iff.1 hn
    obtain ⟨p, rfl⟩ := Int.eq_ofNat_of_zero_le n0
    rcases hcw with k | k
    · rw [bytesV_width k]
      by_cases h6 : 6 < wd
      · exact Bytes_W1 p wd w aN aW aS hI hn h6 k
      · refine Bytes_W2 p wd w aN aW aS hI hn ?_
        have := mt okWidth_iff.2 (by rw [k]; decide)
        omega
    · obtain ⟨k1, k2⟩ := okWidth_iff.1 k
      obtain ⟨m, rfl⟩ := Int.eq_ofNat_of_zero_le (show 0 ≤ wd by omega)
      have hp : p ≤ 281474976710655 := by omega
      by_cases h6 : 6 < (m : Int)
      · have hf : fits (p : Int) (m : Int) = true := by
          simp only [fits, hn, Bool.true_and, Int.toNat_natCast, decide_eq_true_eq]
          calc p < 256 ^ 6 := by omega
            _ ≤ 256 ^ m := Nat.pow_le_pow_right (by omega) (by omega)
        rw [bytesV_ok k hf]
        exact Bytes_ok1 p m w aN aW aS hI hn h6 (by omega) (by omega)
      · by_cases hfit : p < 256 ^ m
        · rw [bytesV_ok k (by simp only [fits, hn, Bool.true_and, Int.toNat_natCast, decide_eq_true_eq]; exact hfit)]
          exact Bytes_ok2 p m w aN aW aS hI hn (by omega) (by omega) (by omega) hfit
        · rw [bytesV_num k (by simp only [fits, hn, Bool.true_and, Int.toNat_natCast, decide_eq_false_iff_not]; exact hfit)]
          exact Bytes_no2 p m w aN aW aS hI hn (by omega) (by omega) hfit

end Go.Proofs.YtmebjdbkngehiaaGreatDoor
