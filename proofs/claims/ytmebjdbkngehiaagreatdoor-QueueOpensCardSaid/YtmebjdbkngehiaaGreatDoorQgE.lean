/-
  Package postriderref01 (the document's answer for numbers): the walks of its functions, each as a contract, and more of the kind. Conditions: as the theorems' own hypotheses say.
-/
import Derived.Test.YtmebjdbkngehiaaGreatDoorNumsG
import Derived.Lib.Strings
namespace Go.Proofs.YtmebjdbkngehiaaGreatDoor
open Go.RowKit
variable {n wd a : Int} {s : ByteArray}
theorem rRight_any (n : Int) (w : World) : Calls Tryz.prog 123 #[.int .i64 n] w (Pure (.bool (okNum n)) w) := by
 go_enter Tryz.func123, Tryz.ntmps123
 go_wp2
 ·go_ret
  exact ⟨by simp [okNum, *], rfl⟩
 ·go_ret
  exact ⟨by simp [okNum]; omega, rfl⟩
def cutV (s : ByteArray) (at_ n : Int) : ByteArray × Int := if okWithin s.size at_ n then (s.extract at_.toNat (at_ + n).toNat, 0) else (ByteArray.empty, 11)
def restV (s : ByteArray) (at_ : Int) : ByteArray × Int := if okWithin s.size at_ 0 then (s.extract at_.toNat s.size, 0) else (ByteArray.empty, 11)
def takeV (s : ByteArray) (at_ n : Int) : Int × Int :=
 if okWidth n then (if okWithin s.size at_ n then (takeN ((s.data.toList.drop at_.toNat).take n.toNat), takeE ((s.data.toList.drop at_.toNat).take n.toNat)) else (0, 11)) else (0, 2)
def fits (n wd : Int) : Bool := okNum n && decide (n.toNat < 256 ^ wd.toNat)
def bytesV (n wd : Int) : ByteArray × Int := if okWidth wd then (if fits n wd then (⟨(digits wd.toNat n.toNat).toArray⟩, 0) else (ByteArray.empty, 10)) else (ByteArray.empty, 2)
theorem rCut_any (s : ByteArray) (at_ n : Int) (w : World) (hs : s.size ≤ 9223372036854775807) (hn1 : -9223372036854775808 ≤ n) (hn2 : n ≤ 9223372036854775807) :
  Calls Tryz.prog 77 #[.string s, .int .i64 at_, .int .i64 n] w (Pure (.tuple #[.string (cutV s at_ n).1, .int .i64 (cutV s at_ n).2]) w) := by
 by_cases hk : okWithin s.size at_ n = true
 ·obtain ⟨k1, k2, k3, k4⟩ := okWithin_iff.1 hk
  rw [cutV, if_pos hk]
  clear hk
  go_enter Tryz.func77, Tryz.ntmps77
  go_wp2
  go_ret2
  exact ⟨rfl, rfl⟩
 ·rw [cutV, if_neg hk]
  have hk' : ¬ (0 ≤ at_ ∧ at_ ≤ s.size ∧ 0 ≤ n ∧ n ≤ s.size - at_) := fun h => hk (okWithin_iff.2 h)
  clear hk
  have HK := Lib.hid hk'
  clear hk'
  go_enter Tryz.func77, Tryz.ntmps77
  go_wp2
  all_goals first
   | (go_ret2; exact ⟨rfl, rfl⟩)
   | exact absurd ⟨by omega, by omega, by omega, by omega⟩ HK.out
theorem rRest_any (s : ByteArray) (at_ : Int) (w : World) (_hs : s.size ≤ 9223372036854775807) :
  Calls Tryz.prog 142 #[.string s, .int .i64 at_] w (Pure (.tuple #[.string (restV s at_).1, .int .i64 (restV s at_).2]) w) := by
 by_cases hk : okWithin s.size at_ 0 = true
 ·obtain ⟨k1, k2, k3, k4⟩ := okWithin_iff.1 hk
  rw [restV, if_pos hk]
  clear hk
  go_enter Tryz.func142, Tryz.ntmps142
  go_wp2
  go_ret2
  exact ⟨rfl, rfl⟩
 ·rw [restV, if_neg hk]
  have hk' : ¬ (0 ≤ at_ ∧ at_ ≤ s.size ∧ (0 : Int) ≤ 0 ∧ 0 ≤ s.size - at_) := fun h => hk (okWithin_iff.2 h)
  clear hk
  have HK := Lib.hid hk'
  clear hk'
  go_enter Tryz.func142, Tryz.ntmps142
  go_wp2
  all_goals first
   | (go_ret2; exact ⟨rfl, rfl⟩)
   | exact absurd ⟨by omega, by omega, by omega, by omega⟩ HK.out
theorem bytesV_width (h : okWidth wd = false) : bytesV n wd = (ByteArray.empty, 2) := by rw [bytesV, if_neg (by rw [h]; decide)]
theorem bytesV_num (h : okWidth wd = true) (hn : fits n wd = false) : bytesV n wd = (ByteArray.empty, 10) := by rw [bytesV, if_pos h, if_neg (by rw [hn]; decide)]
theorem bytesV_ok (h : okWidth wd = true) (hn : fits n wd = true) : bytesV n wd = (⟨(digits wd.toNat n.toNat).toArray⟩, 0) := by rw [bytesV, if_pos h, if_pos hn]
theorem conv1 (x : Nat) (W : World) :
  (convert 36 9 (.slice (some ⟨W.heap.size, 0, none⟩) 1 1)).run Tryz.prog (W.alloc (.cells #[.int .u8 ((x : Int) % 256)] 5)) = .ok (.string ⟨#[UInt8.ofNat (x % 256)]⟩) (W.alloc (.cells #[.int .u8 ((x : Int) % 256)] 5)) := by
 refine run_convert_bytes_back (P := Tryz.prog) _ 36 9 5 ⟨W.heap.size, 0, none⟩ 1 [UInt8.ofNat (x % 256)] Tryz.underlying36 Tryz.underlying5 Tryz.underlying9 (fun j hj => ?_)
 simp at hj
 subst hj
 rw [addr_add]
 simp
theorem ba_cons (b : UInt8) (l : List UInt8) : (⟨#[b]⟩ : ByteArray) ++ ⟨l.toArray⟩ = ⟨(b :: l).toArray⟩ := by
 apply ByteArray.ext
 simp
theorem div_pow_eq_zero {p m : Nat} : p / 256 ^ m = 0 ↔ p < 256 ^ m := by
 have h0 : 0 < 256 ^ m := Nat.pow_pos (by omega)
 rw [Nat.div_eq_zero_iff]
 omega
theorem rBytes_any (n wd : Int) (w : World) :
  Calls Tryz.prog 124 #[.int .i64 n, .int .i64 wd] w (Ret (.tuple #[.string (bytesV n wd).1, .int .i64 (bytesV n wd).2]) w) := by
 have hcw : okWidth wd = false ∨ okWidth wd = true := by cases okWidth wd <;> simp
 rcases hcw with hk | hk
 ·have HV := Lib.hid (bytesV_width (n := n) hk)
  by_cases k1 : wd < 1
  ·have hg1 : decide (wd < 1) = true := by simp; omega
   clear hk k1
   go_enter Tryz.func124, Tryz.ntmps124
   go_wp2_with fail
   go_ret2
   exact ⟨by rw [HV.out]; rfl, Below.refl _ _⟩
  ·have k2 : 8 < wd := by
    have := mt okWidth_iff.2 (by rw [hk]; decide)
    omega
   have hg1 : decide (wd < 1) = false := by simp; omega
   have hg2 : decide (8 < wd) = true := by simp; omega
   clear hk k1 k2
   go_enter Tryz.func124, Tryz.ntmps124
   go_wp2_with fail
   go_ret2
   exact ⟨by rw [HV.out]; rfl, Below.refl _ _⟩
 ·obtain ⟨k1, k2⟩ := okWidth_iff.1 hk
  have hg1 : decide (wd < 1) = false := by simp; omega
  have hg2 : decide (8 < wd) = false := by simp; omega
  by_cases hn : okNum n = true
  ·have hn2 : 0 ≤ n ∧ n ≤ 281474976710655 := by simpa [okNum] using hn
   obtain ⟨n0, n1⟩ := hn2
   obtain ⟨p, rfl⟩ := Int.eq_ofNat_of_zero_le n0
   obtain ⟨m, rfl⟩ := Int.eq_ofNat_of_zero_le (show 0 ≤ wd by omega)
   have HN := Lib.hid hn
   have HK := Lib.hid hk
   clear hn hk
   go_enter Tryz.func124, Tryz.ntmps124
   go_wp2_with fail
   refine (rRight_any _ _).mono ?_
   rintro e w1 ⟨rfl, rfl⟩
   rw [HN.out]
   go_wp2_with fail
   go_loopw [0, 6, 7] (fun x s i wr => ∃ k : Nat, k ≤ m ∧ i = .int .i64 (k : Int) ∧ x = .int .i64 ((p / 256 ^ k : Nat) : Int) ∧ s = .string ⟨(digits k p).toArray⟩ ∧ Below w.heap.size w wr) (fun _ _ i _ => m - (intOf i).toNat)
   case atStart => exact ⟨0, Nat.zero_le _, rfl, by simp, rfl, Below.refl _ _⟩
   case round =>
    obtain ⟨k, hk, rfl, rfl, rfl, hb⟩ := hrel
    have hsz := hb.size
    have hq : p / 256 ^ k ≤ 281474976710655 := Nat.le_trans (Nat.div_le_self _ _) (by omega)
    have hnext : (p / 256 ^ k) / 256 = p / 256 ^ (k + 1) := by rw [Nat.div_div_eq_div_mul, Nat.pow_succ]
    have HNX := Lib.hid hnext
    clear hnext
    have hdg := digits_succ' k p
    have HDG := Lib.hid hdg
    clear hdg
    by_cases hlt : k < m
    ·generalize hqq : p / 256 ^ k = q at hq HNX HDG
     have HQ := Lib.hid hqq
     clear hqq
     generalize hdd : digits k p = ds at HDG
     have HD := Lib.hid hdd
     clear hdd
     have hcv := conv1 q wr
     have hdl : ds.length ≤ 8 := by rw [← HD.out, digits_length]; omega
     go_wp2_with fail
     go_roundw
     case rel =>
      refine ⟨k + 1, by omega, by go_num, ?_, ?_, hb.alloc hsz _⟩
      ·rw [← HNX.out]; rfl
      ·rw [HDG.out, ba_cons]
     case measure => simp [intOf]; omega
    ·obtain rfl : k = m := by omega
     have hfit := div_pow_eq_zero (p := p) (m := k)
     have HFIT := Lib.hid hfit
     clear hfit
     generalize hqq : p / 256 ^ k = q at hq HFIT
     rcases Nat.eq_zero_or_pos q with rfl | hq0
     ·clear hqq HNX HDG
      go_wp2_with fail
      go_ret2
      refine ⟨?_, hb⟩
      rw [bytesV_ok HK.out (by simp [fits, HN.out]; exact HFIT.out.1 (by first | trivial | rfl))]
      rfl
     ·clear hqq HNX HDG
      have hne : ((q : Int) != 0) = true := by simp; omega
      go_wp2_with fail
      go_ret2
      refine ⟨?_, hb⟩
      rw [bytesV_num HK.out (by simp [fits, HN.out]; exact Nat.le_of_not_lt (fun h => by have := HFIT.out.2 h; omega))]
      rfl
  ·have HV := Lib.hid (bytesV_num (n := n) hk (by simp [fits, hn]))
   have hn' : okNum n = false := by simpa using hn
   have HN := Lib.hid hn'
   clear hn hn' hk
   go_enter Tryz.func124, Tryz.ntmps124
   go_wp2_with fail
   refine (rRight_any _ _).mono ?_
   rintro e w1 ⟨rfl, rfl⟩
   rw [HN.out]
   go_wp2_with fail
   go_ret2
   exact ⟨by rw [HV.out]; rfl, Below.refl _ _⟩
theorem cutV_ok (h : okWithin s.size a n = true) : cutV s a n = (s.extract a.toNat (a + n).toNat, 0) := by rw [cutV, if_pos h]
theorem cutV_no (h : okWithin s.size a n = false) : cutV s a n = (ByteArray.empty, 11) := by rw [cutV, if_neg (by rw [h]; decide)]
theorem takeV_width (h : okWidth n = false) : takeV s a n = (0, 2) := by rw [takeV, if_neg (by rw [h]; decide)]
theorem takeV_short (h : okWidth n = true) (h' : okWithin s.size a n = false) : takeV s a n = (0, 11) := by rw [takeV, if_pos h, if_neg (by rw [h']; decide)]
theorem takeV_ok (h : okWidth n = true) (h' : okWithin s.size a n = true) :
  takeV s a n = (takeN ((s.data.toList.drop a.toNat).take n.toNat), takeE ((s.data.toList.drop a.toNat).take n.toNat)) := by rw [takeV, if_pos h, if_pos h']
theorem extract_list (s : ByteArray) (p m : Nat) : (s.extract p (p + m)).data.toList = (s.data.toList.drop p).take m := by
 rw [Lib.extract_data, show p + m - p = m by omega]
theorem take_wrap' (t : ByteArray) (k : Nat) (h : k < t.size) (hv : val (t.data.toList.take k) ≤ 281474976710655) :
  wrap64 (256 * (val (t.data.toList.take k) : Int) + wrap64 (t[k].toNat : Int)) = ((val (t.data.toList.take (k + 1)) : Nat) : Int) := by
 have h1 := take_succ_at t 0 t.size k (by omega) h
 have e : (t.data.toList.drop 0).take t.size = t.data.toList := by rw [List.drop_zero, List.take_of_length_le (by simp)]
 rw [e] at h1
 rw [h1, val_snoc]
 have hb := t[0 + k].toNat_lt
 simp only [Nat.zero_add] at hb ⊢
 rw [IntWalk.wrap64_in (t[k].toNat : Int) ⟨by omega, by omega⟩, IntWalk.wrap64_in _ ⟨by omega, by omega⟩]
 omega
theorem rTake_any (s : ByteArray) (at_ n : Int) (w : World) (hs : s.size ≤ 9223372036854775807) (hn1 : -9223372036854775808 ≤ n) (hn2 : n ≤ 9223372036854775807) :
  Calls Tryz.prog 141 #[.string s, .int .i64 at_, .int .i64 n] w (Pure (.tuple #[.int .i64 (takeV s at_ n).1, .int .i64 (takeV s at_ n).2]) w) := by
 have hcw : okWidth n = false ∨ okWidth n = true := by cases okWidth n <;> simp
 rcases hcw with hk | hk
 ·have HV := Lib.hid (takeV_width (s := s) (a := at_) hk)
  by_cases k1 : n < 1
  ·have hg1 : decide (n < 1) = true := by simp; omega
   clear hk k1
   go_enter Tryz.func141, Tryz.ntmps141
   go_wp2_with fail
   go_ret2
   exact ⟨by rw [HV.out]; rfl, rfl⟩
  ·have k2 : 8 < n := by
    have := mt okWidth_iff.2 (by rw [hk]; decide)
    omega
   have hg1 : decide (n < 1) = false := by simp; omega
   have hg2 : decide (8 < n) = true := by simp; omega
   clear hk k1 k2
   go_enter Tryz.func141, Tryz.ntmps141
   go_wp2_with fail
   go_ret2
   exact ⟨by rw [HV.out]; rfl, rfl⟩
 ·obtain ⟨k1, k2⟩ := okWidth_iff.1 hk
  have hg1 : decide (n < 1) = false := by simp; omega
  have hg2 : decide (8 < n) = false := by simp; omega
  have hcs : okWithin s.size at_ n = false ∨ okWithin s.size at_ n = true := by cases okWithin s.size at_ n <;> simp
  rcases hcs with hw | hw
  ·have HV := Lib.hid (takeV_short hk hw)
   have HC := Lib.hid (cutV_no hw)
   clear hk hw
   go_enter Tryz.func141, Tryz.ntmps141
   go_wp2_with fail
   refine (rCut_any s at_ n _ hs hn1 hn2).mono ?_
   rintro e w1 ⟨rfl, rfl⟩
   rw [HC.out]
   go_wp2_with fail
   go_ret2
   exact ⟨by rw [HV.out]; rfl, rfl⟩
  ·obtain ⟨k3, k4, k5, k6⟩ := okWithin_iff.1 hw
   obtain ⟨p, rfl⟩ := Int.eq_ofNat_of_zero_le k3
   obtain ⟨m, rfl⟩ := Int.eq_ofNat_of_zero_le k5
   have HV := Lib.hid (takeV_ok hk hw)
   have HC := Lib.hid (cutV_ok hw)
   clear hk hw
   go_enter Tryz.func141, Tryz.ntmps141
   go_wp2_with fail
   refine (rCut_any s p m _ hs hn1 hn2).mono ?_
   rintro e w1 ⟨rfl, rfl⟩
   rw [HC.out]
   have hl := extract_list s p m
   have hz : (s.extract p (p + m)).size = m := by
    rw [← ByteArray.size_data, ← Array.length_toList, hl]; simp; omega
   have HL := Lib.hid hl
   have HZ := Lib.hid hz
   clear hl hz
   rw [show ((p : Int)).toNat = p from rfl, show ((p : Int) + (m : Int)).toNat = p + m by omega]
   generalize ht : s.extract p (p + m) = t at HL HZ
   have HT := Lib.hid ht
   clear ht
   dsimp only
   go_wp2_with fail
   have hzt : t.size = m := HZ.out
   have hzt1 : m ≤ t.size := by omega
   clear hzt
   go_loop [6, 7, 10, 11] (fun _ _ v i => ∃ k : Nat, k ≤ m ∧ i = .int .i64 (k : Int) ∧ v = .int .i64 (val (t.data.toList.take k)) ∧ val (t.data.toList.take k) ≤ 281474976710655) (fun _ _ _ i => m - (intOf i).toNat)
   case atStart => exact ⟨0, Nat.zero_le _, rfl, rfl, by simp [val, valFrom]⟩
   case round =>
    obtain ⟨k, hkm, rfl, rfl, hv⟩ := hrel
    by_cases hlt : k < m
    ·have hkt : k < t.size := by omega
     have hw := take_wrap' t k hkt hv
     have hmono := val_take_le (t.data.toList) (k + 1)
     generalize hvv : val (t.data.toList.take (k + 1)) = v1 at hw hmono
     have HVV := Lib.hid hvv
     clear hvv
     generalize val (t.data.toList.take k) = v0 at hw hv
     have HM := Lib.hid hmono
     clear hmono
     by_cases hle : v1 ≤ 281474976710655
     ·have hg : decide ((281474976710655 : Int) < (v1 : Int)) = false := by simp; omega
      go_wp2_with fail
      go_roundw
      case rel => exact ⟨k + 1, by omega, by go_num, by rw [HVV.out, hw], by rw [HVV.out]; exact hle⟩
      case measure => simp [intOf]; omega
     ·have hg : decide ((281474976710655 : Int) < (v1 : Int)) = true := by simp; omega
      go_wp2_with fail
      go_ret2
      refine ⟨?_, rfl⟩
      have h3 := HM.out
      have h4 : ¬ val t.data.toList ≤ 281474976710655 := by omega
      rw [HV.out]
      simp only [Int.toNat_natCast]
      rw [← HL.out, takeN, takeE, if_neg h4, if_neg h4]
      rfl
    ·obtain rfl : k = m := by omega
     have hLL : t.data.toList.take k = t.data.toList := List.take_of_length_le (by have hz := HZ.out; rw [Array.length_toList]; show t.size ≤ k; omega)
     rw [hLL] at hv ⊢
     clear hLL
     go_wp2_with fail
     go_ret2
     refine ⟨?_, rfl⟩
     rw [HV.out]
     simp only [Int.toNat_natCast]
     rw [← HL.out, takeN, takeE, if_pos hv, if_pos hv]
     rfl
theorem restV_ok (h : okWithin s.size a 0 = true) : restV s a = (s.extract a.toNat s.size, 0) := by rw [restV, if_pos h]
theorem restV_no (h : okWithin s.size a 0 = false) : restV s a = (ByteArray.empty, 11) := by rw [restV, if_neg (by rw [h]; decide)]
theorem Cut_any (s : ByteArray) (at_ n : Int) (w : World) (aN aW aS : Addr) (hI : NInv w aN aW aS) (hs : s.size ≤ 9223372036854775807) (hn1 : -9223372036854775808 ≤ n) (hn2 : n ≤ 9223372036854775807) :
  Calls Tryz.prog 75 #[.string s, .int .i64 at_, .int .i64 n] w (Ret (.tuple #[.string (cutV s at_ n).1, .int .i64 (cutV s at_ n).2]) w) := by
 have hcs : okWithin s.size at_ n = false ∨ okWithin s.size at_ n = true := by cases okWithin s.size at_ n <;> simp
 rcases hcs with h | h
 ·rw [cutV_no h]; exact Cut_no s at_ n w aN aW aS hI hs hn1 hn2 h
 ·rw [cutV_ok h]; exact Cut_ok s at_ n w aN aW aS hI hs h
theorem Rest_any (s : ByteArray) (at_ : Int) (w : World) (aN aW aS : Addr) (hI : NInv w aN aW aS) (hs : s.size ≤ 9223372036854775807) :
  Calls Tryz.prog 174 #[.string s, .int .i64 at_] w (Ret (.tuple #[.string (restV s at_).1, .int .i64 (restV s at_).2]) w) := by
 have hcs : okWithin s.size at_ 0 = false ∨ okWithin s.size at_ 0 = true := by cases okWithin s.size at_ 0 <;> simp
 rcases hcs with h | h
 ·rw [restV_no h]; exact Rest_no s at_ w aN aW aS hI hs h
 ·rw [restV_ok h]; exact Rest_ok s at_ w aN aW aS hI hs h
theorem Take_any (s : ByteArray) (at_ n : Int) (w : World) (aN aW aS : Addr) (hI : NInv w aN aW aS) (hs : s.size ≤ 9223372036854775807) (hn1 : -9223372036854775808 ≤ n) (hn2 : n ≤ 9223372036854775807) :
  Calls Tryz.prog 173 #[.string s, .int .i64 at_, .int .i64 n] w (Ret (.tuple #[.int .i64 (takeV s at_ n).1, .int .i64 (takeV s at_ n).2]) w) := by
 have hck : okWidth n = false ∨ okWidth n = true := by cases okWidth n <;> simp
 have hcs : okWithin s.size at_ n = false ∨ okWithin s.size at_ n = true := by cases okWithin s.size at_ n <;> simp
 rcases hck with k | k
 ·rw [takeV_width k]; exact Take_width s at_ n w aN aW aS hI hs hn1 hn2 k
 ·rcases hcs with h | h
  ·rw [takeV_short k h]; exact Take_short s at_ n w aN aW aS hI hs k h
  ·rw [takeV_ok k h]; exact Take_ok s at_ n w aN aW aS hI hs k h
theorem okNum_iff : okNum n = true ↔ 0 ≤ n ∧ n ≤ 281474976710655 := by simp [okNum]
theorem Bytes_any (n wd : Int) (w : World) (aN aW aS : Addr) (hI : NInv w aN aW aS) :
  Calls Tryz.prog 132 #[.int .i64 n, .int .i64 wd] w (Ret (.tuple #[.string (bytesV n wd).1, .int .i64 (bytesV n wd).2]) w) := by
 have hcn : okNum n = false ∨ okNum n = true := by cases okNum n <;> simp
 have hcw : okWidth wd = false ∨ okWidth wd = true := by cases okWidth wd <;> simp
 rcases hcn with hn | hn
 ·have h := Bytes_N n wd w aN aW aS hI hn
  rcases hcw with k | k
  ·rw [k] at h; rw [bytesV_width k]; exact h
  ·rw [k] at h; rw [bytesV_num k (by rw [fits, hn]; rfl)]; exact h
 ·obtain ⟨n0, n1⟩ := okNum_iff.1 hn
  obtain ⟨p, rfl⟩ := Int.eq_ofNat_of_zero_le n0
  rcases hcw with k | k
  ·rw [bytesV_width k]
   by_cases h6 : 6 < wd
   ·exact Bytes_W1 p wd w aN aW aS hI hn h6 k
   ·refine Bytes_W2 p wd w aN aW aS hI hn ?_
    have := mt okWidth_iff.2 (by rw [k]; decide)
    omega
  ·obtain ⟨k1, k2⟩ := okWidth_iff.1 k
   obtain ⟨m, rfl⟩ := Int.eq_ofNat_of_zero_le (show 0 ≤ wd by omega)
   have hp : p ≤ 281474976710655 := by omega
   by_cases h6 : 6 < (m : Int)
   ·have hf : fits (p : Int) (m : Int) = true := by
     simp only [fits, hn, Bool.true_and, Int.toNat_natCast, decide_eq_true_eq]
     calc p < 256 ^ 6 := by omega
      _ ≤ 256 ^ m := Nat.pow_le_pow_right (by omega) (by omega)
    rw [bytesV_ok k hf]
    exact Bytes_ok1 p m w aN aW aS hI hn h6 (by omega) (by omega)
   ·by_cases hfit : p < 256 ^ m
    ·rw [bytesV_ok k (by simp only [fits, hn, Bool.true_and, Int.toNat_natCast, decide_eq_true_eq]; exact hfit)]
     exact Bytes_ok2 p m w aN aW aS hI hn (by omega) (by omega) (by omega) hfit
    ·rw [bytesV_num k (by simp only [fits, hn, Bool.true_and, Int.toNat_natCast, decide_eq_false_iff_not]; exact hfit)]
     exact Bytes_no2 p m w aN aW aS hI hn (by omega) (by omega) hfit
end Go.Proofs.YtmebjdbkngehiaaGreatDoor
