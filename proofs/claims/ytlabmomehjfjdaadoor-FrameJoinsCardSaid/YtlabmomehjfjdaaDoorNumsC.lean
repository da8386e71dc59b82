/-
  Package nums: the walk of Take. Conditions: the listed variables hold three different errors of errors.New's make ('NInv').
-/
import Derived.Test.YtlabmomehjfjdaaDoorNumsB
import Derived.Test.YtlabmomehjfjdaaDoorNumsM
namespace Go.Proofs.YtlabmomehjfjdaaDoor
open Go.RowKit

theorem okWidth_iff {n : Int} : okWidth n = true ↔ 1 ≤ n ∧ n ≤ 8 := by simp [okWidth]

theorem Take_width (s : ByteArray) (at_ n : Int) (w : World) (aN aW aS : Addr) (hI : NInv w aN aW aS) (hs : s.size ≤ 9223372036854775807) (hn1 : -9223372036854775808 ≤ n) (hn2 : n ≤ 9223372036854775807) (hk : okWidth n = false) :
    Calls Tryd.prog 59 #[.string s, .int .i64 at_, .int .i64 n] w (Ret (.tuple #[.int .i64 0, .int .i64 2]) w) := by
  have HK := Lib.hid hk
  clear hk
  go_enter Tryd.func59, Tryd.ntmps59
  go_wp2_with fail
  refine (width_any n _ aW hI.cW).mono ?_
  rintro e w1 ⟨rfl, hb1⟩
  rw [HK.out]
  have hI1 := hI.below hb1
  go_wp2_with fail
  refine (within_any s at_ n _ aS hI1.cS hs hn1 hn2).mono ?_
  rintro e w2 ⟨rfl, hb2⟩
  go_wp2_with fail
  refine (first2_new _ _ _ _ _).mono ?_
  rintro e w3 ⟨rfl, hb3⟩
  simp only [firstErr, errOf, ErrV, Bool.false_eq_true, if_false]
  go_wp2_with fail
  have hb := ext_trans (ext_alloc (ext_trans hb1 hb2) _) hb3
  refine (eitheri_W 0 _ aN aW aS (hI.below hb)).mono ?_
  rintro e w4 ⟨rfl, rfl⟩
  go_wp2_with fail
  go_ret2
  exact ⟨rfl, hb⟩

theorem Take_short (s : ByteArray) (at_ n : Int) (w : World) (aN aW aS : Addr) (hI : NInv w aN aW aS) (hs : s.size ≤ 9223372036854775807) (hk : okWidth n = true) (hk' : okWithin s.size at_ n = false) :
    Calls Tryd.prog 59 #[.string s, .int .i64 at_, .int .i64 n] w (Ret (.tuple #[.int .i64 0, .int .i64 11]) w) := by
  obtain ⟨k1, k2⟩ := okWidth_iff.1 hk
  have HK := Lib.hid hk
  clear hk
  have HK' := Lib.hid hk'
  clear hk'
  go_enter Tryd.func59, Tryd.ntmps59
  go_wp2_with fail
  refine (width_any n _ aW hI.cW).mono ?_
  rintro e w1 ⟨rfl, hb1⟩
  rw [HK.out]
  have hI1 := hI.below hb1
  go_wp2_with fail
  refine (within_any s at_ n _ aS hI1.cS hs (by omega) (by omega)).mono ?_
  rintro e w2 ⟨rfl, hb2⟩
  rw [HK'.out]
  go_wp2_with fail
  refine (first2_new _ _ _ _ _).mono ?_
  rintro e w3 ⟨rfl, hb3⟩
  simp only [firstErr, errOf, ErrV, Bool.false_eq_true, if_false, if_true]
  go_wp2_with fail
  have hb := ext_trans (ext_alloc (ext_trans hb1 hb2) _) hb3
  refine (eitheri_S 0 _ aN aW aS (hI.below hb)).mono ?_
  rintro e w4 ⟨rfl, rfl⟩
  go_wp2_with fail
  go_ret2
  exact ⟨rfl, hb⟩

theorem take_succ_at (s : ByteArray) (p m k : Nat) (h : p + k < s.size) (hk : k < m) :
    ((s.data.toList.drop p).take m).take (k + 1) = ((s.data.toList.drop p).take m).take k ++ [s[p + k]] := by
  rw [List.take_take, List.take_take, Nat.min_eq_left (by omega), Nat.min_eq_left (by omega), List.take_succ_eq_append_getElem (by simp; omega)]
  simp
  rfl

theorem take_wrap (s : ByteArray) (p m k : Nat) (L : List UInt8) (hL : (s.data.toList.drop ((p : Int)).toNat).take ((m : Int)).toNat = L) (h : p + k < s.size) (hk : k < m) (hv : val (L.take k) ≤ 281474976710655) :
    wrap64 ((val (L.take k) : Int) * 256 + wrap64 (s[p + k].toNat : Int)) = ((val (L.take (k + 1)) : Nat) : Int) := by
  have h1 := take_succ_at s p m k h hk
  simp only [Int.toNat_natCast] at hL
  rw [hL] at h1
  rw [h1, val_snoc]
  have hb := s[p + k].toNat_lt
  rw [IntWalk.wrap64_in (s[p + k].toNat : Int) ⟨by omega, by omega⟩, IntWalk.wrap64_in _ ⟨by omega, by omega⟩]
  omega

/-- The number that stands there, and what is told. -/
def takeN (l : List UInt8) : Int := if val l ≤ 281474976710655 then (val l : Int) else 0
def takeE (l : List UInt8) : Int := if val l ≤ 281474976710655 then 0 else 10

theorem Take_ok (s : ByteArray) (at_ n : Int) (w : World) (aN aW aS : Addr) (hI : NInv w aN aW aS) (hs : s.size ≤ 9223372036854775807) (hk : okWidth n = true) (hk' : okWithin s.size at_ n = true) :
    Calls Tryd.prog 59 #[.string s, .int .i64 at_, .int .i64 n] w
      (Ret (.tuple #[.int .i64 (takeN ((s.data.toList.drop at_.toNat).take n.toNat)), .int .i64 (takeE ((s.data.toList.drop at_.toNat).take n.toNat))]) w) := by
  obtain ⟨k1, k2⟩ := okWidth_iff.1 hk
  obtain ⟨k3, k4, k5, k6⟩ := okWithin_iff.1 hk'
  obtain ⟨p, rfl⟩ := Int.eq_ofNat_of_zero_le k3
  obtain ⟨m, rfl⟩ := Int.eq_ofNat_of_zero_le k5
  have HK := Lib.hid hk
  clear hk
  have HK' := Lib.hid hk'
  clear hk'
  go_enter Tryd.func59, Tryd.ntmps59
  go_wp2_with fail
  refine (width_any m _ aW hI.cW).mono ?_
  rintro e w1 ⟨rfl, hb1⟩
  rw [HK.out]
  have hI1 := hI.below hb1
  go_wp2_with fail
  refine (within_any s p m _ aS hI1.cS hs (by omega) (by omega)).mono ?_
  rintro e w2 ⟨rfl, hb2⟩
  rw [HK'.out]
  go_wp2_with fail
  refine (first2_new _ _ _ _ _).mono ?_
  rintro e w3 ⟨rfl, hb3⟩
  simp only [firstErr, errOf, if_true]
  go_wp2_with fail
  have hb := ext_trans (ext_alloc (ext_trans hb1 hb2) _) hb3
  have hI3 := hI.below hb
  have hN := hI3.cN
  clear hI1 hb1 hb2 hb3
  generalize hL : (s.data.toList.drop ((p : Int)).toNat).take ((m : Int)).toNat = L
  have HL := Lib.hid hL
  clear hL
  go_loop [6, 7, 9, 10, 26] (fun _ _ v _ i => ∃ k : Nat, k ≤ m ∧ i = .int .i64 k ∧ v = .int .i64 (val (L.take k)) ∧ val (L.take k) ≤ 281474976710655) (fun _ _ _ _ i => m - (intOf i).toNat)
  case atStart => exact ⟨0, Nat.zero_le _, rfl, rfl, by simp [val, valFrom]⟩
  case round =>
    obtain ⟨k, hkm, rfl, rfl, hv⟩ := hrel
    by_cases hlt : k < m
    · have hps : p + k < s.size := by omega
      have hw := take_wrap s p m k L HL.out hps hlt hv
      have HW := Lib.hid hw
      clear hw
      go_wp2_with fail
      rw [HW.out]
      refine (Right_any _ _).mono ?_
      rintro e w4 ⟨rfl, rfl⟩
      by_cases hle : val (L.take (k + 1)) ≤ 281474976710655
      · have ho : okNum ((val (L.take (k + 1)) : Nat) : Int) = true := by simp [okNum]; omega
        rw [ho]
        clear ho
        go_wp2_with fail
        go_round
        case rel => exact ⟨k + 1, by omega, by go_num, rfl, hle⟩
        case measure => simp [intOf]; omega
      · have ho : okNum ((val (L.take (k + 1)) : Nat) : Int) = false := by simp [okNum]; omega
        rw [ho]
        clear ho
        go_wp2_with fail
        refine (eitheri_N 0 _ aN aW aS hI3).mono ?_
        rintro e w5 ⟨rfl, rfl⟩
        go_wp2_with fail
        go_ret2
        have := val_take_le L (k + 1)
        exact ⟨by (try rw [HL.out]); rw [takeN, takeE, if_neg (by omega), if_neg (by omega)]; rfl, hb⟩
    · obtain rfl : k = m := by omega
      have hLL : L.take k = L := List.take_of_length_le (by rw [← HL.out]; simp; omega)
      rw [hLL] at hv ⊢
      clear hLL
      go_wp2_with fail
      refine (eitheri_nil _ _ aN aW aS hI3).mono ?_
      rintro e w5 ⟨rfl, rfl⟩
      go_wp2_with fail
      go_ret2
      exact ⟨by (try rw [HL.out]); rw [takeN, takeE, if_pos hv, if_pos hv]; rfl, hb⟩

end Go.Proofs.YtlabmomehjfjdaaDoor
