/-
  Package postriderref03: its functions' contracts. No condition.
-/
import Derived.Test.YtmoghgmbpkpcfaaGreatDoorMgK
namespace Go.Proofs.YtmoghgmbpkpcfaaGreatDoor
open Go.RowKit

theorem rwidth_any (n : Nat) (hn : n ≤ 281474976710655) (w : World) : Calls Tryz.prog 55 #[.int .i64 (n : Int)] w (Pure (.tuple #[.int .i64 (wOf n : Int), .int .i64 (moreOf n : Int)]) w) := by
  rcases wOf_cases n with ⟨a, b, c⟩ | ⟨a, a', b, c⟩ | ⟨a, a', b, c⟩ | ⟨a, a', b, c⟩ | ⟨a, b, c⟩
  · rw [b, c]
    clear b c
    have k1 : (n : Int) < 24 := by omega
    go_enter Tryz.func55, Tryz.ntmps55
    go_wp2_with fail
    go_ret2
    exact ⟨rfl, rfl⟩
  · rw [b, c]
    clear b c
    have k1 : ¬ (n : Int) < 24 := by omega
    have k2 : (n : Int) < 256 := by omega
    go_enter Tryz.func55, Tryz.ntmps55
    go_wp2_with fail
    go_ret2
    exact ⟨rfl, rfl⟩
  · rw [b, c]
    clear b c
    have k1 : ¬ (n : Int) < 24 := by omega
    have k2 : ¬ (n : Int) < 256 := by omega
    have k3 : (n : Int) < 65536 := by omega
    go_enter Tryz.func55, Tryz.ntmps55
    go_wp2_with fail
    go_ret2
    exact ⟨rfl, rfl⟩
  · rw [b, c]
    clear b c
    have k1 : ¬ (n : Int) < 24 := by omega
    have k2 : ¬ (n : Int) < 256 := by omega
    have k3 : ¬ (n : Int) < 65536 := by omega
    have k4 : (n : Int) < 4294967296 := by omega
    go_enter Tryz.func55, Tryz.ntmps55
    go_wp2_with fail
    go_ret2
    exact ⟨rfl, rfl⟩
  · rw [b, c]
    clear b c
    have k1 : ¬ (n : Int) < 24 := by omega
    have k2 : ¬ (n : Int) < 256 := by omega
    have k3 : ¬ (n : Int) < 65536 := by omega
    have k4 : ¬ (n : Int) < 4294967296 := by omega
    go_enter Tryz.func55, Tryz.ntmps55
    go_wp2_with fail
    go_ret2
    exact ⟨rfl, rfl⟩

theorem rmajor_any (m : Int) (w : World) : Calls Tryz.prog 54 #[.int .i64 m] w (Pure (.bool (majB m)) w) := by
  by_cases h0 : m = 0
  · subst h0
    go_enter Tryz.func54, Tryz.ntmps54
    go_wp2_with fail
    go_ret
    exact ⟨rfl, rfl⟩
  have e0 : (m == 0) = false := beq_eq_false_iff_ne.2 h0
  by_cases h2 : 2 ≤ m
  · by_cases h4 : m ≤ 4
    · have hm : majB m = true := majB_iff.2 (by omega)
      rw [hm]
      clear hm h0
      go_enter Tryz.func54, Tryz.ntmps54
      go_wp2_with fail
      go_ret
      exact ⟨rfl, rfl⟩
    · have hm : majB m = false := by
        rcases bool_cases (majB m) with k | k
        · exact k
        · have := majB_iff.1 k; omega
      rw [hm]
      clear hm h0
      go_enter Tryz.func54, Tryz.ntmps54
      go_wp2_with fail
      go_ret
      exact ⟨rfl, rfl⟩
  · have hm : majB m = false := by
      rcases bool_cases (majB m) with k | k
      · exact k
      · have := majB_iff.1 k; omega
    rw [hm]
    clear hm h0
    go_enter Tryz.func54, Tryz.ntmps54
    go_wp2_with fail
    go_ret
    exact ⟨rfl, rfl⟩

set_option maxRecDepth 100000 in
theorem rEncode_any (m n : Int) (w : World) : Calls Tryz.prog 35 #[.int .i64 m, .int .i64 n] w (Ret (.tuple #[.string (encV m n).1, .int .i64 (encV m n).2]) w) := by
  have HM := fun w' => rmajor_any m w'
  have HN := fun w' => rRight_any n w'
  rcases bool_cases (majB m) with hm | hm
  · rw [encV_major hm]
    rw [hm] at HM
    clear hm
    go_enter Tryz.func35, Tryz.ntmps35
    go_wp2_with fail
    refine (HM _).mono ?_
    rintro e w1 ⟨rfl, rfl⟩
    go_wp2_with fail
    go_ret2
    exact ⟨rfl, ext_refl _⟩
  rcases bool_cases (okNum n) with hn | hn
  · rw [encV_num hm hn]
    rw [hm] at HM
    rw [hn] at HN
    clear hm hn
    go_enter Tryz.func35, Tryz.ntmps35
    go_wp2_with fail
    refine (HM _).mono ?_
    rintro e w1 ⟨rfl, rfl⟩
    go_wp2_with fail
    refine (HN _).mono ?_
    rintro e w1 ⟨rfl, rfl⟩
    go_wp2_with fail
    go_ret2
    exact ⟨rfl, ext_refl _⟩
  · rw [encV_ok hm hn]
    rw [hm] at HM
    rw [hn] at HN
    obtain ⟨n0, n1⟩ := okNum_iff.1 hn
    have hm4 := majB_iff.1 hm
    obtain ⟨q, rfl⟩ := Int.eq_ofNat_of_zero_le n0
    obtain ⟨p, rfl⟩ := Int.eq_ofNat_of_zero_le (show 0 ≤ m by omega)
    rw [Int.toNat_natCast, Int.toNat_natCast]
    have hmo := moreOf_le q
    have HW := fun w' => rwidth_any q (by omega) w'
    have hy : 32 * p + moreOf q < 256 := by omega
    have hcv : ∀ W : World, (convert 40 9 (.slice (some ⟨W.heap.size, 0, none⟩) 1 1)).run Tryz.prog (W.alloc (.cells #[.int .u8 (32 * (p : Int) + (moreOf q : Int))] 5)) = .ok (.string ⟨#[UInt8.ofNat (32 * p + moreOf q)]⟩) (W.alloc (.cells #[.int .u8 (32 * (p : Int) + (moreOf q : Int))] 5)) := fun W => by
      have := convB (W.alloc (.cells #[.int .u8 ((32 * p + moreOf q : Nat) : Int)] 5)) W.heap.size (32 * p + moreOf q) hy (Blk.new_ _ _ _)
      rw [show ((32 * p + moreOf q : Nat) : Int) = 32 * (p : Int) + (moreOf q : Int) by omega] at this
      exact this
    have hp4 : p ≤ 4 := by omega
    clear hm hm4
    by_cases hw : wOf q = 0
    · have hL : (⟨(headL p q).toArray⟩ : ByteArray) = ⟨#[UInt8.ofNat (32 * p + moreOf q)]⟩ := by rw [headL, hw]; rfl
      rw [hL]
      rw [hw] at HW
      clear hL hw
      generalize UInt8.ofNat (32 * p + moreOf q) = u at hcv ⊢
      generalize moreOf q = mo at *
      have u1 : wrap64 (32 * (p : Int)) = 32 * (p : Int) := by unfold wrap64; omega
      have u2 : wrap64 (32 * (p : Int) + (mo : Int)) = 32 * (p : Int) + (mo : Int) := by unfold wrap64; omega
      have u3 : (32 * (p : Int) + (mo : Int)) % 256 = 32 * (p : Int) + (mo : Int) := by omega
      go_enter Tryz.func35, Tryz.ntmps35
      go_wp2_with fail
      refine (HM _).mono ?_
      rintro e w1 ⟨rfl, rfl⟩
      go_wp2_with fail
      refine (HN _).mono ?_
      rintro e w1 ⟨rfl, rfl⟩
      go_wp2_with fail
      refine (HW _).mono ?_
      rintro e w1 ⟨rfl, rfl⟩
      go_wp2_with fail
      go_ret2
      exact ⟨rfl, ext_new _ _⟩
    · have hwf := wOf_fits (by omega) hw
      have hw8 := wOf_le q
      have HB := fun w' => rBytes_any (q : Int) (wOf q : Int) w'
      have hby : bytesV (q : Int) (wOf q : Int) = (⟨(digits (wOf q) q).toArray⟩, 0) := by
        have := bytesV_ok (n := (q : Int)) (wd := (wOf q : Int)) (okWidth_iff.2 ⟨by omega, by omega⟩) (by simp only [fits, hn, Bool.true_and, Int.toNat_natCast, decide_eq_true_eq]; exact hwf)
        rw [this]; simp
      rw [hby] at HB
      have hL : (⟨(headL p q).toArray⟩ : ByteArray) = ⟨#[UInt8.ofNat (32 * p + moreOf q)]⟩ ++ ⟨(digits (wOf q) q).toArray⟩ := by
        apply ByteArray.ext; rw [ByteArray.data_append]; simp [headL]
      rw [hL]
      have hdl : (⟨(digits (wOf q) q).toArray⟩ : ByteArray).size = wOf q := by show (digits (wOf q) q).toArray.size = _; simp [digits_length]
      clear hL hby hn
      generalize (⟨(digits (wOf q) q).toArray⟩ : ByteArray) = ds at *
      generalize UInt8.ofNat (32 * p + moreOf q) = u at hcv ⊢
      generalize moreOf q = mo at *
      generalize wOf q = wd at *
      have hw0 : ((wd : Int) == 0) = false := beq_eq_false_iff_ne.2 (by omega)
      have hcat : ¬ (9223372036854775807 < 1 + ds.size) := by omega
      have u1 : wrap64 (32 * (p : Int)) = 32 * (p : Int) := by unfold wrap64; omega
      have u2 : wrap64 (32 * (p : Int) + (mo : Int)) = 32 * (p : Int) + (mo : Int) := by unfold wrap64; omega
      have u3 : (32 * (p : Int) + (mo : Int)) % 256 = 32 * (p : Int) + (mo : Int) := by omega
      have hw1 : ¬ ((wd : Int) = 0) := by omega
      clear hwf
      go_enter Tryz.func35, Tryz.ntmps35
      go_wp2_with fail
      refine (HM _).mono ?_
      rintro e w1 ⟨rfl, rfl⟩
      go_wp2_with fail
      refine (HN _).mono ?_
      rintro e w1 ⟨rfl, rfl⟩
      go_wp2_with fail
      refine (HW _).mono ?_
      rintro e w1 ⟨rfl, rfl⟩
      go_wp2_with fail
      refine (HB _).mono ?_
      rintro e w1 ⟨rfl, hb1⟩
      go_wp2_with fail
      go_ret2
      exact ⟨rfl, ext_trans (ext_new _ _) hb1⟩

end Go.Proofs.YtmoghgmbpkpcfaaGreatDoor
