/-
  Package postriderlaw01: the walks of the statements' own functions: each hands back true. Conditions: the listed variables hold three different errors of errors.New's make ('NInv').
-/
import Derived.Test.YtfnejgmgdhoanaaDoorNumsP
namespace Go.Proofs.YtfnejgmgdhoanaaDoor
open Go.RowKit

theorem sh1 : bytesV 258 3 = (⟨#[0, 1, 2]⟩, 0) := by kernel_rfl
theorem sh2 : takeV ⟨#[1, 2, 3]⟩ 1 2 = (515, 0) := by kernel_rfl
theorem sh3 : bytesV 256 1 = (ByteArray.empty, 10) := by kernel_rfl
theorem sh4 : takeV ⟨#[97]⟩ 0 2 = (0, 11) := by kernel_rfl
theorem sh5 : bytesV 0 9 = (ByteArray.empty, 2) := by kernel_rfl

theorem shown_any (w : World) (aN aW aS : Addr) (hI : NInv w aN aW aS) : Calls Tryd.prog 11 #[] w (Ret (.bool true) w) := by
  go_enter Tryd.func11, Tryd.ntmps11
  go_wp2_with fail
  refine (Bytes_any 258 3 _ aN aW aS hI).mono ?_
  rintro e w1 ⟨rfl, hb1⟩
  rw [sh1]
  go_wp2_with fail
  refine (Take_any ⟨#[1, 2, 3]⟩ 1 2 _ aN aW aS (hI.below hb1) (by decide) (by decide) (by decide)).mono ?_
  rintro e w2 ⟨rfl, hb2'⟩
  have hb2 := ext_trans hb1 hb2'
  clear hb1 hb2'
  rw [sh2]
  go_wp2_with fail
  refine (Bytes_any 256 1 _ aN aW aS (hI.below hb2)).mono ?_
  rintro e w3 ⟨rfl, hb3'⟩
  have hb3 := ext_trans hb2 hb3'
  clear hb2 hb3'
  rw [sh3]
  go_wp2_with fail
  refine (Take_any ⟨#[97]⟩ 0 2 _ aN aW aS (hI.below hb3) (by decide) (by decide) (by decide)).mono ?_
  rintro e w4 ⟨rfl, hb4'⟩
  have hb4 := ext_trans hb3 hb4'
  clear hb3 hb4'
  rw [sh4]
  go_wp2_with fail
  refine (Bytes_any 0 9 _ aN aW aS (hI.below hb4)).mono ?_
  rintro e w5 ⟨rfl, hb5'⟩
  have hb5 := ext_trans hb4 hb5'
  clear hb4 hb5'
  rw [sh5]
  go_wp2_with fail
  go_ret
  exact ⟨rfl, hb5⟩

theorem lcut_any (s : ByteArray) (w : World) (hs : s.size ≤ 9223372036854775807) : Calls Tryd.prog 12 #[.string s] w (Pure (.string (cutS s)) w) := by
  have e : s.extract 0 (min (s.size : Int) 100).toNat = cutS s := by rw [cutS, show (min (s.size : Int) 100).toNat = min s.size 100 by omega]
  have HE := Lib.hid e
  clear e
  go_enter Tryd.func12, Tryd.ntmps12
  go_wp2_with fail
  go_ret
  exact ⟨by rw [← HE.out]; rfl, rfl⟩

theorem NumsTells_law (n wd : Int) (s : ByteArray) (at_ : Int) (w : World) (aN aW aS : Addr) (hI : NInv w aN aW aS) (hs : s.size ≤ 9223372036854775807)
    (hw1 : -9223372036854775808 ≤ wd) (hw2 : wd ≤ 9223372036854775807) :
    Calls Tryd.prog 3 #[.int .i64 n, .int .i64 wd, .string s, .int .i64 at_] w (Ret (.bool true) w) := by
  go_enter Tryd.func3, Tryd.ntmps3
  go_wp2_with fail
  refine (shown_any _ aN aW aS hI).mono ?_
  rintro e w1 ⟨rfl, hb1⟩
  go_wp2_with fail
  refine (lcut_any s _ hs).mono ?_
  rintro e w2 ⟨rfl, rfl⟩
  have hz := cutS_size s
  generalize cutS s = c at hz
  go_wp2_with fail
  refine (Bytes_any n wd _ aN aW aS (hI.below hb1)).mono ?_
  rintro e w2 ⟨rfl, hb2'⟩
  have hb2 := ext_trans hb1 hb2'
  clear hb1 hb2'
  go_wp2_with fail
  refine (rBytes_any n wd _).mono ?_
  rintro e w3 ⟨rfl, hb3'⟩
  have hb3 := ext_trans hb2 hb3'
  clear hb2 hb3'
  generalize bytesV n wd = bv
  obtain ⟨b1, b2⟩ := bv
  go_wp2_with fail
  refine (Take_any c at_ wd _ aN aW aS (hI.below hb3) (by omega) hw1 hw2).mono ?_
  rintro e w4 ⟨rfl, hb4'⟩
  have hb4 := ext_trans hb3 hb4'
  clear hb3 hb4'
  go_wp2_with fail
  refine (rTake_any c at_ wd _ (by omega) hw1 hw2).mono ?_
  rintro e w5 ⟨rfl, rfl⟩
  generalize takeV c at_ wd = tv
  obtain ⟨t1, t2⟩ := tv
  go_wp2_with fail
  refine (Right_any n _).mono ?_
  rintro e w5 ⟨rfl, rfl⟩
  go_wp2_with fail
  refine (rRight_any n _).mono ?_
  rintro e w5 ⟨rfl, rfl⟩
  generalize okNum n = ok
  go_wp2_with fail
  go_ret
  exact ⟨rfl, hb4⟩

theorem NumsCuts_law (s : ByteArray) (at_ n : Int) (w : World) (aN aW aS : Addr) (hI : NInv w aN aW aS) (hs : s.size ≤ 9223372036854775807)
    (hw1 : -9223372036854775808 ≤ n) (hw2 : n ≤ 9223372036854775807) :
    Calls Tryd.prog 9 #[.string s, .int .i64 at_, .int .i64 n] w (Ret (.bool true) w) := by
  go_enter Tryd.func9, Tryd.ntmps9
  go_wp2_with fail
  refine (shown_any _ aN aW aS hI).mono ?_
  rintro e w1 ⟨rfl, hb1⟩
  go_wp2_with fail
  refine (lcut_any s _ hs).mono ?_
  rintro e w2 ⟨rfl, rfl⟩
  have hz := cutS_size s
  generalize cutS s = c at hz
  go_wp2_with fail
  refine (Cut_any c at_ n _ aN aW aS (hI.below hb1) (by omega) hw1 hw2).mono ?_
  rintro e w2 ⟨rfl, hb2'⟩
  have hb2 := ext_trans hb1 hb2'
  clear hb1 hb2'
  go_wp2_with fail
  refine (rCut_any c at_ n _ (by omega) hw1 hw2).mono ?_
  rintro e w3 ⟨rfl, rfl⟩
  generalize cutV c at_ n = cv
  obtain ⟨c1, c2⟩ := cv
  go_wp2_with fail
  refine (Rest_any c at_ _ aN aW aS (hI.below hb2) (by omega)).mono ?_
  rintro e w4 ⟨rfl, hb4'⟩
  have hb4 := ext_trans hb2 hb4'
  clear hb2 hb4'
  go_wp2_with fail
  refine (rRest_any c at_ _ (by omega)).mono ?_
  rintro e w5 ⟨rfl, rfl⟩
  generalize restV c at_ = rv
  obtain ⟨r1, r2⟩ := rv
  go_wp2_with fail
  go_ret
  exact ⟨rfl, hb4⟩

theorem NumsOrder_law (n m wd : Int) (w : World) (aN aW aS : Addr) (hI : NInv w aN aW aS) :
    Calls Tryd.prog 5 #[.int .i64 n, .int .i64 m, .int .i64 wd] w (Ret (.bool true) w) := by
  go_enter Tryd.func5, Tryd.ntmps5
  go_wp2_with fail
  refine (shown_any _ aN aW aS hI).mono ?_
  rintro e w1 ⟨rfl, hb1⟩
  go_wp2_with fail
  refine (Bytes_any n wd _ aN aW aS (hI.below hb1)).mono ?_
  rintro e w2 ⟨rfl, hb2'⟩
  have hb2 := ext_trans hb1 hb2'
  clear hb1 hb2'
  go_wp2_with fail
  refine (Bytes_any m wd _ aN aW aS (hI.below hb2)).mono ?_
  rintro e w3 ⟨rfl, hb3'⟩
  have hb3 := ext_trans hb2 hb3'
  clear hb2 hb3'
  rcases bytes_cases n wd with ⟨A, hA, hk, hf, hAl, hAs⟩ | ⟨E, hA, hE, _⟩
  · rw [hA]
    rcases bytes_cases m wd with ⟨B, hB, hk', hf', hBl, hBs⟩ | ⟨F, hB, hF, _⟩
    · rw [hB]
      obtain ⟨o1, o2⟩ := order hf hf' hAl hBl
      clear hA hB hAl hBl hf hf' hk hk'
      go_wp2_with fail
      go_ret
      exact ⟨rfl, hb3⟩
    · rw [hB]
      have hF' : (F == 0) = false := by simpa using hF
      clear hA hB hAl hf hk
      go_wp2_with fail
      go_ret
      exact ⟨rfl, hb3⟩
  · rw [hA]
    have hE' : (E == 0) = false := by simpa using hE
    rcases bytes_cases m wd with ⟨B, hB, hk', hf', hBl, hBs⟩ | ⟨F, hB, hF, _⟩
    · rw [hB]
      clear hA hB hBl hf' hk'
      go_wp2_with fail
      go_ret
      exact ⟨rfl, hb3⟩
    · rw [hB]
      have hF' : (F == 0) = false := by simpa using hF
      clear hA hB
      go_wp2_with fail
      go_ret
      exact ⟨rfl, hb3⟩

theorem NumsWider_law (n wd : Int) (w : World) (aN aW aS : Addr) (hI : NInv w aN aW aS) :
    Calls Tryd.prog 6 #[.int .i64 n, .int .i64 wd] w (Ret (.bool true) w) := by
  go_enter Tryd.func6, Tryd.ntmps6
  go_wp2_with fail
  refine (shown_any _ aN aW aS hI).mono ?_
  rintro e w1 ⟨rfl, hb1⟩
  go_wp2_with fail
  refine (Bytes_any n wd _ aN aW aS (hI.below hb1)).mono ?_
  rintro e w2 ⟨rfl, hb2'⟩
  have hb2 := ext_trans hb1 hb2'
  clear hb1 hb2'
  rcases bytes_cases n wd with ⟨A, hA, hk, hf, hAl, hAs⟩ | ⟨E, hA, hE, _⟩
  · rw [hA]
    obtain ⟨k1, k2⟩ := okWidth_iff.1 hk
    by_cases h7 : wd ≤ 7
    · have hW := Lib.hid (wider hk h7 hf hAl)
      clear hA hAl hf hk
      go_wp2_with fail
      refine (Bytes_any n (wd + 1) _ aN aW aS (hI.below hb2)).mono ?_
      rintro e w3 ⟨rfl, hb3'⟩
      have hb3 := ext_trans hb2 hb3'
      clear hb2 hb3'
      rw [hW.out]
      go_wp2_with fail
      go_ret
      exact ⟨rfl, hb3⟩
    · clear hA hAl hf hk
      go_wp2_with fail
      go_ret
      exact ⟨rfl, hb2⟩
  · rw [hA]
    have hE' : (E == 0) = false := by simpa using hE
    clear hA
    go_wp2_with fail
    go_ret
    exact ⟨rfl, hb2⟩

theorem NumsParts_law (s : ByteArray) (at_ : Int) (w : World) (aN aW aS : Addr) (hI : NInv w aN aW aS) (hs : s.size ≤ 9223372036854775807)
    (hw1 : -9223372036854775808 ≤ at_) (hw2 : at_ ≤ 9223372036854775807) :
    Calls Tryd.prog 10 #[.string s, .int .i64 at_] w (Ret (.bool true) w) := by
  go_enter Tryd.func10, Tryd.ntmps10
  go_wp2_with fail
  refine (shown_any _ aN aW aS hI).mono ?_
  rintro e w1 ⟨rfl, hb1⟩
  go_wp2_with fail
  refine (lcut_any s _ hs).mono ?_
  rintro e w2 ⟨rfl, rfl⟩
  have hz := cutS_size s
  generalize cutS s = c at hz
  go_wp2_with fail
  refine (Cut_any c 0 at_ _ aN aW aS (hI.below hb1) (by omega) hw1 hw2).mono ?_
  rintro e w2 ⟨rfl, hb2'⟩
  have hb2 := ext_trans hb1 hb2'
  clear hb1 hb2'
  go_wp2_with fail
  refine (Rest_any c at_ _ aN aW aS (hI.below hb2) (by omega)).mono ?_
  rintro e w4 ⟨rfl, hb4'⟩
  have hb4 := ext_trans hb2 hb4'
  clear hb2 hb4'
  rcases parts_cases c at_ with ⟨A, B, hA, hB, hAs, hAB⟩ | ⟨hA, hB⟩
  · rw [hA, hB]
    have hz1 : A.size + B.size ≤ 100 := by rw [← ByteArray.size_append, hAB]; exact hz
    clear hA hB
    go_wp2_with fail
    go_ret
    exact ⟨rfl, hb4⟩
  · rw [hA, hB]
    clear hA hB
    go_wp2_with fail
    go_ret
    exact ⟨rfl, hb4⟩

theorem NumsFits_law (n wd : Int) (w : World) (aN aW aS : Addr) (hI : NInv w aN aW aS) :
    Calls Tryd.prog 8 #[.int .i64 n, .int .i64 wd] w (Ret (.bool true) w) := by
  have h8 := fits8 n
  go_enter Tryd.func8, Tryd.ntmps8
  go_wp2_with fail
  refine (shown_any _ aN aW aS hI).mono ?_
  rintro e w1 ⟨rfl, hb1⟩
  go_wp2_with fail
  refine (Bytes_any n 8 _ aN aW aS (hI.below hb1)).mono ?_
  rintro e w2 ⟨rfl, hb2'⟩
  have hb2 := ext_trans hb1 hb2'
  clear hb1 hb2'
  generalize bytesV n 8 = b8 at h8
  obtain ⟨x8, e8⟩ := b8
  go_wp2_with fail
  refine (Bytes_any n wd _ aN aW aS (hI.below hb2)).mono ?_
  rintro e w3 ⟨rfl, hb3'⟩
  have hb3 := ext_trans hb2 hb3'
  clear hb2 hb3'
  by_cases h16 : 1 ≤ wd ∧ wd ≤ 6
  · obtain ⟨k1, k2⟩ := h16
    have h6 := fits6 (n := n) k1 k2
    generalize bytesV n wd = bw at h6
    obtain ⟨xw, ew⟩ := bw
    have H6 := Lib.hid h6
    have H8 := Lib.hid h8
    clear h6 h8
    obtain ⟨m, rfl⟩ := Int.eq_ofNat_of_zero_le (show 0 ≤ wd by omega)
    go_wp2_with fail
    go_loop [10, 11] (fun v i => ∃ k : Nat, k ≤ m ∧ i = .int .i64 (k : Int) ∧ v = .int .i64 ((256 ^ k : Nat) : Int)) (fun _ i => m - (intOf i).toNat)
    case atStart => exact ⟨0, Nat.zero_le _, rfl, rfl⟩
    case round =>
      obtain ⟨k, hkm, rfl, rfl⟩ := hrel
      by_cases hlt : k < m
      · have hq : 256 ^ (k + 1) ≤ 281474976710656 := Nat.le_trans (Nat.pow_le_pow_right (by omega) (show k + 1 ≤ 6 by omega)) (by decide)
        have hq2 : 256 ^ (k + 1) = 256 * 256 ^ k := by rw [Nat.pow_succ, Nat.mul_comm]
        generalize h1 : 256 ^ (k + 1) = q1 at hq hq2
        have HQ1 := Lib.hid h1
        clear h1
        generalize 256 ^ k = q0 at hq2
        have hle : 256 * q0 ≤ 281474976710656 := by omega
        have HQ2 := Lib.hid hq2
        clear hq2
        go_wp2_with fail
        go_round
        case rel => exact ⟨k + 1, by omega, by go_num, by rw [HQ1.out, HQ2.out]; rfl⟩
        case measure => simp [intOf]; omega
      · obtain rfl : k = m := by omega
        have h6 := H6.out
        have h8 := H8.out
        simp only [Int.toNat_natCast] at h6
        have h6' : ∀ q : Nat, q = 256 ^ k → (ew == 0) = (decide (0 ≤ n) && decide (n < (q : Int))) := by rintro q rfl; exact h6
        obtain ⟨q, hq⟩ : ∃ q : Nat, q = 256 ^ k := ⟨_, rfl⟩
        have h6'' := h6' q hq
        clear h6 h6'
        simp only [← hq]
        clear hq
        have hok := bool_cases (okNum n)
        go_wp2_with fail
        refine (Right_any n _).mono ?_
        rintro e w4 ⟨rfl, rfl⟩
        by_cases n0 : 0 ≤ n
        · go_wp2_with fail
          go_ret
          exact ⟨rfl, hb3⟩
        · go_wp2_with fail
          go_ret
          exact ⟨rfl, hb3⟩
  · by_cases h1 : wd < 1
    · go_wp2_with fail
      refine (Right_any n _).mono ?_
      rintro e w4 ⟨rfl, rfl⟩
      go_wp2_with fail
      go_ret
      exact ⟨rfl, hb3⟩
    · have h6 : 6 < wd := by omega
      go_wp2_with fail
      refine (Right_any n _).mono ?_
      rintro e w4 ⟨rfl, rfl⟩
      go_wp2_with fail
      go_ret
      exact ⟨rfl, hb3⟩

theorem NumsHalves_law (s : ByteArray) (at_ a b : Int) (w : World) (aN aW aS : Addr) (hI : NInv w aN aW aS) (hs : s.size ≤ 9223372036854775807) :
    Calls Tryd.prog 7 #[.string s, .int .i64 at_, .int .i64 a, .int .i64 b] w (Ret (.bool true) w) := by
  by_cases hr : a < 1 ∨ b < 1 ∨ 5 < a ∨ 5 < b ∨ 6 < a + b
  · go_enter Tryd.func7, Tryd.ntmps7
    go_wp2_with fail
    refine (shown_any _ aN aW aS hI).mono ?_
    rintro e w1 ⟨rfl, hb1⟩
    go_wp2_with fail
    refine (lcut_any s _ hs).mono ?_
    rintro e w2 ⟨rfl, rfl⟩
    generalize cutS s = c
    by_cases g1 : a < 1
    · go_wp2_with fail
      go_ret
      exact ⟨rfl, hb1⟩
    · by_cases g2 : b < 1
      · go_wp2_with fail
        go_ret
        exact ⟨rfl, hb1⟩
      · by_cases g3 : 5 < a
        · go_wp2_with fail
          go_ret
          exact ⟨rfl, hb1⟩
        · by_cases g4 : 5 < b
          · go_wp2_with fail
            go_ret
            exact ⟨rfl, hb1⟩
          · have g5 : 6 < a + b := by omega
            clear hr
            go_wp2_with fail
            go_ret
            exact ⟨rfl, hb1⟩
  · have ha : 1 ≤ a := by omega
    have hb : 1 ≤ b := by omega
    have ha5 : a ≤ 5 := by omega
    have hb5 : b ≤ 5 := by omega
    have hab : a + b ≤ 6 := by omega
    clear hr
    obtain ⟨m', rfl⟩ := Int.eq_ofNat_of_zero_le (show 0 ≤ b by omega)
    go_enter Tryd.func7, Tryd.ntmps7
    go_wp2_with fail
    refine (shown_any _ aN aW aS hI).mono ?_
    rintro e w1 ⟨rfl, hb1⟩
    go_wp2_with fail
    refine (lcut_any s _ hs).mono ?_
    rintro e w2 ⟨rfl, rfl⟩
    have hz := cutS_size s
    generalize cutS s = c at hz
    go_wp2_with fail
    refine (Take_any c at_ (a + m') _ aN aW aS (hI.below hb1) (by omega) (by omega) (by omega)).mono ?_
    rintro e w2 ⟨rfl, hb2'⟩
    have hb2 := ext_trans hb1 hb2'
    clear hb1 hb2'
    go_wp2_with fail
    refine (Take_any c at_ a _ aN aW aS (hI.below hb2) (by omega) (by omega) (by omega)).mono ?_
    rintro e w3 ⟨rfl, hb3'⟩
    have hb3 := ext_trans hb2 hb3'
    clear hb2 hb3'
    rcases take_cases c at_ (a + m') with ⟨l, hl, hn, hT, hv, hk, hw⟩ | ⟨E, hT, hE⟩
    · rw [hT]
      obtain ⟨m, k, hM, hK, hval, p0, p1⟩ := halves ha hb ha5 hb5 hl hn hv hw
      rw [hM]
      have HK := Lib.hid hK
      simp only [Int.toNat_natCast] at hval
      have HVAL := Lib.hid hval
      clear hM hK hval hl hn hT hk hw
      go_wp2_with fail
      refine (Take_any c (at_ + a) m' _ aN aW aS (hI.below hb3) (by omega) (by omega) (by omega)).mono ?_
      rintro e w4 ⟨rfl, hb4'⟩
      have hb4 := ext_trans hb3 hb4'
      clear hb3 hb4'
      rw [HK.out]
      go_wp2_with fail
      go_loop [12, 16] (fun v i => ∃ j : Nat, j ≤ m' ∧ i = .int .i64 (j : Int) ∧ v = .int .i64 ((m * 256 ^ j : Nat) : Int)) (fun _ i => m' - (intOf i).toNat)
      case atStart => exact ⟨0, Nat.zero_le _, rfl, by simp⟩
      case round =>
        obtain ⟨j, hj, rfl, rfl⟩ := hrel
        by_cases hlt : j < m'
        · have hq : m * 256 ^ (j + 1) ≤ 281474976710655 := by
            have h1 : 256 ^ (j + 1) ≤ 256 ^ m' := Nat.pow_le_pow_right (by omega) (by omega)
            have h2 := Nat.mul_le_mul_left m h1
            have h3 := HVAL.out
            omega
          have hq2 : m * 256 ^ (j + 1) = 256 * (m * 256 ^ j) := by rw [Nat.pow_succ, ← Nat.mul_assoc, Nat.mul_comm]
          generalize h1 : m * 256 ^ (j + 1) = q1 at hq hq2
          have HQ1 := Lib.hid h1
          clear h1
          generalize m * 256 ^ j = q0 at hq2
          have hle : 256 * q0 ≤ 281474976710655 := by omega
          have HQ2 := Lib.hid hq2
          clear hq2
          go_wp2_with fail
          go_round
          case rel => exact ⟨j + 1, by omega, by go_num, by rw [HQ1.out, HQ2.out]; rfl⟩
          case measure => simp [intOf]; omega
        · obtain rfl : j = m' := by omega
          have hval := HVAL.out
          generalize m * 256 ^ j = q at hval
          generalize val l = vl at hv hval
          subst hval
          go_wp2_with fail
          go_ret
          exact ⟨rfl, hb4⟩
    · rw [hT]
      have hE' : (E == 0) = false := by simpa using hE
      generalize takeV c at_ a = tv
      obtain ⟨t1, t2⟩ := tv
      clear hT
      go_wp2_with fail
      go_ret
      exact ⟨rfl, hb3⟩

theorem NumsBack_law (n wd : Int) (s t : ByteArray) (w : World) (aN aW aS : Addr) (hI : NInv w aN aW aS) (hs : s.size ≤ 9223372036854775807) (ht : t.size ≤ 9223372036854775807)
    (hw1 : -9223372036854775808 ≤ wd) (hw2 : wd ≤ 9223372036854775807) :
    Calls Tryd.prog 4 #[.int .i64 n, .int .i64 wd, .string s, .string t] w (Ret (.bool true) w) := by
  go_enter Tryd.func4, Tryd.ntmps4
  go_wp2_with fail
  refine (shown_any _ aN aW aS hI).mono ?_
  rintro e w1 ⟨rfl, hb1⟩
  go_wp2_with fail
  refine (lcut_any s _ hs).mono ?_
  rintro e w2 ⟨rfl, rfl⟩
  have hzs := cutS_size s
  generalize cutS s = c at hzs
  go_wp2_with fail
  refine (lcut_any t _ ht).mono ?_
  rintro e w2 ⟨rfl, rfl⟩
  have hzt := cutS_size t
  generalize cutS t = d at hzt
  go_wp2_with fail
  refine (Bytes_any n wd _ aN aW aS (hI.below hb1)).mono ?_
  rintro e w2 ⟨rfl, hb2'⟩
  have hb2 := ext_trans hb1 hb2'
  clear hb1 hb2'
  have hza := bytesV_size n wd
  have hzz : (c ++ (bytesV n wd).1 ++ d).size ≤ 300 := by simp only [ByteArray.size_append]; omega
  have hzy : (c ++ (bytesV n wd).1).size ≤ 200 := by simp only [ByteArray.size_append]; omega
  have hb1 : (bytesV n wd).2 = 0 → takeV (c ++ (bytesV n wd).1 ++ d) c.size wd = (n, 0) ∧ ((bytesV n wd).1.size : Int) = wd := by
    rcases bytes_cases n wd with ⟨A, hA, hk, hf, hAl, hAs⟩ | ⟨E, hA, hE, _⟩
    · rw [hA]; exact fun _ => ⟨back1 hk hf hAl, hAs⟩
    · rw [hA]; exact fun h => absurd h hE
  have HB1 := Lib.hid hb1
  clear hb1
  generalize bytesV n wd = bv at HB1 hza hzz hzy
  obtain ⟨A, E⟩ := bv
  dsimp only at HB1 hza hzz hzy
  have hsz1 : c.size + A.size ≤ 9223372036854775807 := by omega
  have hsz2 : (c ++ A).size + d.size ≤ 9223372036854775807 := by omega
  go_wp2_with fail
  refine (Take_any (c ++ A ++ d) c.size wd _ aN aW aS (hI.below hb2) (by omega) hw1 hw2).mono ?_
  rintro e w3 ⟨rfl, hb3'⟩
  have hb3 := ext_trans hb2 hb3'
  clear hb2 hb3'
  by_cases hE : E = 0
  · subst hE
    obtain ⟨hT, hAs⟩ := HB1.out rfl
    rw [hT]
    clear hT HB1
    go_wp2_with fail
    refine (Take_any c 0 wd _ aN aW aS (hI.below hb3) (by omega) hw1 hw2).mono ?_
    rintro e w4 ⟨rfl, hb4'⟩
    have hb4 := ext_trans hb3 hb4'
    clear hb3 hb4'
    go_wp2_with fail
    refine (Bytes_any (takeV c 0 wd).1 wd _ aN aW aS (hI.below hb4)).mono ?_
    rintro e w5 ⟨rfl, hb5'⟩
    have hb5 := ext_trans hb4 hb5'
    clear hb4 hb5'
    rcases take_cases c 0 wd with ⟨l, hl, hn, hT, hv, hk, hw⟩ | ⟨F, hT, hF⟩
    · have hB := back2 hl hn hv hk
      obtain ⟨k1, k2⟩ := okWidth_iff.1 hk
      obtain ⟨k3, k4, k5, k6⟩ := okWithin_iff.1 hw
      obtain ⟨m, rfl⟩ := Int.eq_ofNat_of_zero_le (show 0 ≤ wd by omega)
      rw [hT]
      dsimp only
      rw [hB]
      simp only [Int.toNat_natCast]
      have hex : (c.extract 0 m).size = m := by rw [ByteArray.size_extract]; omega
      have hmc : m ≤ c.size := by omega
      generalize val l = vl
      clear hB hT hl hn hv hk hw
      go_wp2_with fail
      go_ret
      exact ⟨rfl, hb5⟩
    · rw [hT]
      dsimp only
      have hF' : (F == 0) = false := by simpa using hF
      clear hT
      generalize bytesV 0 wd = bz
      obtain ⟨z1, z2⟩ := bz
      go_wp2_with fail
      go_ret
      exact ⟨rfl, hb5⟩
  · have hE' : (E == 0) = false := by simpa using hE
    generalize takeV (c ++ A ++ d) c.size wd = tv
    obtain ⟨t1, t2⟩ := tv
    clear HB1
    go_wp2_with fail
    refine (Take_any c 0 wd _ aN aW aS (hI.below hb3) (by omega) hw1 hw2).mono ?_
    rintro e w4 ⟨rfl, hb4'⟩
    have hb4 := ext_trans hb3 hb4'
    clear hb3 hb4'
    go_wp2_with fail
    refine (Bytes_any (takeV c 0 wd).1 wd _ aN aW aS (hI.below hb4)).mono ?_
    rintro e w5 ⟨rfl, hb5'⟩
    have hb5 := ext_trans hb4 hb5'
    clear hb4 hb5'
    rcases take_cases c 0 wd with ⟨l, hl, hn, hT, hv, hk, hw⟩ | ⟨F, hT, hF⟩
    · have hB := back2 hl hn hv hk
      obtain ⟨k1, k2⟩ := okWidth_iff.1 hk
      obtain ⟨k3, k4, k5, k6⟩ := okWithin_iff.1 hw
      obtain ⟨m, rfl⟩ := Int.eq_ofNat_of_zero_le (show 0 ≤ wd by omega)
      rw [hT]
      dsimp only
      rw [hB]
      simp only [Int.toNat_natCast]
      have hex : (c.extract 0 m).size = m := by rw [ByteArray.size_extract]; omega
      have hmc : m ≤ c.size := by omega
      generalize val l = vl
      clear hB hT hl hn hv hk hw
      go_wp2_with fail
      go_ret
      exact ⟨rfl, hb5⟩
    · rw [hT]
      dsimp only
      have hF' : (F == 0) = false := by simpa using hF
      clear hT
      generalize bytesV 0 wd = bz
      obtain ⟨z1, z2⟩ := bz
      go_wp2_with fail
      go_ret
      exact ⟨rfl, hb5⟩

end Go.Proofs.YtfnejgmgdhoanaaDoor
