/-
  Package postriderlaw13: the walk of the statement SignsTurns: it hands back true. Conditions: the listed variables hold different errors of errors.New's make ('GInv').
-/
import Derived.Test.YtinflolpcemnhaaDoorSignsB2
namespace Go.Proofs.YtinflolpcemnhaaDoor
open Go.RowKit

def umOK (n : Nat) : Bool := isInN n 127 && ((n &&& 32) == 0) && ((n &&& 64) == 0)
def dmN (n : Nat) : Bool → Nat
  | false => n
  | true => n ||| 8
theorem tchk1 : (List.range 128).all (fun n => !umOK n || (isInN (n &&& 23) 23 && (dmN (n &&& 23) (!((n &&& 8) == 0)) == n))) = true := by kernel_rfl
theorem tchk2 : (List.range 24).all (fun n => !isInN n 23 || [false, true].all fun c => umOK (dmN n c) && ((dmN n c &&& 23) == n)) = true := by kernel_rfl

theorem MarkUp_val {n : Nat} (h : umOK n = true) : toldV (gam (n : Int)) (upmE (n : Int)) = ((n &&& 23 : Nat) : Int) ∧ codeIx (upmE (n : Int)) = 0 := by
  rw [umOK, Bool.and_eq_true, Bool.and_eq_true] at h
  obtain ⟨⟨h1, h2⟩, h3⟩ := h
  have hin : n &&& 127 = n := by rw [isInN, beq_iff_eq] at h1; exact h1
  have hle : n ≤ 127 := by rw [← hin]; exact Nat.and_le_right
  have hn : n < 2 ^ 62 := by omega
  have c1 : isInB (n : Int) 127 = true := (isIn_nat n 127 hn (by decide)).trans h1
  have c2 : (bits .and .i64 (n : Int) 32 != 0) = !((n &&& 32) == 0) := bitT n 32 hn (by decide)
  have c3 : (bits .and .i64 (n : Int) 64 != 0) = !((n &&& 64) == 0) := bitT n 64 hn (by decide)
  rw [h2] at c2
  rw [h3] at c3
  have e : upmE (n : Int) = none := by rw [upmE, c1, c2, c3]; rfl
  rw [e]
  exact ⟨gam_nat n hn, rfl⟩

theorem MarkUp_cases (f : Int) (hf : f ≤ 9223372036854775807) :
    (∃ n : Nat, f = n ∧ n ≤ 127 ∧ umOK n = true ∧ toldV (gam f) (upmE f) = ((n &&& 23 : Nat) : Int) ∧ codeIx (upmE f) = 0) ∨ (∃ E : Int, (E == 0) = false ∧ toldV (gam f) (upmE f) = 0 ∧ codeIx (upmE f) = E) := by
  rcases bool_cases (isInB f 127) with h1 | h1
  · have e : upmE f = some 0 := by rw [upmE, h1]; rfl
    rw [e]; exact .inr ⟨2, rfl, rfl, rfl⟩
  rcases bool_cases (bits .and .i64 f 32 != 0) with h2 | h2
  rotate_left
  · have e : upmE f = some 5 := by rw [upmE, h1, h2]; rfl
    rw [e]; exact .inr ⟨134, rfl, rfl, rfl⟩
  rcases bool_cases (bits .and .i64 f 64 != 0) with h3 | h3
  rotate_left
  · have e : upmE f = some 6 := by rw [upmE, h1, h2, h3]; rfl
    rw [e]; exact .inr ⟨135, rfl, rfl, rfl⟩
  obtain ⟨n, rfl, k1, k2⟩ := isIn_cases f 127 hf (by decide) h1
  have hn : n < 2 ^ 62 := by omega
  have c2 : (bits .and .i64 (n : Int) 32 != 0) = !((n &&& 32) == 0) := bitT n 32 hn (by decide)
  have c3 : (bits .and .i64 (n : Int) 64 != 0) = !((n &&& 64) == 0) := bitT n 64 hn (by decide)
  rw [c2] at h2
  rw [c3] at h3
  have hu : umOK n = true := by
    rw [umOK, show isInN n 127 = true by rw [isInN, k1]; simp, show ((n &&& 32) == 0) = true by simpa using h2, show ((n &&& 64) == 0) = true by simpa using h3]
    rfl
  obtain ⟨v1, v2⟩ := MarkUp_val hu
  exact .inl ⟨n, rfl, k2, hu, v1, v2⟩

/-- MarkDown's value. -/
def dmV (f : Int) : Bool → Int
  | true => bits .or .i64 (gam f) 8
  | false => gam f
theorem MarkDown_val {n : Nat} (c : Bool) (h : isInN n 23 = true) : toldV (dmV (n : Int) c) (dnmE (n : Int)) = ((dmN n c : Nat) : Int) ∧ codeIx (dnmE (n : Int)) = 0 := by
  have hin : n &&& 23 = n := by rw [isInN, beq_iff_eq] at h; exact h
  have hle : n ≤ 23 := by rw [← hin]; exact Nat.and_le_right
  have hn : n < 2 ^ 62 := by omega
  have c1 : isInB (n : Int) 23 = true := (isIn_nat n 23 hn (by decide)).trans h
  have e : dnmE (n : Int) = none := by rw [dnmE, c1]; rfl
  have hg := gam_nat n hn
  rw [hin] at hg
  have ho : bits .or .i64 (n : Int) 8 = ((n ||| 8 : Nat) : Int) := orN n 8 hn (by decide)
  rw [e]
  refine ⟨?_, rfl⟩
  cases c
  · exact hg
  · show bits .or .i64 (gam (n : Int)) 8 = _
    rw [hg, ho]; rfl
theorem MarkDown_cases (f : Int) (c : Bool) (hf : f ≤ 9223372036854775807) :
    (∃ n : Nat, f = n ∧ n ≤ 23 ∧ isInN n 23 = true ∧ toldV (dmV f c) (dnmE f) = ((dmN n c : Nat) : Int) ∧ codeIx (dnmE f) = 0) ∨ (∃ E : Int, (E == 0) = false ∧ toldV (dmV f c) (dnmE f) = 0 ∧ codeIx (dnmE f) = E) := by
  rcases bool_cases (isInB f 23) with h1 | h1
  · have e : dnmE f = some 0 := by rw [dnmE, h1]; rfl
    rw [e]; exact .inr ⟨2, rfl, rfl, rfl⟩
  obtain ⟨n, rfl, k1, k2⟩ := isIn_cases f 23 hf (by decide) h1
  have hi : isInN n 23 = true := by rw [isInN, k1]; simp
  obtain ⟨v1, v2⟩ := MarkDown_val c hi
  exact .inl ⟨n, rfl, k2, hi, v1, v2⟩
theorem MarkDown_any (f : Int) (c : Bool) (w : World) (A : Nat → Addr) (h : GInv w A) :
    Calls Tryd.prog 21 #[.int .i64 f, .bool c] w (Ret (.tuple #[.int .i64 (toldV (dmV f c) (dnmE f)), .int .i64 (codeIx (dnmE f))]) w) := by
  cases c
  · exact MarkDown_no f w A h
  · exact MarkDown_yes f w A h

theorem turn1 {n : Nat} (h : umOK n = true) : isInN (n &&& 23) 23 = true ∧ dmN (n &&& 23) (!((n &&& 8) == 0)) = n := by
  have hin : n &&& 127 = n := by
    rw [umOK, Bool.and_eq_true, Bool.and_eq_true, isInN, beq_iff_eq] at h; exact h.1.1
  have hle : n ≤ 127 := by rw [← hin]; exact Nat.and_le_right
  have hk := List.all_eq_true.1 tchk1 n (List.mem_range.2 (by omega))
  rw [h, Bool.not_true, Bool.false_or, Bool.and_eq_true, beq_iff_eq] at hk
  exact hk
theorem turn2 {n : Nat} (h : isInN n 23 = true) (c : Bool) : umOK (dmN n c) = true ∧ (dmN n c &&& 23) = n := by
  have hin : n &&& 23 = n := by rw [isInN, beq_iff_eq] at h; exact h
  have hle : n ≤ 23 := by rw [← hin]; exact Nat.and_le_right
  have hk := List.all_eq_true.1 tchk2 n (List.mem_range.2 (by omega))
  rw [h, Bool.not_true, Bool.false_or] at hk
  have hc := List.all_eq_true.1 hk c (by cases c <;> simp)
  rw [Bool.and_eq_true, beq_iff_eq] at hc
  exact hc

theorem mil_sec (n : Int) (h0 : 0 ≤ n) (h1 : n ≤ 281474976710) : toldV ((n * 1000).tdiv 1000) (secE (n * 1000)) = n ∧ codeIx (secE (n * 1000)) = 0 ∧ okNum (n * 1000) = true := by
  have hok : okNum (n * 1000) = true := by simp [okNum]; omega
  have hd : (n * 1000).tdiv 1000 = n := by rw [Int.tdiv_eq_ediv_of_nonneg (by omega)]; omega
  have hm : (n * 1000).tmod 1000 = 0 := by rw [Int.tmod_eq_emod_of_nonneg (by omega)]; omega
  have e : secE (n * 1000) = none := by rw [secE, hok, hm]; rfl
  rw [e]
  exact ⟨hd, rfl, hok⟩
theorem sec_mil (n : Int) (h : okNum n = true) (h2 : (n.tmod 1000 == 0) = true) : toldV (wrap64 (n.tdiv 1000 * 1000)) (milE (n.tdiv 1000)) = n ∧ codeIx (milE (n.tdiv 1000)) = 0 := by
  have hdm : n.tdiv 1000 * 1000 + n.tmod 1000 = n := by have := Int.mul_tdiv_add_tmod n 1000; omega
  have hz : n.tmod 1000 = 0 := by simpa using h2
  have hr : 0 ≤ n ∧ n ≤ 281474976710655 := by simpa [okNum] using h
  rcases Millis_cases (n.tdiv 1000) with ⟨h0, h1, a, b⟩ | ⟨h0, a, b⟩
  · exact ⟨a.trans (by omega), b⟩
  · exact absurd (show 0 ≤ n.tdiv 1000 ∧ n.tdiv 1000 ≤ 281474976710 by omega) h0

set_option maxHeartbeats 2000000 in
theorem SignsTurns_law (f g n : Int) (c : Bool) (w : World) (A : Nat → Addr) (hI : GInv w A) (hf : f ≤ 9223372036854775807) (hg : g ≤ 9223372036854775807) (hn1 : -9223372036854775808 ≤ n) (hn2 : n ≤ 9223372036854775807) :
    Calls Tryd.prog 8 #[.int .i64 f, .int .i64 g, .int .i64 n, .bool c] w (Ret (.bool true) w) := by
  have U := Lib.hid (MarkUp_cases f hf)
  have D := Lib.hid (MarkDown_cases g c hg)
  have M := Lib.hid (Millis_cases n)
  have S := Lib.hid (Seconds_cases n)
  go_enter Tryd.func8, Tryd.ntmps8
  go_wp2_with fail
  refine (shown_any _ A hI).mono ?_
  rintro e w1 ⟨rfl, hb1⟩
  go_wp2_with fail
  refine (MarkUp_any f _ A (hI.below hb1)).mono ?_
  rintro e w2 ⟨rfl, hb2'⟩
  have hb2 := ext_trans hb1 hb2'
  clear hb1 hb2'
  rcases U.out with ⟨m, rfl, hm, hok, u1, u2⟩ | ⟨E, hE, u1, u2⟩
  · have HB := Lib.hid (show (bits .and .i64 (m : Int) 8 != 0) = !((m &&& 8) == 0) from bitT m 8 (by omega) (by decide))
    have ht := turn1 hok
    have hv := MarkDown_val (!((m &&& 8) == 0)) ht.1
    rw [ht.2] at hv
    have HV := Lib.hid hv
    rw [u1, u2]
    clear u1 u2 U hok ht hv
    generalize m &&& 23 = a at HV
    go_wp2_with fail
    rw [HB.out]
    generalize (!((m &&& 8) == 0)) = cc at HV HB
    refine (MarkDown_any (a : Int) cc _ A (hI.below hb2)).mono ?_
    rintro e w3 ⟨rfl, hb3'⟩
    have hb3 := ext_trans hb2 hb3'
    clear hb2 hb3'
    rw [HV.out.1, HV.out.2]
    go_wp2_with fail
    refine (MarkDown_any g c _ A (hI.below hb3)).mono ?_
    rintro e w4 ⟨rfl, hb'⟩
    have hbN := ext_trans hb3 hb'
    clear hb3 hb'
    have hb4 := hbN
    clear hbN
    rcases D.out with ⟨a2, rfl, ha2, hi2, v1, v2⟩ | ⟨F, hF, v1, v2⟩
    · rw [v1, v2]
      have ht2 := turn2 hi2 c
      have hv2 := MarkUp_val ht2.1
      rw [ht2.2] at hv2
      have HV2 := Lib.hid hv2
      clear v1 v2 D hi2 ht2 hv2
      generalize dmN a2 c = d2 at HV2
      go_wp2_with fail
      refine (MarkUp_any (d2 : Int) _ A (hI.below hb4)).mono ?_
      rintro e w5 ⟨rfl, hb'⟩
      have hbN := ext_trans hb4 hb'
      clear hb4 hb'
      have hb5 := hbN
      clear hbN
      rw [HV2.out.1, HV2.out.2]
      go_wp2_with fail
      refine (Millis_any n _ A (hI.below hb5)).mono ?_
      rintro e w6 ⟨rfl, hb'⟩
      have hbN := ext_trans hb5 hb'
      clear hb5 hb'
      have hb6 := hbN
      clear hbN
      rcases M.out with ⟨m0, m1, ma, mb⟩ | ⟨m0, ma, mb⟩
      · rw [ma, mb]
        have Q := Lib.hid (mil_sec n m0 m1)
        clear ma mb M
        go_wp2_with fail
        refine (Seconds_any (n * 1000) _ A (hI.below hb6) (by omega) (by omega)).mono ?_
        rintro e w7 ⟨rfl, hb'⟩
        have hbN := ext_trans hb6 hb'
        clear hb6 hb'
        have hb7 := hbN
        clear hbN
        rw [Q.out.1, Q.out.2.1]
        go_wp2_with fail
        refine (Seconds_any n _ A (hI.below hb7) hn1 hn2).mono ?_
        rintro e w8 ⟨rfl, hb'⟩
        have hbN := ext_trans hb7 hb'
        clear hb7 hb'
        have hb8 := hbN
        clear hbN
        rcases S.out with ⟨s1, s2, sa, sb⟩ | ⟨s1, s2, sa, sb⟩ | ⟨s1, sa, sb⟩
        · rw [sa, sb]
          have P := Lib.hid (sec_mil n s1 s2)
          clear sa sb s2
          generalize n.tdiv 1000 = q at P
          go_wp2_with fail
          refine (Millis_any q _ A (hI.below hb8)).mono ?_
          rintro e w9 ⟨rfl, hb'⟩
          have hbN := ext_trans hb8 hb'
          clear hb8 hb'
          have hb9 := hbN
          clear hbN
          rw [P.out.1, P.out.2]
          clear s1
          go_wp2_with fail
          refine (Right_any (n * 1000) _).mono ?_
          rintro e w10 ⟨rfl, rfl⟩
          rw [Q.out.2.2]
          go_wp2_with fail
          go_ret
          exact ⟨by first | rfl | simp [*], hb9⟩
        · rw [sa, sb]
          clear sa sb
          go_wp2_with fail
          refine (Millis_any 0 _ A (hI.below hb8)).mono ?_
          rintro e w9 ⟨rfl, hb'⟩
          have hbN := ext_trans hb8 hb'
          clear hb8 hb'
          have hb9 := hbN
          clear hbN
          generalize toldV (wrap64 (0 * 1000)) (milE 0) = z3
          generalize codeIx (milE 0) = z4
          clear s1
          go_wp2_with fail
          refine (Right_any (n * 1000) _).mono ?_
          rintro e w10 ⟨rfl, rfl⟩
          rw [Q.out.2.2]
          go_wp2_with fail
          go_ret
          exact ⟨by first | rfl | simp [*], hb9⟩
        · rw [sa, sb]
          clear sa sb
          go_wp2_with fail
          refine (Millis_any 0 _ A (hI.below hb8)).mono ?_
          rintro e w9 ⟨rfl, hb'⟩
          have hbN := ext_trans hb8 hb'
          clear hb8 hb'
          have hb9 := hbN
          clear hbN
          generalize toldV (wrap64 (0 * 1000)) (milE 0) = z3
          generalize codeIx (milE 0) = z4
          clear s1
          go_wp2_with fail
          refine (Right_any (n * 1000) _).mono ?_
          rintro e w10 ⟨rfl, rfl⟩
          rw [Q.out.2.2]
          go_wp2_with fail
          go_ret
          exact ⟨by first | rfl | simp [*], hb9⟩
      · rw [ma, mb]
        clear ma mb M
        go_wp2_with fail
        refine (Seconds_any 0 _ A (hI.below hb6) (by decide) (by decide)).mono ?_
        rintro e w7 ⟨rfl, hb'⟩
        have hbN := ext_trans hb6 hb'
        clear hb6 hb'
        have hb7 := hbN
        clear hbN
        generalize toldV ((0 : Int).tdiv 1000) (secE 0) = z1
        generalize codeIx (secE 0) = z2
        go_wp2_with fail
        refine (Seconds_any n _ A (hI.below hb7) hn1 hn2).mono ?_
        rintro e w8 ⟨rfl, hb'⟩
        have hbN := ext_trans hb7 hb'
        clear hb7 hb'
        have hb8 := hbN
        clear hbN
        rcases S.out with ⟨s1, s2, sa, sb⟩ | ⟨s1, s2, sa, sb⟩ | ⟨s1, sa, sb⟩
        · rw [sa, sb]
          have P := Lib.hid (sec_mil n s1 s2)
          clear sa sb s2
          generalize n.tdiv 1000 = q at P
          go_wp2_with fail
          refine (Millis_any q _ A (hI.below hb8)).mono ?_
          rintro e w9 ⟨rfl, hb'⟩
          have hbN := ext_trans hb8 hb'
          clear hb8 hb'
          have hb9 := hbN
          clear hbN
          rw [P.out.1, P.out.2]
          go_wp2_with fail
          go_ret
          exact ⟨by first | rfl | simp [*], hb9⟩
        · rw [sa, sb]
          clear sa sb
          go_wp2_with fail
          refine (Millis_any 0 _ A (hI.below hb8)).mono ?_
          rintro e w9 ⟨rfl, hb'⟩
          have hbN := ext_trans hb8 hb'
          clear hb8 hb'
          have hb9 := hbN
          clear hbN
          generalize toldV (wrap64 (0 * 1000)) (milE 0) = z3
          generalize codeIx (milE 0) = z4
          go_wp2_with fail
          go_ret
          exact ⟨by first | rfl | simp [*], hb9⟩
        · rw [sa, sb]
          clear sa sb
          go_wp2_with fail
          refine (Millis_any 0 _ A (hI.below hb8)).mono ?_
          rintro e w9 ⟨rfl, hb'⟩
          have hbN := ext_trans hb8 hb'
          clear hb8 hb'
          have hb9 := hbN
          clear hbN
          generalize toldV (wrap64 (0 * 1000)) (milE 0) = z3
          generalize codeIx (milE 0) = z4
          go_wp2_with fail
          go_ret
          exact ⟨by first | rfl | simp [*], hb9⟩
    · rw [v1, v2]
      have hF' : (F != 0) = true := by rw [bne, hF]; rfl
      clear v1 v2 D
      go_wp2_with fail
      refine (MarkUp_any 0 _ A (hI.below hb4)).mono ?_
      rintro e w5 ⟨rfl, hb'⟩
      have hbN := ext_trans hb4 hb'
      clear hb4 hb'
      have hb5 := hbN
      clear hbN
      generalize toldV (gam 0) (upmE 0) = y1
      generalize codeIx (upmE 0) = y2
      go_wp2_with fail
      refine (Millis_any n _ A (hI.below hb5)).mono ?_
      rintro e w6 ⟨rfl, hb'⟩
      have hbN := ext_trans hb5 hb'
      clear hb5 hb'
      have hb6 := hbN
      clear hbN
      rcases M.out with ⟨m0, m1, ma, mb⟩ | ⟨m0, ma, mb⟩
      · rw [ma, mb]
        have Q := Lib.hid (mil_sec n m0 m1)
        clear ma mb M
        go_wp2_with fail
        refine (Seconds_any (n * 1000) _ A (hI.below hb6) (by omega) (by omega)).mono ?_
        rintro e w7 ⟨rfl, hb'⟩
        have hbN := ext_trans hb6 hb'
        clear hb6 hb'
        have hb7 := hbN
        clear hbN
        rw [Q.out.1, Q.out.2.1]
        go_wp2_with fail
        refine (Seconds_any n _ A (hI.below hb7) hn1 hn2).mono ?_
        rintro e w8 ⟨rfl, hb'⟩
        have hbN := ext_trans hb7 hb'
        clear hb7 hb'
        have hb8 := hbN
        clear hbN
        rcases S.out with ⟨s1, s2, sa, sb⟩ | ⟨s1, s2, sa, sb⟩ | ⟨s1, sa, sb⟩
        · rw [sa, sb]
          have P := Lib.hid (sec_mil n s1 s2)
          clear sa sb s2
          generalize n.tdiv 1000 = q at P
          go_wp2_with fail
          refine (Millis_any q _ A (hI.below hb8)).mono ?_
          rintro e w9 ⟨rfl, hb'⟩
          have hbN := ext_trans hb8 hb'
          clear hb8 hb'
          have hb9 := hbN
          clear hbN
          rw [P.out.1, P.out.2]
          clear s1
          go_wp2_with fail
          refine (Right_any (n * 1000) _).mono ?_
          rintro e w10 ⟨rfl, rfl⟩
          rw [Q.out.2.2]
          go_wp2_with fail
          go_ret
          exact ⟨by first | rfl | simp [*], hb9⟩
        · rw [sa, sb]
          clear sa sb
          go_wp2_with fail
          refine (Millis_any 0 _ A (hI.below hb8)).mono ?_
          rintro e w9 ⟨rfl, hb'⟩
          have hbN := ext_trans hb8 hb'
          clear hb8 hb'
          have hb9 := hbN
          clear hbN
          generalize toldV (wrap64 (0 * 1000)) (milE 0) = z3
          generalize codeIx (milE 0) = z4
          clear s1
          go_wp2_with fail
          refine (Right_any (n * 1000) _).mono ?_
          rintro e w10 ⟨rfl, rfl⟩
          rw [Q.out.2.2]
          go_wp2_with fail
          go_ret
          exact ⟨by first | rfl | simp [*], hb9⟩
        · rw [sa, sb]
          clear sa sb
          go_wp2_with fail
          refine (Millis_any 0 _ A (hI.below hb8)).mono ?_
          rintro e w9 ⟨rfl, hb'⟩
          have hbN := ext_trans hb8 hb'
          clear hb8 hb'
          have hb9 := hbN
          clear hbN
          generalize toldV (wrap64 (0 * 1000)) (milE 0) = z3
          generalize codeIx (milE 0) = z4
          clear s1
          go_wp2_with fail
          refine (Right_any (n * 1000) _).mono ?_
          rintro e w10 ⟨rfl, rfl⟩
          rw [Q.out.2.2]
          go_wp2_with fail
          go_ret
          exact ⟨by first | rfl | simp [*], hb9⟩
      · rw [ma, mb]
        clear ma mb M
        go_wp2_with fail
        refine (Seconds_any 0 _ A (hI.below hb6) (by decide) (by decide)).mono ?_
        rintro e w7 ⟨rfl, hb'⟩
        have hbN := ext_trans hb6 hb'
        clear hb6 hb'
        have hb7 := hbN
        clear hbN
        generalize toldV ((0 : Int).tdiv 1000) (secE 0) = z1
        generalize codeIx (secE 0) = z2
        go_wp2_with fail
        refine (Seconds_any n _ A (hI.below hb7) hn1 hn2).mono ?_
        rintro e w8 ⟨rfl, hb'⟩
        have hbN := ext_trans hb7 hb'
        clear hb7 hb'
        have hb8 := hbN
        clear hbN
        rcases S.out with ⟨s1, s2, sa, sb⟩ | ⟨s1, s2, sa, sb⟩ | ⟨s1, sa, sb⟩
        · rw [sa, sb]
          have P := Lib.hid (sec_mil n s1 s2)
          clear sa sb s2
          generalize n.tdiv 1000 = q at P
          go_wp2_with fail
          refine (Millis_any q _ A (hI.below hb8)).mono ?_
          rintro e w9 ⟨rfl, hb'⟩
          have hbN := ext_trans hb8 hb'
          clear hb8 hb'
          have hb9 := hbN
          clear hbN
          rw [P.out.1, P.out.2]
          go_wp2_with fail
          go_ret
          exact ⟨by first | rfl | simp [*], hb9⟩
        · rw [sa, sb]
          clear sa sb
          go_wp2_with fail
          refine (Millis_any 0 _ A (hI.below hb8)).mono ?_
          rintro e w9 ⟨rfl, hb'⟩
          have hbN := ext_trans hb8 hb'
          clear hb8 hb'
          have hb9 := hbN
          clear hbN
          generalize toldV (wrap64 (0 * 1000)) (milE 0) = z3
          generalize codeIx (milE 0) = z4
          go_wp2_with fail
          go_ret
          exact ⟨by first | rfl | simp [*], hb9⟩
        · rw [sa, sb]
          clear sa sb
          go_wp2_with fail
          refine (Millis_any 0 _ A (hI.below hb8)).mono ?_
          rintro e w9 ⟨rfl, hb'⟩
          have hbN := ext_trans hb8 hb'
          clear hb8 hb'
          have hb9 := hbN
          clear hbN
          generalize toldV (wrap64 (0 * 1000)) (milE 0) = z3
          generalize codeIx (milE 0) = z4
          go_wp2_with fail
          go_ret
          exact ⟨by first | rfl | simp [*], hb9⟩
  · rw [u1, u2]
    have hE' : (E != 0) = true := by rw [bne, hE]; rfl
    clear u1 u2 U
    go_wp2_with fail
    generalize (bits .and .i64 f 8 != 0) = cc
    refine (MarkDown_any 0 cc _ A (hI.below hb2)).mono ?_
    rintro e w3 ⟨rfl, hb3'⟩
    have hb3 := ext_trans hb2 hb3'
    clear hb2 hb3'
    generalize toldV (dmV 0 cc) (dnmE 0) = x1
    generalize codeIx (dnmE 0) = x2
    go_wp2_with fail
    refine (MarkDown_any g c _ A (hI.below hb3)).mono ?_
    rintro e w4 ⟨rfl, hb'⟩
    have hbN := ext_trans hb3 hb'
    clear hb3 hb'
    have hb4 := hbN
    clear hbN
    rcases D.out with ⟨a2, rfl, ha2, hi2, v1, v2⟩ | ⟨F, hF, v1, v2⟩
    · rw [v1, v2]
      have ht2 := turn2 hi2 c
      have hv2 := MarkUp_val ht2.1
      rw [ht2.2] at hv2
      have HV2 := Lib.hid hv2
      clear v1 v2 D hi2 ht2 hv2
      generalize dmN a2 c = d2 at HV2
      go_wp2_with fail
      refine (MarkUp_any (d2 : Int) _ A (hI.below hb4)).mono ?_
      rintro e w5 ⟨rfl, hb'⟩
      have hbN := ext_trans hb4 hb'
      clear hb4 hb'
      have hb5 := hbN
      clear hbN
      rw [HV2.out.1, HV2.out.2]
      go_wp2_with fail
      refine (Millis_any n _ A (hI.below hb5)).mono ?_
      rintro e w6 ⟨rfl, hb'⟩
      have hbN := ext_trans hb5 hb'
      clear hb5 hb'
      have hb6 := hbN
      clear hbN
      rcases M.out with ⟨m0, m1, ma, mb⟩ | ⟨m0, ma, mb⟩
      · rw [ma, mb]
        have Q := Lib.hid (mil_sec n m0 m1)
        clear ma mb M
        go_wp2_with fail
        refine (Seconds_any (n * 1000) _ A (hI.below hb6) (by omega) (by omega)).mono ?_
        rintro e w7 ⟨rfl, hb'⟩
        have hbN := ext_trans hb6 hb'
        clear hb6 hb'
        have hb7 := hbN
        clear hbN
        rw [Q.out.1, Q.out.2.1]
        go_wp2_with fail
        refine (Seconds_any n _ A (hI.below hb7) hn1 hn2).mono ?_
        rintro e w8 ⟨rfl, hb'⟩
        have hbN := ext_trans hb7 hb'
        clear hb7 hb'
        have hb8 := hbN
        clear hbN
        rcases S.out with ⟨s1, s2, sa, sb⟩ | ⟨s1, s2, sa, sb⟩ | ⟨s1, sa, sb⟩
        · rw [sa, sb]
          have P := Lib.hid (sec_mil n s1 s2)
          clear sa sb s2
          generalize n.tdiv 1000 = q at P
          go_wp2_with fail
          refine (Millis_any q _ A (hI.below hb8)).mono ?_
          rintro e w9 ⟨rfl, hb'⟩
          have hbN := ext_trans hb8 hb'
          clear hb8 hb'
          have hb9 := hbN
          clear hbN
          rw [P.out.1, P.out.2]
          clear s1
          go_wp2_with fail
          refine (Right_any (n * 1000) _).mono ?_
          rintro e w10 ⟨rfl, rfl⟩
          rw [Q.out.2.2]
          go_wp2_with fail
          go_ret
          exact ⟨by first | rfl | simp [*], hb9⟩
        · rw [sa, sb]
          clear sa sb
          go_wp2_with fail
          refine (Millis_any 0 _ A (hI.below hb8)).mono ?_
          rintro e w9 ⟨rfl, hb'⟩
          have hbN := ext_trans hb8 hb'
          clear hb8 hb'
          have hb9 := hbN
          clear hbN
          generalize toldV (wrap64 (0 * 1000)) (milE 0) = z3
          generalize codeIx (milE 0) = z4
          clear s1
          go_wp2_with fail
          refine (Right_any (n * 1000) _).mono ?_
          rintro e w10 ⟨rfl, rfl⟩
          rw [Q.out.2.2]
          go_wp2_with fail
          go_ret
          exact ⟨by first | rfl | simp [*], hb9⟩
        · rw [sa, sb]
          clear sa sb
          go_wp2_with fail
          refine (Millis_any 0 _ A (hI.below hb8)).mono ?_
          rintro e w9 ⟨rfl, hb'⟩
          have hbN := ext_trans hb8 hb'
          clear hb8 hb'
          have hb9 := hbN
          clear hbN
          generalize toldV (wrap64 (0 * 1000)) (milE 0) = z3
          generalize codeIx (milE 0) = z4
          clear s1
          go_wp2_with fail
          refine (Right_any (n * 1000) _).mono ?_
          rintro e w10 ⟨rfl, rfl⟩
          rw [Q.out.2.2]
          go_wp2_with fail
          go_ret
          exact ⟨by first | rfl | simp [*], hb9⟩
      · rw [ma, mb]
        clear ma mb M
        go_wp2_with fail
        refine (Seconds_any 0 _ A (hI.below hb6) (by decide) (by decide)).mono ?_
        rintro e w7 ⟨rfl, hb'⟩
        have hbN := ext_trans hb6 hb'
        clear hb6 hb'
        have hb7 := hbN
        clear hbN
        generalize toldV ((0 : Int).tdiv 1000) (secE 0) = z1
        generalize codeIx (secE 0) = z2
        go_wp2_with fail
        refine (Seconds_any n _ A (hI.below hb7) hn1 hn2).mono ?_
        rintro e w8 ⟨rfl, hb'⟩
        have hbN := ext_trans hb7 hb'
        clear hb7 hb'
        have hb8 := hbN
        clear hbN
        rcases S.out with ⟨s1, s2, sa, sb⟩ | ⟨s1, s2, sa, sb⟩ | ⟨s1, sa, sb⟩
        · rw [sa, sb]
          have P := Lib.hid (sec_mil n s1 s2)
          clear sa sb s2
          generalize n.tdiv 1000 = q at P
          go_wp2_with fail
          refine (Millis_any q _ A (hI.below hb8)).mono ?_
          rintro e w9 ⟨rfl, hb'⟩
          have hbN := ext_trans hb8 hb'
          clear hb8 hb'
          have hb9 := hbN
          clear hbN
          rw [P.out.1, P.out.2]
          go_wp2_with fail
          go_ret
          exact ⟨by first | rfl | simp [*], hb9⟩
        · rw [sa, sb]
          clear sa sb
          go_wp2_with fail
          refine (Millis_any 0 _ A (hI.below hb8)).mono ?_
          rintro e w9 ⟨rfl, hb'⟩
          have hbN := ext_trans hb8 hb'
          clear hb8 hb'
          have hb9 := hbN
          clear hbN
          generalize toldV (wrap64 (0 * 1000)) (milE 0) = z3
          generalize codeIx (milE 0) = z4
          go_wp2_with fail
          go_ret
          exact ⟨by first | rfl | simp [*], hb9⟩
        · rw [sa, sb]
          clear sa sb
          go_wp2_with fail
          refine (Millis_any 0 _ A (hI.below hb8)).mono ?_
          rintro e w9 ⟨rfl, hb'⟩
          have hbN := ext_trans hb8 hb'
          clear hb8 hb'
          have hb9 := hbN
          clear hbN
          generalize toldV (wrap64 (0 * 1000)) (milE 0) = z3
          generalize codeIx (milE 0) = z4
          go_wp2_with fail
          go_ret
          exact ⟨by first | rfl | simp [*], hb9⟩
    · rw [v1, v2]
      have hF' : (F != 0) = true := by rw [bne, hF]; rfl
      clear v1 v2 D
      go_wp2_with fail
      refine (MarkUp_any 0 _ A (hI.below hb4)).mono ?_
      rintro e w5 ⟨rfl, hb'⟩
      have hbN := ext_trans hb4 hb'
      clear hb4 hb'
      have hb5 := hbN
      clear hbN
      generalize toldV (gam 0) (upmE 0) = y1
      generalize codeIx (upmE 0) = y2
      go_wp2_with fail
      refine (Millis_any n _ A (hI.below hb5)).mono ?_
      rintro e w6 ⟨rfl, hb'⟩
      have hbN := ext_trans hb5 hb'
      clear hb5 hb'
      have hb6 := hbN
      clear hbN
      rcases M.out with ⟨m0, m1, ma, mb⟩ | ⟨m0, ma, mb⟩
      · rw [ma, mb]
        have Q := Lib.hid (mil_sec n m0 m1)
        clear ma mb M
        go_wp2_with fail
        refine (Seconds_any (n * 1000) _ A (hI.below hb6) (by omega) (by omega)).mono ?_
        rintro e w7 ⟨rfl, hb'⟩
        have hbN := ext_trans hb6 hb'
        clear hb6 hb'
        have hb7 := hbN
        clear hbN
        rw [Q.out.1, Q.out.2.1]
        go_wp2_with fail
        refine (Seconds_any n _ A (hI.below hb7) hn1 hn2).mono ?_
        rintro e w8 ⟨rfl, hb'⟩
        have hbN := ext_trans hb7 hb'
        clear hb7 hb'
        have hb8 := hbN
        clear hbN
        rcases S.out with ⟨s1, s2, sa, sb⟩ | ⟨s1, s2, sa, sb⟩ | ⟨s1, sa, sb⟩
        · rw [sa, sb]
          have P := Lib.hid (sec_mil n s1 s2)
          clear sa sb s2
          generalize n.tdiv 1000 = q at P
          go_wp2_with fail
          refine (Millis_any q _ A (hI.below hb8)).mono ?_
          rintro e w9 ⟨rfl, hb'⟩
          have hbN := ext_trans hb8 hb'
          clear hb8 hb'
          have hb9 := hbN
          clear hbN
          rw [P.out.1, P.out.2]
          clear s1
          go_wp2_with fail
          refine (Right_any (n * 1000) _).mono ?_
          rintro e w10 ⟨rfl, rfl⟩
          rw [Q.out.2.2]
          go_wp2_with fail
          go_ret
          exact ⟨by first | rfl | simp [*], hb9⟩
        · rw [sa, sb]
          clear sa sb
          go_wp2_with fail
          refine (Millis_any 0 _ A (hI.below hb8)).mono ?_
          rintro e w9 ⟨rfl, hb'⟩
          have hbN := ext_trans hb8 hb'
          clear hb8 hb'
          have hb9 := hbN
          clear hbN
          generalize toldV (wrap64 (0 * 1000)) (milE 0) = z3
          generalize codeIx (milE 0) = z4
          clear s1
          go_wp2_with fail
          refine (Right_any (n * 1000) _).mono ?_
          rintro e w10 ⟨rfl, rfl⟩
          rw [Q.out.2.2]
          go_wp2_with fail
          go_ret
          exact ⟨by first | rfl | simp [*], hb9⟩
        · rw [sa, sb]
          clear sa sb
          go_wp2_with fail
          refine (Millis_any 0 _ A (hI.below hb8)).mono ?_
          rintro e w9 ⟨rfl, hb'⟩
          have hbN := ext_trans hb8 hb'
          clear hb8 hb'
          have hb9 := hbN
          clear hbN
          generalize toldV (wrap64 (0 * 1000)) (milE 0) = z3
          generalize codeIx (milE 0) = z4
          clear s1
          go_wp2_with fail
          refine (Right_any (n * 1000) _).mono ?_
          rintro e w10 ⟨rfl, rfl⟩
          rw [Q.out.2.2]
          go_wp2_with fail
          go_ret
          exact ⟨by first | rfl | simp [*], hb9⟩
      · rw [ma, mb]
        clear ma mb M
        go_wp2_with fail
        refine (Seconds_any 0 _ A (hI.below hb6) (by decide) (by decide)).mono ?_
        rintro e w7 ⟨rfl, hb'⟩
        have hbN := ext_trans hb6 hb'
        clear hb6 hb'
        have hb7 := hbN
        clear hbN
        generalize toldV ((0 : Int).tdiv 1000) (secE 0) = z1
        generalize codeIx (secE 0) = z2
        go_wp2_with fail
        refine (Seconds_any n _ A (hI.below hb7) hn1 hn2).mono ?_
        rintro e w8 ⟨rfl, hb'⟩
        have hbN := ext_trans hb7 hb'
        clear hb7 hb'
        have hb8 := hbN
        clear hbN
        rcases S.out with ⟨s1, s2, sa, sb⟩ | ⟨s1, s2, sa, sb⟩ | ⟨s1, sa, sb⟩
        · rw [sa, sb]
          have P := Lib.hid (sec_mil n s1 s2)
          clear sa sb s2
          generalize n.tdiv 1000 = q at P
          go_wp2_with fail
          refine (Millis_any q _ A (hI.below hb8)).mono ?_
          rintro e w9 ⟨rfl, hb'⟩
          have hbN := ext_trans hb8 hb'
          clear hb8 hb'
          have hb9 := hbN
          clear hbN
          rw [P.out.1, P.out.2]
          go_wp2_with fail
          go_ret
          exact ⟨by first | rfl | simp [*], hb9⟩
        · rw [sa, sb]
          clear sa sb
          go_wp2_with fail
          refine (Millis_any 0 _ A (hI.below hb8)).mono ?_
          rintro e w9 ⟨rfl, hb'⟩
          have hbN := ext_trans hb8 hb'
          clear hb8 hb'
          have hb9 := hbN
          clear hbN
          generalize toldV (wrap64 (0 * 1000)) (milE 0) = z3
          generalize codeIx (milE 0) = z4
          go_wp2_with fail
          go_ret
          exact ⟨by first | rfl | simp [*], hb9⟩
        · rw [sa, sb]
          clear sa sb
          go_wp2_with fail
          refine (Millis_any 0 _ A (hI.below hb8)).mono ?_
          rintro e w9 ⟨rfl, hb'⟩
          have hbN := ext_trans hb8 hb'
          clear hb8 hb'
          have hb9 := hbN
          clear hbN
          generalize toldV (wrap64 (0 * 1000)) (milE 0) = z3
          generalize codeIx (milE 0) = z4
          go_wp2_with fail
          go_ret
          exact ⟨by first | rfl | simp [*], hb9⟩

end Go.Proofs.YtinflolpcemnhaaDoor
