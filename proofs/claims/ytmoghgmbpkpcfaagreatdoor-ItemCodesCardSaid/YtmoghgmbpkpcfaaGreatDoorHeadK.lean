/-
  Package postriderref03: Decode. No condition.
-/
import Derived.Test.YtmoghgmbpkpcfaaGreatDoorHeadJ
namespace Go.Proofs.YtmoghgmbpkpcfaaGreatDoor
open Go.RowKit

/-- A byte in two, as the definition spells it. -/
theorem split2_of {x : UInt8} {M R : Nat} (h : Split x M R) : wrap64 ((wrap64 (x.toNat : Int)).tdiv 32) = (M : Int) ∧ (wrap64 (x.toNat : Int)).tmod 32 = (R : Int) := by
  have hx := x.toNat_lt
  have hm := h.m
  have hr := h.r
  have e : wrap64 (x.toNat : Int) = (x.toNat : Int) := by unfold wrap64; omega
  rw [e]
  have e2 : (x.toNat : Int).tdiv 32 = ((x.toNat / 32 : Nat) : Int) := rfl
  have e3 : (x.toNat : Int).tmod 32 = ((x.toNat % 32 : Nat) : Int) := rfl
  rw [e2, e3, hm, hr]
  exact ⟨by unfold wrap64; omega, rfl⟩
theorem widthsAt0 (w : World) : (Instr.index 115 (.agg #[.int .i64 1, .int .i64 2, .int .i64 4, .int .i64 8]) (.int .i64 0)).run Tryz.prog w = .ok (.int .i64 1) w := by kernel_rfl
theorem widthsAt1 (w : World) : (Instr.index 115 (.agg #[.int .i64 1, .int .i64 2, .int .i64 4, .int .i64 8]) (.int .i64 1)).run Tryz.prog w = .ok (.int .i64 2) w := by kernel_rfl
theorem widthsAt2 (w : World) : (Instr.index 115 (.agg #[.int .i64 1, .int .i64 2, .int .i64 4, .int .i64 8]) (.int .i64 2)).run Tryz.prog w = .ok (.int .i64 4) w := by kernel_rfl
theorem widthsAt3 (w : World) : (Instr.index 115 (.agg #[.int .i64 1, .int .i64 2, .int .i64 4, .int .i64 8]) (.int .i64 3)).run Tryz.prog w = .ok (.int .i64 8) w := by kernel_rfl

set_option maxRecDepth 100000 in
theorem rDecode_out (s : ByteArray) (a : Int) (w : World) (ha : a < 0 ∨ (s.size : Int) ≤ a) :
    Calls Tryz.prog 42 #[.string s, .int .i64 a] w (Ret (decR ((0, 0, 0), 11)) w) := by
  unfold decR
  by_cases h0 : a < 0
  · clear ha
    go_enter Tryz.func42, Tryz.ntmps42
    go_wp2_with fail
    exact bodyPost_ret (v := .tuple #[.int .i64 0, .int .i64 0, .int .i64 0, .int .i64 11]) (by simp [results, Tryz.results42]) rfl ⟨rfl, ext_refl _⟩
  · have h1 : (s.size : Int) ≤ a := by omega
    clear ha
    go_enter Tryz.func42, Tryz.ntmps42
    go_wp2_with fail
    exact bodyPost_ret (v := .tuple #[.int .i64 0, .int .i64 0, .int .i64 0, .int .i64 11]) (by simp [results, Tryz.results42]) rfl ⟨rfl, ext_refl _⟩

set_option maxRecDepth 100000 in
set_option maxHeartbeats 1000000 in
theorem rDecode_form (s : ByteArray) (p M R : Nat) (w : World) (hs : s.size ≤ 9223372036854775807) (hp : p < s.size) (hM : Split s[p] M R) (hf : majB (M : Int) = false ∨ (majB (M : Int) = true ∧ 27 < R)) :
    Calls Tryz.prog 42 #[.string s, .int .i64 (p : Int)] w (Ret (decR ((0, 0, 0), 20)) w) := by
  unfold decR
  obtain ⟨s1, s2⟩ := split2_of hM
  have hR : R < 32 := by have := hM.r; omega
  have HM := fun w' => rmajor_any (M : Int) w'
  clear hM
  have i3 : (0 : Int) ≤ (p : Int) := by omega
  have i4 : (p : Int) < (s.size : Int) := by omega
  rcases hf with hm | ⟨hm, hr⟩
  · rw [hm] at HM
    clear hm
    go_enter Tryz.func42, Tryz.ntmps42
    go_wp2_with fail
    refine (HM _).mono ?_
    rintro e w1 ⟨rfl, rfl⟩
    go_wp2_with fail
    exact bodyPost_ret (v := .tuple #[.int .i64 0, .int .i64 0, .int .i64 0, .int .i64 20]) (by simp [results, Tryz.results42]) rfl ⟨rfl, ext_refl _⟩
  · rw [hm] at HM
    clear hm
    have hr' : (27 : Int) < (R : Int) := by omega
    go_enter Tryz.func42, Tryz.ntmps42
    go_wp2_with fail
    refine (HM _).mono ?_
    rintro e w1 ⟨rfl, rfl⟩
    go_wp2_with fail
    exact bodyPost_ret (v := .tuple #[.int .i64 0, .int .i64 0, .int .i64 0, .int .i64 20]) (by simp [results, Tryz.results42]) rfl ⟨rfl, ext_refl _⟩

set_option maxRecDepth 100000 in
set_option maxHeartbeats 1000000 in
theorem rDecode_low (s : ByteArray) (p M R : Nat) (w : World) (hs : s.size ≤ 9223372036854775807) (hp : p < s.size) (hM : Split s[p] M R) (hf : majB (M : Int) = true) (hr : R < 24) :
    Calls Tryz.prog 42 #[.string s, .int .i64 (p : Int)] w (Ret (decR (((M : Int), (R : Int), (p : Int) + 1), 0)) w) := by
  unfold decR
  obtain ⟨s1, s2⟩ := split2_of hM
  have hR : R < 32 := by have := hM.r; omega
  have HM := fun w' => rmajor_any (M : Int) w'
  clear hM
  have i3 : (0 : Int) ≤ (p : Int) := by omega
  have i4 : (p : Int) < (s.size : Int) := by omega
  rw [hf] at HM
  clear hf
  have HW := fun w' => rwidth_any R (by omega) w'
  rw [show wOf R = 0 by simp [wOf, hr]] at HW
  have r1 : (R : Int) < 24 := by omega
  have r2 : (R : Int) ≤ 27 := by omega
  go_enter Tryz.func42, Tryz.ntmps42
  go_wp2_with fail
  refine (HM _).mono ?_
  rintro e w1 ⟨rfl, rfl⟩
  go_wp2_with fail
  refine (HW _).mono ?_
  rintro e w1 ⟨rfl, rfl⟩
  go_wp2_with fail
  exact bodyPost_ret (v := .tuple #[.int .i64 (M : Int), .int .i64 (R : Int), .int .i64 ((p : Int) + 1), .int .i64 0]) (by simp [results, Tryz.results42]) rfl ⟨rfl, ext_refl _⟩

set_option maxRecDepth 100000 in
set_option maxHeartbeats 1000000 in
theorem rDecode_24 (s : ByteArray) (p M : Nat) (w : World) (hs : s.size ≤ 9223372036854775807) (hp : p < s.size) (hM : Split s[p] M 24) (hf : majB (M : Int) = true) :
    (∀ e, takeV s ((p : Int) + 1) 1 = (0, e) → e ≠ 0 → Calls Tryz.prog 42 #[.string s, .int .i64 (p : Int)] w (Ret (decR ((0, 0, 0), e)) w)) ∧
    (∀ n : Nat, takeV s ((p : Int) + 1) 1 = ((n : Int), 0) → n ≤ 281474976710655 → p + 1 + 1 ≤ s.size → Calls Tryz.prog 42 #[.string s, .int .i64 (p : Int)] w (Ret (if wOf n = 1 then decR (((M : Int), (n : Int), (p : Int) + 1 + 1), 0) else decR ((0, 0, 0), 20)) w)) := by
  obtain ⟨s1, s2⟩ := split2_of hM
  have HM := fun w' => rmajor_any (M : Int) w'
  clear hM
  have i3 : (0 : Int) ≤ (p : Int) := by omega
  have i4 : (p : Int) < (s.size : Int) := by omega
  rw [hf] at HM
  clear hf
  have ix := widthsAt0
  have HT := fun w' => rTake_any s ((p : Int) + 1) 1 w' hs (by omega) (by omega)
  refine ⟨fun e ht he => ?_, fun n ht hn hp2 => ?_⟩
  · rw [ht] at HT
    clear ht
    unfold decR
    have he0 : (e == 0) = false := beq_eq_false_iff_ne.2 he
    go_enter Tryz.func42, Tryz.ntmps42
    go_wp2_with fail
    refine (HM _).mono ?_
    rintro e' w1 ⟨rfl, rfl⟩
    go_wp2_with fail
    refine (HT _).mono ?_
    rintro e' w1 ⟨rfl, rfl⟩
    go_wp2_with fail
    exact bodyPost_ret (v := .tuple #[.int .i64 0, .int .i64 0, .int .i64 0, .int .i64 e]) (by simp [results, Tryz.results42]) rfl ⟨rfl, ext_refl _⟩
  · rw [ht] at HT
    clear ht
    have HW := fun w' => rwidth_any n hn w'
    by_cases hq : wOf n = 1
    · rw [if_pos hq]
      rw [hq] at HW
      clear hq
      unfold decR
      go_enter Tryz.func42, Tryz.ntmps42
      go_wp2_with fail
      refine (HM _).mono ?_
      rintro e' w1 ⟨rfl, rfl⟩
      go_wp2_with fail
      refine (HT _).mono ?_
      rintro e' w1 ⟨rfl, rfl⟩
      go_wp2_with fail
      refine (HW _).mono ?_
      rintro e' w1 ⟨rfl, rfl⟩
      go_wp2_with fail
      exact bodyPost_ret (v := .tuple #[.int .i64 (M : Int), .int .i64 (n : Int), .int .i64 ((p : Int) + 1 + 1), .int .i64 0]) (by simp [results, Tryz.results42]) rfl ⟨rfl, ext_refl _⟩
    · rw [if_neg hq]
      have hq1 : ¬ ((wOf n : Int) = 1) := by omega
      clear hq
      generalize wOf n = q at *
      unfold decR
      go_enter Tryz.func42, Tryz.ntmps42
      go_wp2_with fail
      refine (HM _).mono ?_
      rintro e' w1 ⟨rfl, rfl⟩
      go_wp2_with fail
      refine (HT _).mono ?_
      rintro e' w1 ⟨rfl, rfl⟩
      go_wp2_with fail
      refine (HW _).mono ?_
      rintro e' w1 ⟨rfl, rfl⟩
      go_wp2_with fail
      exact bodyPost_ret (v := .tuple #[.int .i64 0, .int .i64 0, .int .i64 0, .int .i64 20]) (by simp [results, Tryz.results42]) rfl ⟨rfl, ext_refl _⟩

set_option maxRecDepth 100000 in
set_option maxHeartbeats 1000000 in
theorem rDecode_25 (s : ByteArray) (p M : Nat) (w : World) (hs : s.size ≤ 9223372036854775807) (hp : p < s.size) (hM : Split s[p] M 25) (hf : majB (M : Int) = true) :
    (∀ e, takeV s ((p : Int) + 1) 2 = (0, e) → e ≠ 0 → Calls Tryz.prog 42 #[.string s, .int .i64 (p : Int)] w (Ret (decR ((0, 0, 0), e)) w)) ∧
    (∀ n : Nat, takeV s ((p : Int) + 1) 2 = ((n : Int), 0) → n ≤ 281474976710655 → p + 1 + 2 ≤ s.size → Calls Tryz.prog 42 #[.string s, .int .i64 (p : Int)] w (Ret (if wOf n = 2 then decR (((M : Int), (n : Int), (p : Int) + 1 + 2), 0) else decR ((0, 0, 0), 20)) w)) := by
  obtain ⟨s1, s2⟩ := split2_of hM
  have HM := fun w' => rmajor_any (M : Int) w'
  clear hM
  have i3 : (0 : Int) ≤ (p : Int) := by omega
  have i4 : (p : Int) < (s.size : Int) := by omega
  rw [hf] at HM
  clear hf
  have ix := widthsAt1
  have HT := fun w' => rTake_any s ((p : Int) + 1) 2 w' hs (by omega) (by omega)
  refine ⟨fun e ht he => ?_, fun n ht hn hp2 => ?_⟩
  · rw [ht] at HT
    clear ht
    unfold decR
    have he0 : (e == 0) = false := beq_eq_false_iff_ne.2 he
    go_enter Tryz.func42, Tryz.ntmps42
    go_wp2_with fail
    refine (HM _).mono ?_
    rintro e' w1 ⟨rfl, rfl⟩
    go_wp2_with fail
    refine (HT _).mono ?_
    rintro e' w1 ⟨rfl, rfl⟩
    go_wp2_with fail
    exact bodyPost_ret (v := .tuple #[.int .i64 0, .int .i64 0, .int .i64 0, .int .i64 e]) (by simp [results, Tryz.results42]) rfl ⟨rfl, ext_refl _⟩
  · rw [ht] at HT
    clear ht
    have HW := fun w' => rwidth_any n hn w'
    by_cases hq : wOf n = 2
    · rw [if_pos hq]
      rw [hq] at HW
      clear hq
      unfold decR
      go_enter Tryz.func42, Tryz.ntmps42
      go_wp2_with fail
      refine (HM _).mono ?_
      rintro e' w1 ⟨rfl, rfl⟩
      go_wp2_with fail
      refine (HT _).mono ?_
      rintro e' w1 ⟨rfl, rfl⟩
      go_wp2_with fail
      refine (HW _).mono ?_
      rintro e' w1 ⟨rfl, rfl⟩
      go_wp2_with fail
      exact bodyPost_ret (v := .tuple #[.int .i64 (M : Int), .int .i64 (n : Int), .int .i64 ((p : Int) + 1 + 2), .int .i64 0]) (by simp [results, Tryz.results42]) rfl ⟨rfl, ext_refl _⟩
    · rw [if_neg hq]
      have hq1 : ¬ ((wOf n : Int) = 2) := by omega
      clear hq
      generalize wOf n = q at *
      unfold decR
      go_enter Tryz.func42, Tryz.ntmps42
      go_wp2_with fail
      refine (HM _).mono ?_
      rintro e' w1 ⟨rfl, rfl⟩
      go_wp2_with fail
      refine (HT _).mono ?_
      rintro e' w1 ⟨rfl, rfl⟩
      go_wp2_with fail
      refine (HW _).mono ?_
      rintro e' w1 ⟨rfl, rfl⟩
      go_wp2_with fail
      exact bodyPost_ret (v := .tuple #[.int .i64 0, .int .i64 0, .int .i64 0, .int .i64 20]) (by simp [results, Tryz.results42]) rfl ⟨rfl, ext_refl _⟩

set_option maxRecDepth 100000 in
set_option maxHeartbeats 1000000 in
theorem rDecode_26 (s : ByteArray) (p M : Nat) (w : World) (hs : s.size ≤ 9223372036854775807) (hp : p < s.size) (hM : Split s[p] M 26) (hf : majB (M : Int) = true) :
    (∀ e, takeV s ((p : Int) + 1) 4 = (0, e) → e ≠ 0 → Calls Tryz.prog 42 #[.string s, .int .i64 (p : Int)] w (Ret (decR ((0, 0, 0), e)) w)) ∧
    (∀ n : Nat, takeV s ((p : Int) + 1) 4 = ((n : Int), 0) → n ≤ 281474976710655 → p + 1 + 4 ≤ s.size → Calls Tryz.prog 42 #[.string s, .int .i64 (p : Int)] w (Ret (if wOf n = 4 then decR (((M : Int), (n : Int), (p : Int) + 1 + 4), 0) else decR ((0, 0, 0), 20)) w)) := by
  obtain ⟨s1, s2⟩ := split2_of hM
  have HM := fun w' => rmajor_any (M : Int) w'
  clear hM
  have i3 : (0 : Int) ≤ (p : Int) := by omega
  have i4 : (p : Int) < (s.size : Int) := by omega
  rw [hf] at HM
  clear hf
  have ix := widthsAt2
  have HT := fun w' => rTake_any s ((p : Int) + 1) 4 w' hs (by omega) (by omega)
  refine ⟨fun e ht he => ?_, fun n ht hn hp2 => ?_⟩
  · rw [ht] at HT
    clear ht
    unfold decR
    have he0 : (e == 0) = false := beq_eq_false_iff_ne.2 he
    go_enter Tryz.func42, Tryz.ntmps42
    go_wp2_with fail
    refine (HM _).mono ?_
    rintro e' w1 ⟨rfl, rfl⟩
    go_wp2_with fail
    refine (HT _).mono ?_
    rintro e' w1 ⟨rfl, rfl⟩
    go_wp2_with fail
    exact bodyPost_ret (v := .tuple #[.int .i64 0, .int .i64 0, .int .i64 0, .int .i64 e]) (by simp [results, Tryz.results42]) rfl ⟨rfl, ext_refl _⟩
  · rw [ht] at HT
    clear ht
    have HW := fun w' => rwidth_any n hn w'
    by_cases hq : wOf n = 4
    · rw [if_pos hq]
      rw [hq] at HW
      clear hq
      unfold decR
      go_enter Tryz.func42, Tryz.ntmps42
      go_wp2_with fail
      refine (HM _).mono ?_
      rintro e' w1 ⟨rfl, rfl⟩
      go_wp2_with fail
      refine (HT _).mono ?_
      rintro e' w1 ⟨rfl, rfl⟩
      go_wp2_with fail
      refine (HW _).mono ?_
      rintro e' w1 ⟨rfl, rfl⟩
      go_wp2_with fail
      exact bodyPost_ret (v := .tuple #[.int .i64 (M : Int), .int .i64 (n : Int), .int .i64 ((p : Int) + 1 + 4), .int .i64 0]) (by simp [results, Tryz.results42]) rfl ⟨rfl, ext_refl _⟩
    · rw [if_neg hq]
      have hq1 : ¬ ((wOf n : Int) = 4) := by omega
      clear hq
      generalize wOf n = q at *
      unfold decR
      go_enter Tryz.func42, Tryz.ntmps42
      go_wp2_with fail
      refine (HM _).mono ?_
      rintro e' w1 ⟨rfl, rfl⟩
      go_wp2_with fail
      refine (HT _).mono ?_
      rintro e' w1 ⟨rfl, rfl⟩
      go_wp2_with fail
      refine (HW _).mono ?_
      rintro e' w1 ⟨rfl, rfl⟩
      go_wp2_with fail
      exact bodyPost_ret (v := .tuple #[.int .i64 0, .int .i64 0, .int .i64 0, .int .i64 20]) (by simp [results, Tryz.results42]) rfl ⟨rfl, ext_refl _⟩

set_option maxRecDepth 100000 in
set_option maxHeartbeats 1000000 in
theorem rDecode_27 (s : ByteArray) (p M : Nat) (w : World) (hs : s.size ≤ 9223372036854775807) (hp : p < s.size) (hM : Split s[p] M 27) (hf : majB (M : Int) = true) :
    (∀ e, takeV s ((p : Int) + 1) 8 = (0, e) → e ≠ 0 → Calls Tryz.prog 42 #[.string s, .int .i64 (p : Int)] w (Ret (decR ((0, 0, 0), e)) w)) ∧
    (∀ n : Nat, takeV s ((p : Int) + 1) 8 = ((n : Int), 0) → n ≤ 281474976710655 → p + 1 + 8 ≤ s.size → Calls Tryz.prog 42 #[.string s, .int .i64 (p : Int)] w (Ret (if wOf n = 8 then decR (((M : Int), (n : Int), (p : Int) + 1 + 8), 0) else decR ((0, 0, 0), 20)) w)) := by
  obtain ⟨s1, s2⟩ := split2_of hM
  have HM := fun w' => rmajor_any (M : Int) w'
  clear hM
  have i3 : (0 : Int) ≤ (p : Int) := by omega
  have i4 : (p : Int) < (s.size : Int) := by omega
  rw [hf] at HM
  clear hf
  have ix := widthsAt3
  have HT := fun w' => rTake_any s ((p : Int) + 1) 8 w' hs (by omega) (by omega)
  refine ⟨fun e ht he => ?_, fun n ht hn hp2 => ?_⟩
  · rw [ht] at HT
    clear ht
    unfold decR
    have he0 : (e == 0) = false := beq_eq_false_iff_ne.2 he
    go_enter Tryz.func42, Tryz.ntmps42
    go_wp2_with fail
    refine (HM _).mono ?_
    rintro e' w1 ⟨rfl, rfl⟩
    go_wp2_with fail
    refine (HT _).mono ?_
    rintro e' w1 ⟨rfl, rfl⟩
    go_wp2_with fail
    exact bodyPost_ret (v := .tuple #[.int .i64 0, .int .i64 0, .int .i64 0, .int .i64 e]) (by simp [results, Tryz.results42]) rfl ⟨rfl, ext_refl _⟩
  · rw [ht] at HT
    clear ht
    have HW := fun w' => rwidth_any n hn w'
    by_cases hq : wOf n = 8
    · rw [if_pos hq]
      rw [hq] at HW
      clear hq
      unfold decR
      go_enter Tryz.func42, Tryz.ntmps42
      go_wp2_with fail
      refine (HM _).mono ?_
      rintro e' w1 ⟨rfl, rfl⟩
      go_wp2_with fail
      refine (HT _).mono ?_
      rintro e' w1 ⟨rfl, rfl⟩
      go_wp2_with fail
      refine (HW _).mono ?_
      rintro e' w1 ⟨rfl, rfl⟩
      go_wp2_with fail
      exact bodyPost_ret (v := .tuple #[.int .i64 (M : Int), .int .i64 (n : Int), .int .i64 ((p : Int) + 1 + 8), .int .i64 0]) (by simp [results, Tryz.results42]) rfl ⟨rfl, ext_refl _⟩
    · rw [if_neg hq]
      have hq1 : ¬ ((wOf n : Int) = 8) := by omega
      clear hq
      generalize wOf n = q at *
      unfold decR
      go_enter Tryz.func42, Tryz.ntmps42
      go_wp2_with fail
      refine (HM _).mono ?_
      rintro e' w1 ⟨rfl, rfl⟩
      go_wp2_with fail
      refine (HT _).mono ?_
      rintro e' w1 ⟨rfl, rfl⟩
      go_wp2_with fail
      refine (HW _).mono ?_
      rintro e' w1 ⟨rfl, rfl⟩
      go_wp2_with fail
      exact bodyPost_ret (v := .tuple #[.int .i64 0, .int .i64 0, .int .i64 0, .int .i64 20]) (by simp [results, Tryz.results42]) rfl ⟨rfl, ext_refl _⟩

end Go.Proofs.YtmoghgmbpkpcfaaGreatDoor
