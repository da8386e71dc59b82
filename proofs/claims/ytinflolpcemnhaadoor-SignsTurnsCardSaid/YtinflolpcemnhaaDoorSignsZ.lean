/-
  Package postriderlaw13: the walks of the statements SignsSame and SignsBack: each hands back true. Conditions: the listed variables hold different errors of errors.New's make ('GInv').
-/
import Derived.Test.YtinflolpcemnhaaDoorSignsY
import Derived.Test.YtinflolpcemnhaaDoorSignsL
namespace Go.Proofs.YtinflolpcemnhaaDoor
open Go.RowKit

theorem upN_le (n : Nat) : upN n < 2 ^ 20 := by
  have hx : n &&& 475175 ≤ 475175 := Nat.and_le_right
  rw [upN]
  cases (n &&& 475136) == 0
  · exact Nat.or_lt_two_pow (by omega) (by decide)
  · show n &&& 475175 < 2 ^ 20; omega
theorem dnN_le (n q : Nat) (c : Bool) (hq : q ≤ 2) : dnN n q c < 2 ^ 20 := by
  have hx : n &&& 475175 ≤ 475175 := Nat.and_le_right
  have h1 : (n &&& 475175) ||| 16 < 2 ^ 20 := Nat.or_lt_two_pow (by omega) (by decide)
  have h2 : ((n &&& 475175) ||| 16) ||| (q * 128) < 2 ^ 20 := Nat.or_lt_two_pow h1 (by omega)
  cases c
  · exact h2
  · exact Nat.or_lt_two_pow h2 (by decide)

theorem eq_of_beq_not {a b : Bool} (h : (!a == !b) = true) : (!a) = (!b) := by cases a <;> cases b <;> simp_all

theorem same1_int {a n : Nat} (ha : a < 2 ^ 20) (hn : n < 2 ^ 20) (h : same1 a n = true) :
    (bits .andNot .i64 (bits .andNot .i64 (a : Int) 64) (n : Int) == 0) = true ∧ (bits .and .i64 (a : Int) 64 != 0) = (bits .andNot .i64 (a : Int) 127 != 0) := by
  rw [same1, Bool.and_eq_true] at h
  have c1 : bits .andNot .i64 (a : Int) 64 = ((a &&& (allBits - 64) : Nat) : Int) := andNotN a 64 (by omega) (by decide)
  have c2 : bits .andNot .i64 (a : Int) 127 = ((a &&& (allBits - 127) : Nat) : Int) := andNotN a 127 (by omega) (by decide)
  have c3 : (bits .and .i64 (a : Int) 64 != 0) = !((a &&& 64) == 0) := bitT a 64 (by omega) (by decide)
  have hl : a &&& (allBits - 64) ≤ a := Nat.and_le_left
  have c4 : bits .andNot .i64 ((a &&& (allBits - 64) : Nat) : Int) (n : Int) = (((a &&& (allBits - 64)) &&& (allBits - n) : Nat) : Int) := andNotN _ n (by omega) (by omega)
  rw [c1, c4, c2, c3, castne, casteq]
  refine ⟨h.1, ?_⟩
  have h2 := h.2
  revert h2
  cases ((a &&& 64) == 0) <;> cases ((a &&& (allBits - 127)) == 0) <;> simp

theorem same2_int {b n : Nat} {c : Bool} (hb : b < 2 ^ 20) (hn : n < 2 ^ 20) (h : same2 b n c = true) :
    (bits .andNot .i64 (bits .andNot .i64 (n : Int) 64) (b : Int) == 0) = true ∧ (bits .and .i64 (b : Int) 16 != 0) = true ∧ (bits .and .i64 (b : Int) 64 == 0) = true ∧ (bits .and .i64 (b : Int) 8 != 0) = c := by
  rw [same2, Bool.and_eq_true, Bool.and_eq_true, Bool.and_eq_true] at h
  obtain ⟨⟨⟨h1, h2⟩, h3⟩, h4⟩ := h
  have c1 : bits .andNot .i64 (n : Int) 64 = ((n &&& (allBits - 64) : Nat) : Int) := andNotN n 64 (by omega) (by decide)
  have hl : n &&& (allBits - 64) ≤ n := Nat.and_le_left
  have c4 : bits .andNot .i64 ((n &&& (allBits - 64) : Nat) : Int) (b : Int) = (((n &&& (allBits - 64)) &&& (allBits - b) : Nat) : Int) := andNotN _ b (by omega) (by omega)
  have d1 : (bits .and .i64 (b : Int) 16 != 0) = !((b &&& 16) == 0) := bitT b 16 (by omega) (by decide)
  have d2 : bits .and .i64 (b : Int) 64 = ((b &&& 64 : Nat) : Int) := andN b 64 (by omega) (by decide)
  have d3 : (bits .and .i64 (b : Int) 8 != 0) = !((b &&& 8) == 0) := bitT b 8 (by omega) (by decide)
  rw [c1, c4, d1, d2, d3, casteq, casteq]
  refine ⟨h1, h2, h3, ?_⟩
  revert h4
  cases ((b &&& 8) == 0) <;> cases c <;> simp

theorem SignsSame_law (f g p : Int) (c : Bool) (w : World) (A : Nat → Addr) (hI : GInv w A) (hf : f ≤ 9223372036854775807) (hg : g ≤ 9223372036854775807) :
    Calls Tryd.prog 3 #[.int .i64 f, .int .i64 g, .int .i64 p, .bool c] w (Ret (.bool true) w) := by
  have U := Lib.hid (Up_cases f hf)
  have D := Lib.hid (Down_cases g p c hg)
  go_enter Tryd.func3, Tryd.ntmps3
  go_wp2_with fail
  refine (shown_any _ A hI).mono ?_
  rintro e w1 ⟨rfl, hb1⟩
  go_wp2_with fail
  refine (Up_any f _ A (hI.below hb1) hf).mono ?_
  rintro e w2 ⟨rfl, hb2'⟩
  have hb2 := ext_trans hb1 hb2'
  clear hb1 hb2'
  go_wp2_with fail
  refine (Down_any g p c _ A (hI.below hb2)).mono ?_
  rintro e w3 ⟨rfl, hb3'⟩
  have hb3 := ext_trans hb2 hb3'
  clear hb2 hb3'
  rcases U.out with ⟨n, rfl, hn, hok, u1, u2⟩ | ⟨E, hE, u1, u2⟩
  · rw [u1, u2]
    obtain ⟨s1, s2⟩ := same1_int (upN_le n) (by omega) (up_all hok).1
    clear u1 u2 U
    generalize upN n = a at s1 s2
    rcases D.out with ⟨m, q, rfl, rfl, hm, hq, hd, v1, v2⟩ | ⟨F, hF, v1, v2⟩
    · rw [v1, v2]
      obtain ⟨t1, t2, t3, t4⟩ := same2_int (dnN_le m q c hq) (by omega) (dn_all hd c).1
      clear v1 v2 D hd
      generalize dnN m q c = b at t1 t2 t3 t4
      go_wp2_with fail
      go_ret
      exact ⟨by first | rfl | simp [*], hb3⟩
    · rw [v1, v2]
      have hF' : (F != 0) = true := by rw [bne, hF]; rfl
      clear v1 v2 D
      go_wp2_with fail
      go_ret
      exact ⟨by first | rfl | simp [*], hb3⟩
  · rw [u1, u2]
    have hE' : (E != 0) = true := by rw [bne, hE]; rfl
    clear u1 u2 U
    rcases D.out with ⟨m, q, rfl, rfl, hm, hq, hd, v1, v2⟩ | ⟨F, hF, v1, v2⟩
    · rw [v1, v2]
      obtain ⟨t1, t2, t3, t4⟩ := same2_int (dnN_le m q c hq) (by omega) (dn_all hd c).1
      clear v1 v2 D hd
      generalize dnN m q c = b at t1 t2 t3 t4
      go_wp2_with fail
      go_ret
      exact ⟨by first | rfl | simp [*], hb3⟩
    · rw [v1, v2]
      have hF' : (F != 0) = true := by rw [bne, hF]; rfl
      clear v1 v2 D
      go_wp2_with fail
      go_ret
      exact ⟨by first | rfl | simp [*], hb3⟩

end Go.Proofs.YtinflolpcemnhaaDoor
