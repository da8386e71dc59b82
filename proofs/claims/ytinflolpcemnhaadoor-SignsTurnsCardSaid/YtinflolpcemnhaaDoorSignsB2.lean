/-
  Package postriderlaw13: the walk of the statement SignsBack: it hands back true. Conditions: the listed variables hold different errors of errors.New's make ('GInv').
-/
import Derived.Test.YtinflolpcemnhaaDoorSignsZ
namespace Go.Proofs.YtinflolpcemnhaaDoor
open Go.RowKit

theorem Up_val {n : Nat} (h : upOK n = true) : toldV (upV (n : Int)) (upE (n : Int)) = ((upN n : Nat) : Int) ∧ codeIx (upE (n : Int)) = 0 := by
  have h0 := h
  rw [upOK, Bool.and_eq_true, Bool.and_eq_true] at h
  obtain ⟨⟨h1, h2⟩, h3⟩ := h
  have hin : n &&& 508351 = n := by
    rw [sixN, Bool.and_eq_true, isInN, beq_iff_eq] at h1
    exact h1.1
  have hle : n ≤ 508351 := by rw [← hin]; exact Nat.and_le_right
  have hn : n < 2 ^ 62 := by omega
  have c1 := (sixB_nat n hn).trans h1
  have c2 : (bits .and .i64 (n : Int) 32768 != 0) = !((n &&& 32768) == 0) := bitT n 32768 hn (by decide)
  have c3 : (bits .and .i64 (n : Int) 16 != 0) = !((n &&& 16) == 0) := bitT n 16 hn (by decide)
  have c4 : (bits .and .i64 (n : Int) 475136 != 0) = !((n &&& 475136) == 0) := bitT n 475136 hn (by decide)
  rw [h2] at c2
  rw [h3] at c3
  have e : upE (n : Int) = none := by rw [upE, c1, c2, c3]; rfl
  have hg := gat_nat n hn
  have hx : n &&& 475175 ≤ 475175 := Nat.and_le_right
  have ho : bits .or .i64 ((n &&& 475175 : Nat) : Int) 64 = (((n &&& 475175) ||| 64 : Nat) : Int) := orN (n &&& 475175) 64 (by omega) (by decide)
  rw [e]
  refine ⟨?_, rfl⟩
  show upV (n : Int) = _
  rw [upV, upN, c4]
  cases (n &&& 475136) == 0
  · show bits .or .i64 (gat (n : Int)) 64 = _
    rw [hg, ho]
  · show gat (n : Int) = _
    rw [hg]

theorem Class_val {n : Nat} (h : upOK n = true) : rClass (n : Int) = (((n / 128 % 4 : Nat) : Int), !((n &&& 8) == 0), 0) := by
  rw [upOK, Bool.and_eq_true, Bool.and_eq_true] at h
  obtain ⟨⟨h1, h2⟩, h3⟩ := h
  have hin : n &&& 508351 = n := by
    rw [sixN, Bool.and_eq_true, isInN, beq_iff_eq] at h1
    exact h1.1
  have hle : n ≤ 508351 := by rw [← hin]; exact Nat.and_le_right
  have hn : n < 2 ^ 62 := by omega
  have c1 := (sixB_nat n hn).trans h1
  have c3 : (bits .and .i64 (n : Int) 8 != 0) = !((n &&& 8) == 0) := bitT n 8 hn (by decide)
  rw [rClass, ← six_same (n : Int) (by omega), c1, c3, if_pos rfl]
  congr 1

theorem SignsBack_law (f g p : Int) (c : Bool) (w : World) (A : Nat → Addr) (hI : GInv w A) (hf : f ≤ 9223372036854775807) (hg : g ≤ 9223372036854775807) :
    Calls Tryd.prog 6 #[.int .i64 f, .int .i64 g, .int .i64 p, .bool c] w (Ret (.bool true) w) := by
  have U := Lib.hid (Up_cases f hf)
  have D := Lib.hid (Down_cases g p c hg)
  have C := Lib.hid (Class_ref f hf)
  go_enter Tryd.func6, Tryd.ntmps6
  go_wp2_with fail
  refine (shown_any _ A hI).mono ?_
  rintro e w1 ⟨rfl, hb1⟩
  go_wp2_with fail
  refine (Up_any f _ A (hI.below hb1) hf).mono ?_
  rintro e w2 ⟨rfl, hb2'⟩
  have hb2 := ext_trans hb1 hb2'
  clear hb1 hb2'
  go_wp2_with fail
  refine (Class_any f _ A (hI.below hb2) hf).mono ?_
  rintro e w3 ⟨rfl, hb3'⟩
  have hb3 := ext_trans hb2 hb3'
  clear hb2 hb3'
  rw [C.out.1, C.out.2.1, C.out.2.2]
  rcases U.out with ⟨n, rfl, hn, hok, u1, u2⟩ | ⟨E, hE, u1, u2⟩
  · have hcv := Class_val hok
    have hbk := (up_all hok).2
    rw [back1, Bool.and_eq_true, beq_iff_eq] at hbk
    obtain ⟨hd1, hd2⟩ := hbk
    have hv := Down_val (upN n) (n / 128 % 4) (!((n &&& 8) == 0)) hd1
    rw [hd2] at hv
    have HV := Lib.hid hv
    rw [u1, u2, hcv]
    clear u1 u2 U hcv hd1 hd2 hv C
    generalize n / 128 % 4 = pp at HV
    generalize (!((n &&& 8) == 0)) = cc at HV
    generalize upN n = a at HV
    go_wp2_with fail
    refine (Down_any (a : Int) (pp : Int) cc _ A (hI.below hb3)).mono ?_
    rintro e w4 ⟨rfl, hb4'⟩
    have hb4 := ext_trans hb3 hb4'
    clear hb3 hb4'
    rw [HV.out.1, HV.out.2]
    go_wp2_with fail
    refine (Down_any g p c _ A (hI.below hb4)).mono ?_
    rintro e w5 ⟨rfl, hb5'⟩
    have hb5 := ext_trans hb4 hb5'
    clear hb4 hb5'
    rcases D.out with ⟨m, q, rfl, rfl, hm, hq, hd, v1, v2⟩ | ⟨F, hF, v1, v2⟩
    · rw [v1, v2]
      have hbk := (dn_all hd c).2
      rw [back2, Bool.and_eq_true, Bool.and_eq_true, Bool.and_eq_true, beq_iff_eq, beq_iff_eq, beq_iff_eq] at hbk
      obtain ⟨⟨⟨x1, x2⟩, x3⟩, x4⟩ := hbk
      have hU := Up_val x1
      rw [x2] at hU
      have hC := Class_val x1
      rw [x3, x4] at hC
      have hle := dnN_le m q c hq
      clear v1 v2 D hd x1 x2 x3 x4
      generalize dnN m q c = d at hU hC hle
      have HU := Lib.hid hU
      have HC := Lib.hid hC
      have HCR := Lib.hid (Class_ref (d : Int) (by omega))
      clear hU hC
      go_wp2_with fail
      refine (Up_any (d : Int) _ A (hI.below hb5) (by omega)).mono ?_
      rintro e w6 ⟨rfl, hb6'⟩
      have hb6 := ext_trans hb5 hb6'
      clear hb5 hb6'
      rw [HU.out.1, HU.out.2]
      go_wp2_with fail
      refine (Class_any (d : Int) _ A (hI.below hb6) (by omega)).mono ?_
      rintro e w7 ⟨rfl, hb7'⟩
      have hb7 := ext_trans hb6 hb7'
      clear hb6 hb7'
      rw [HCR.out.1, HCR.out.2.1, HCR.out.2.2, HC.out]
      go_wp2_with fail
      go_ret
      exact ⟨by first | rfl | simp [*], hb7⟩
    · rw [v1, v2]
      have hF' : (F != 0) = true := by rw [bne, hF]; rfl
      clear v1 v2 D
      go_wp2_with fail
      refine (Up_any 0 _ A (hI.below hb5) (by decide)).mono ?_
      rintro e w6 ⟨rfl, hb6'⟩
      have hb6 := ext_trans hb5 hb6'
      clear hb5 hb6'
      generalize toldV (upV 0) (upE 0) = y1
      generalize codeIx (upE 0) = y2
      go_wp2_with fail
      refine (Class_any 0 _ A (hI.below hb6) (by decide)).mono ?_
      rintro e w7 ⟨rfl, hb7'⟩
      have hb7 := ext_trans hb6 hb7'
      clear hb6 hb7'
      generalize toldV (bits .and .i64 (wrap64 ((0 : Int).tdiv 128)) 3) (clsE 0) = y3
      generalize (codeIx (clsE 0) == 0 && (bits .and .i64 0 8 != 0)) = y4
      generalize codeIx (clsE 0) = y5
      go_wp2_with fail
      go_ret
      exact ⟨by first | rfl | simp [*], hb7⟩
  · rw [u1, u2]
    have hE' : (E != 0) = true := by rw [bne, hE]; rfl
    clear u1 u2 U C
    generalize rClass f = rc
    obtain ⟨r1, r2, r3⟩ := rc
    go_wp2_with fail
    refine (Down_any 0 r1 r2 _ A (hI.below hb3)).mono ?_
    rintro e w4 ⟨rfl, hb4'⟩
    have hb4 := ext_trans hb3 hb4'
    clear hb3 hb4'
    generalize toldV (dnV 0 r1 r2) (dnE 0 r1) = y8
    generalize codeIx (dnE 0 r1) = y9
    go_wp2_with fail
    refine (Down_any g p c _ A (hI.below hb4)).mono ?_
    rintro e w5 ⟨rfl, hb5'⟩
    have hb5 := ext_trans hb4 hb5'
    clear hb4 hb5'
    rcases D.out with ⟨m, q, rfl, rfl, hm, hq, hd, v1, v2⟩ | ⟨F, hF, v1, v2⟩
    · rw [v1, v2]
      have hbk := (dn_all hd c).2
      rw [back2, Bool.and_eq_true, Bool.and_eq_true, Bool.and_eq_true, beq_iff_eq, beq_iff_eq, beq_iff_eq] at hbk
      obtain ⟨⟨⟨x1, x2⟩, x3⟩, x4⟩ := hbk
      have hU := Up_val x1
      rw [x2] at hU
      have hC := Class_val x1
      rw [x3, x4] at hC
      have hle := dnN_le m q c hq
      clear v1 v2 D hd x1 x2 x3 x4
      generalize dnN m q c = d at hU hC hle
      have HU := Lib.hid hU
      have HC := Lib.hid hC
      have HCR := Lib.hid (Class_ref (d : Int) (by omega))
      clear hU hC
      go_wp2_with fail
      refine (Up_any (d : Int) _ A (hI.below hb5) (by omega)).mono ?_
      rintro e w6 ⟨rfl, hb6'⟩
      have hb6 := ext_trans hb5 hb6'
      clear hb5 hb6'
      rw [HU.out.1, HU.out.2]
      go_wp2_with fail
      refine (Class_any (d : Int) _ A (hI.below hb6) (by omega)).mono ?_
      rintro e w7 ⟨rfl, hb7'⟩
      have hb7 := ext_trans hb6 hb7'
      clear hb6 hb7'
      rw [HCR.out.1, HCR.out.2.1, HCR.out.2.2, HC.out]
      go_wp2_with fail
      go_ret
      exact ⟨by first | rfl | simp [*], hb7⟩
    · rw [v1, v2]
      have hF' : (F != 0) = true := by rw [bne, hF]; rfl
      clear v1 v2 D
      go_wp2_with fail
      refine (Up_any 0 _ A (hI.below hb5) (by decide)).mono ?_
      rintro e w6 ⟨rfl, hb6'⟩
      have hb6 := ext_trans hb5 hb6'
      clear hb5 hb6'
      generalize toldV (upV 0) (upE 0) = y1
      generalize codeIx (upE 0) = y2
      go_wp2_with fail
      refine (Class_any 0 _ A (hI.below hb6) (by decide)).mono ?_
      rintro e w7 ⟨rfl, hb7'⟩
      have hb7 := ext_trans hb6 hb7'
      clear hb6 hb7'
      generalize toldV (bits .and .i64 (wrap64 ((0 : Int).tdiv 128)) 3) (clsE 0) = y3
      generalize (codeIx (clsE 0) == 0 && (bits .and .i64 0 8 != 0)) = y4
      generalize codeIx (clsE 0) = y5
      go_wp2_with fail
      go_ret
      exact ⟨by first | rfl | simp [*], hb7⟩

end Go.Proofs.YtinflolpcemnhaaDoor
