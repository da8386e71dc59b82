/-
  QueueAgain. Conditions: the program's variables hold what GInv says.
-/
import Derived.Test.YtmebjdbkngehiaaGreatDoorQhO
namespace Go.Proofs.YtmebjdbkngehiaaGreatDoor
open Go.RowKit Go.Shelf

set_option maxRecDepth 100000 in
set_option maxHeartbeats 8000000 in
theorem law_again {w : World} {aA aT aN aW aS : Addr} (hI : GInv w aA aT aN aW aS) (s : Int) (A : Option Addr) (n c : Nat) (xs : List QO) (ha : ArgL w A n xs) (x : QO) (hx : x.In) : Calls Tryz.prog 8 #[.int .i64 s, .slice A n c, x.val] w (Ret (.bool true) w) := by
  have HA := Lib.hid ha
  have HX := Lib.hid hx.cut
  have HXI := Lib.hid hx
  clear ha hx
  obtain ⟨xk, xa, xn, ⟨e0, e1, e2, e3, e4, e5, e6⟩⟩ := x
  have hE := ext_new w (.cells #[.int .i64 xk, .int .i64 xa, .int .i64 xn, .int .i64 e0, .int .i64 e1, .string e2, .string e3, .int .i64 e4, .bool e5, .bool e6] 25)
  have hX := Blk.new_ w 25 #[.int .i64 xk, .int .i64 xa, .int .i64 xn, .int .i64 e0, .int .i64 e1, .string e2, .string e3, .int .i64 e4, .bool e5, .bool e6]
  have hI0 := hI.below hE
  have cS := shown_any hI0
  unfold QO.val
  dsimp only
  go_enter Tryz.func8, Tryz.ntmps8
  go_wp2_with fail
  with_reducible refine cS.mono ?_
  rintro e w1 ⟨rfl, hb1⟩
  have hX1 := hX.below hb1
  have hB1 := ext_trans hE hb1
  obtain ⟨xb, hxb⟩ : ∃ xb, w.heap.size = xb := ⟨_, rfl⟩
  have hwx : w.heap.size ≤ xb := Nat.le_of_eq hxb
  rw [hxb] at hX1 ⊢
  have HWX := Lib.hid hwx
  clear cS hX hE hb1 hI0 hxb hwx
  obtain ⟨x0, x1, x2, x3, x4, x5, x6, x7, x8, x9⟩ := op_cells hX1
  have hE := ext_new w1 (.cells #[.int .i64 xk, .int .i64 xa, .int .i64 xn, .int .i64 e0, .int .i64 e1, .string e2, .string e3, .int .i64 e4, .bool e5, .bool e6] 25)
  have hR := Blk.new_ w1 25 #[.int .i64 xk, .int .i64 xa, .int .i64 xn, .int .i64 e0, .int .i64 e1, .string e2, .string e3, .int .i64 e4, .bool e5, .bool e6]
  have hX2 := hX1.below hE
  have hB2 := ext_trans hB1 hE
  have cC := qcut_any (some ⟨w1.heap.size, 0, none⟩) 1 1 [⟨xk, xa, xn, ⟨e0, e1, e2, e3, e4, e5, e6⟩⟩] _ rfl (rdC_one hR) (by
    intro y hy
    obtain rfl := List.mem_singleton.1 hy
    exact ⟨HXI.out.1, HXI.out.2.1⟩)
  clear hX1 hB1 hE hR
  go_wp2_with fail
  clear x0 x1 x2 x3 x4 x5 x6 x7 x8 x9
  with_reducible refine cC.mono ?_
  rintro e w3 ⟨V, rfl, hown, hb3⟩
  obtain ⟨y, hy⟩ : ∃ y, (QO.mk xk xa xn ⟨e0, e1, e2, e3, e4, e5, e6⟩).cut = y := ⟨_, rfl⟩
  rw [show [QO.mk xk xa xn ⟨e0, e1, e2, e3, e4, e5, e6⟩].map QO.cut = [y] from by rw [← hy]; rfl] at hown
  obtain ⟨-, r, c3, rfl, hr, hy0⟩ := op_own_one hown
  have hX3 := hX2.below hb3
  have hB3 := ext_trans hB2 hb3
  have HY : y.Ok := by rw [← hy]; exact HX.out
  obtain ⟨yk, ya, yn, ⟨f0, f1, f2, f3, f4, f5, f6⟩⟩ := y
  obtain ⟨x0, x1, x2, x3, x4, x5, x6, x7, x8, x9⟩ := hy0
  dsimp only at x0 x1 x2 x3 x4 x5 x6 x7 x8 x9
  replace HY := Lib.hid HY
  clear cC hown hy hX2 hB2 hb3 HX HXI
  obtain ⟨z0, z1, z2, z3, z4, z5, z6, z7, z8, z9⟩ : w3.frozen? ⟨xb, 0, none⟩ = false ∧ w3.frozen? ⟨xb, 1, none⟩ = false ∧ w3.frozen? ⟨xb, 2, none⟩ = false ∧ w3.frozen? ⟨xb, 3, none⟩ = false ∧ w3.frozen? ⟨xb, 4, none⟩ = false ∧ w3.frozen? ⟨xb, 5, none⟩ = false ∧ w3.frozen? ⟨xb, 6, none⟩ = false ∧ w3.frozen? ⟨xb, 7, none⟩ = false ∧ w3.frozen? ⟨xb, 8, none⟩ = false ∧ w3.frozen? ⟨xb, 9, none⟩ = false := ⟨hX3.frozen 0, hX3.frozen 1, hX3.frozen 2, hX3.frozen 3, hX3.frozen 4, hX3.frozen 5, hX3.frozen 6, hX3.frozen 7, hX3.frozen 8, hX3.frozen 9⟩
  obtain ⟨c0, c1, c2, c3', c4, c5, c6, c7, c8, c9⟩ := op_cells hX3
  have hX4 := blk_set10 hX3 (.int .i64 yk) (.int .i64 ya) (.int .i64 yn) (.int .i64 f0) (.int .i64 f1) (.string f2) (.string f3) (.int .i64 f4) (.bool f5) (.bool f6)
  have hB4 := below_set10 hB3 HWX.out (.int .i64 yk) (.int .i64 ya) (.int .i64 yn) (.int .i64 f0) (.int .i64 f1) (.string f2) (.string f3) (.int .i64 f4) (.bool f5) (.bool f6)
  obtain ⟨W4, hW4⟩ : ∃ W4, W4 = (((((((((w3.setCell ⟨xb, 0, none⟩ (.int .i64 yk)).setCell ⟨xb, 1, none⟩ (.int .i64 ya)).setCell ⟨xb, 2, none⟩ (.int .i64 yn)).setCell ⟨xb, 3, none⟩ (.int .i64 f0)).setCell ⟨xb, 4, none⟩ (.int .i64 f1)).setCell ⟨xb, 5, none⟩ (.string f2)).setCell ⟨xb, 6, none⟩ (.string f3)).setCell ⟨xb, 7, none⟩ (.int .i64 f4)).setCell ⟨xb, 8, none⟩ (.bool f5)).setCell ⟨xb, 9, none⟩ (.bool f6) := ⟨_, rfl⟩
  rw [← hW4] at hX4 hB4
  have HW4 := Lib.hid hW4
  have HX4 := Lib.hid (And.intro hX4 hB4)
  clear hX4 hB4 hX3 hW4
  go_wp2_with fail
  rw [← HW4.out]
  clear x0 x1 x2 x3 x4 x5 x6 x7 x8 x9 z0 z1 z2 z3 z4 z5 z6 z7 z8 z9 c0 c1 c2 c3' c4 c5 c6 c7 c8 c9 HW4 hr
  have cM := Made_any (hI.below HX4.out.2) s A n c xs (HA.out.below HX4.out.2)
  with_reducible refine cM.mono ?_
  intro e w5 hM
  clear cM HA
  obtain ⟨a, b, rfl, hb5, -⟩ | ⟨p, g, o, q, b, rfl, hb, hP, ⟨m, rfl, hM, hm, -⟩, hn⟩ := hM
  · have hfin := ext_trans HX4.out.2 hb5
    clear hb5
    go_wp2_with fail
    go_ret
    exact ⟨rfl, hfin⟩
  have hP5 := hP.back HX4.out.2
  have hX5 := HX4.out.1.below hP.bel
  have hxF : ¬ KF o p g xb := fun hj => Nat.lt_irrefl _ (Nat.lt_of_lt_of_le HX4.out.1.lt (hP.new_ _ hj))
  have HB := Lib.hid hb
  clear hP hb HX4
  obtain ⟨x0, x1, x2, x3, x4, x5, x6, x7, x8, x9⟩ := op_cells hX5
  by_cases hk : 3 < yk
  · have hfin := hP5.bel
    clear hX5 hP5
    go_wp2_with fail
    go_ret
    exact ⟨rfl, hfin⟩
  obtain ⟨q1, r1, r2, an, a1, a2, a3, a4, a5, a6, n1, n2⟩ := again_full hM (x := ⟨yk, ya, yn, ⟨f0, f1, f2, f3, f4, f5, f6⟩⟩) (by show yk ≤ 3; omega)
  have HL := Lib.hid (And.intro a1 <| And.intro a2 <| And.intro a3 <| And.intro a4 <| And.intro a5 a6)
  have HN := Lib.hid (show q1.d.n ≤ 950000 ∧ r1.d.n ≤ 950000 from ⟨by omega, by omega⟩)
  have hy4 : yk ≤ 4 := by omega
  have hqn : q.d.n ≤ 950000 := by omega
  have HYN := Lib.hid (And.intro hy4 hqn)
  clear a1 a2 a3 a4 a5 a6 n1 n2 hM hy4 hqn hn hm
  have hE := ext_new w5 (.cells #[.pointer (some ⟨p, 0, none⟩), .pointer (some ⟨b, 0, none⟩)] 41)
  have hK := Blk.new_ w5 41 #[.pointer (some ⟨p, 0, none⟩), .pointer (some ⟨b, 0, none⟩)]
  have hnk : ¬ KF o p g w5.heap.size := fun hj => Nat.lt_irrefl _ (hP5.at_.lt hj)
  have hkb : w.heap.size ≤ w5.heap.size := hP5.bel.size
  have hP6 := hP5.ext hE
  obtain ⟨y0, y1, y2, y3, y4, y5, y6, y7, y8, y9⟩ := op_cells (hX5.below hE)
  obtain ⟨W6, hW6⟩ : ∃ W6, W6 = w5.alloc (.cells #[.pointer (some ⟨p, 0, none⟩), .pointer (some ⟨b, 0, none⟩)] 41) := ⟨_, rfl⟩
  rw [← hW6] at hK hP6
  have HW6 := Lib.hid hW6
  clear hP5 hE hW6 hX5 hxF
  go_wp2_with fail
  rw [← HW6.out]
  clear x0 x1 x2 x3 x4 x5 x6 x7 x8 x9 y0 y1 y2 y3 y4 y5 y6 y7 y8 y9 HW6 hk
  have cD := play_do ⟨yk, ya, yn, ⟨f0, f1, f2, f3, f4, f5, f6⟩⟩ hP6 hI (by rw [HB.out]; exact hK) hkb hnk HYN.out.1 HY.out HYN.out.2
  rw [HL.out.1, HB.out] at cD
  unfold QO.val at cD
  dsimp only at cD
  with_reducible refine cD.mono ?_
  rintro e w7 ⟨o7, A7, c7, rfl, hq7, -, -, hP7, -, -⟩
  clear cD hP6 hK hnk hkb
  have cE := play_entries hP7.at_
  rw [hq7] at cE
  have HQ7 := Lib.hid hq7
  clear hq7
  go_wp2_with fail
  with_reducible refine cE.mono ?_
  rintro e w8 ⟨V, rfl, hown, hb8⟩
  obtain ⟨-, A8, c8, rfl, hR8⟩ := rowE_own hown
  have hA8 := Apart.of_own hP7.at_ hown
  have hP8 := hP7.ext hb8
  clear cE hown hb8 hP7
  have cK := play_keys hP8.at_
  rw [HQ7.out] at cK
  go_wp2_with fail
  with_reducible refine cK.mono ?_
  rintro e w9 ⟨V, rfl, hown, hb9⟩
  obtain ⟨A9, c9, rfl, hR9⟩ := row_own hown
  have hA9 := Apart.of_own hP8.at_ hown
  have hP9 := hP8.ext hb9
  replace hR8 := hR8.below hb9
  replace hA8 := hA8.below hb9
  clear cK hown hb9 hP8
  have cN := play_new hP9 hI HN.out.1
  dsimp only at cN
  rw [HL.out.2.1] at cN
  dsimp only at cN
  go_wp2_with fail
  with_reducible refine cN.mono ?_
  rintro e w10 ⟨o10, lv, rfl, hlv, hw10⟩
  obtain ⟨A10, c10, rfl⟩ := own_form hlv
  have hP10 := hP9.went hw10
  replace hR8 := hR8.went hA8 hw10
  replace hA8 := hA8.went hw10
  replace hR9 := hR9.went hA9 hw10
  replace hA9 := hA9.went hw10
  obtain ⟨b10, hb10⟩ := qptr_some hP10.at_
  rw [hb10]
  have HB10 := Lib.hid hb10
  clear cN hlv hw10 hP9 hb10
  have cE := play_entries hP10.at_
  rw [HB10.out, HL.out.2.2.1] at cE
  dsimp only at cE
  go_wp2_with fail
  with_reducible refine cE.mono ?_
  rintro e w11 ⟨V, rfl, hown, hb11⟩
  obtain ⟨-, A11, c11, rfl, hR11⟩ := rowE_own hown
  have hA11 := Apart.of_own hP10.at_ hown
  have hP11 := hP10.ext hb11
  replace hR8 := hR8.below hb11
  replace hA8 := hA8.below hb11
  replace hR9 := hR9.below hb11
  replace hA9 := hA9.below hb11
  clear cE hown hb11 hP10
  obtain ⟨cq, vq, ho10, hs11, -, hne⟩ := pair_stand hP11.at_
  have HCB := Lib.hid (show Value.pointer (some ⟨cq.b, 0, none⟩) = Value.pointer (some ⟨b10, 0, none⟩) from by rw [← HB10.out, ho10]; rfl)
  clear ho10
  have cN := play_new2 hP11 hI HN.out.2
  dsimp only at cN
  rw [HL.out.2.2.2.1] at cN
  dsimp only at cN
  go_wp2_with fail
  with_reducible refine cN.mono ?_
  rintro e w12 ⟨o12, lv, rfl, hlv, hw12, hf12⟩
  obtain ⟨A12, c12, rfl⟩ := own_form hlv
  have hP12 := hP11.went hw12
  replace hR8 := hR8.went hA8 hw12
  replace hR9 := hR9.went hA9 hw12
  replace hR11 := hR11.went hA11 hw12
  have hs12 := hs11.after hne hf12
  rw [HL.out.2.2.1] at hs12
  clear hs11 hne hf12
  obtain ⟨b12, hb12⟩ := qptr_some hP12.at_
  rw [hb12]
  have HB12 := Lib.hid hb12
  clear cN hlv hw12 hP11 hb12 hA8 hA9 hA11
  have hl1 : q1.s.L.length ≤ 60 := HL.out.2.2.2.2.2.len
  have hl2 : q1.s.K.length ≤ 60 := HL.out.2.2.2.2.2.most
  have hcount := lost_count q1.s.L
  have HC := Lib.hid hcount
  clear hcount
  have hs1 : IntKind.i64.wrap (((lostL q1.s.L).length : Int) + ((leftL q1.s.L).length : Int)) = (q1.s.L.length : Int) := by rw [IntWalk.i64_in _ (by have := HC.out; omega)]; have := HC.out; omega
  have cL := left_any (c := c8) hR8 (by omega)
  go_wp2_with fail
  with_reducible refine cL.mono ?_
  rintro e w13 ⟨V, rfl, hown, hb13⟩
  obtain ⟨-, A13, c13, rfl, hR13⟩ := rowE_own hown
  have hP13 := hP12.ext hb13
  have hs13 := hs12.below hb13
  replace hR9 := hR9.below hb13
  replace hR11 := hR11.below hb13
  clear cL hown hb13 hP12 hR8
  have hl3 : (leftL q1.s.L).length ≤ 60 := by have := HC.out; omega
  have cS := same_any (c1 := c11) (c2 := c13) hR11 hR13 (by omega) (by omega)
  rw [decide_eq_true rfl] at cS
  go_wp2_with fail
  with_reducible refine cS.mono ?_
  rintro e w14 ⟨rfl, hb14⟩
  have hP14 := hP13.ext hb14
  have hs14 := hs13.below hb14
  replace hR9 := hR9.below hb14
  replace hR11 := hR11.below hb14
  clear cS hb14 hP13 hR13
  have cK := keys_any hs14 (by show q1.s.K.length ≤ 1000; omega)
  rw [HCB.out] at cK
  dsimp only at cK
  clear hs12 hs13 hs14
  go_wp2_with fail
  with_reducible refine cK.mono ?_
  rintro e w15 ⟨V, rfl, hown, hb15⟩
  obtain ⟨A15, c15, rfl, hR15⟩ := row_own hown
  have hP15 := hP14.ext hb15
  replace hR9 := hR9.below hb15
  replace hR11 := hR11.below hb15
  clear cK hown hb15 hP14
  have htl : (txtsOf q1.s.K).length = q1.s.K.length := by simp [txtsOf]
  have cT := texts_any (c1 := c15) (c2 := c9) hR15 hR9 (by omega) (by omega)
  rw [decide_eq_true rfl, htl] at cT
  clear htl
  go_wp2_with fail
  with_reducible refine cT.mono ?_
  rintro e w16 ⟨rfl, hb16⟩
  have hP16 := hP15.ext hb16
  replace hR11 := hR11.below hb16
  clear cT hb16 hP15 hR9 hR15
  have cE := play_entries hP16.at_
  rw [HB12.out, HL.out.2.2.2.2.1] at cE
  dsimp only at cE
  go_wp2_with fail
  with_reducible refine cE.mono ?_
  rintro e w17 ⟨V, rfl, hown, hb17⟩
  obtain ⟨-, A17, c17, rfl, hR17⟩ := rowE_own hown
  have hP17 := hP16.ext hb17
  replace hR11 := hR11.below hb17
  clear cE hown hb17 hP16
  have cS := same_any (c1 := c17) (c2 := c11) hR17 hR11 (by omega) (by omega)
  rw [decide_eq_true rfl] at cS
  go_wp2_with fail
  with_reducible refine cS.mono ?_
  rintro e w18 ⟨rfl, hb18⟩
  have hfin := (hP17.ext hb18).bel
  clear cS hb18 hP17 hR11 hR17
  go_wp2_with fail
  go_ret
  exact ⟨rfl, hfin⟩

end Go.Proofs.YtmebjdbkngehiaaGreatDoor
