/-
  QueueSafe. Conditions: the program's variables hold what GInv says.
-/
import Derived.Test.YtmebjdbkngehiaaGreatDoorQhQ
import Derived.Test.YtmebjdbkngehiaaGreatDoorQhO
namespace Go.Proofs.YtmebjdbkngehiaaGreatDoor
open Go.RowKit Go.Shelf

/-- What stands at the end. -/
structure AtEnd (w0 w : World) (Ab Ak Aa Am An Ao : Option Addr) (lb la ln : List EI) (tk tm tn : List Value) (tb ub : Nat) (T : TypeId) (cT cU : Array Value) : Prop where
  b : RowE w Ab lb
  k : RowAt w Ak tk
  a : RowE w Aa la
  m : RowAt w Am tm
  n : RowE w An ln
  o : RowAt w Ao tn
  t : Blk w tb T cT
  u : Blk w ub T cU
  f : Below w0.heap.size w0 w
theorem AtEnd.go {w0 w w' : World} {Ab Ak Aa Am An Ao : Option Addr} {lb la ln : List EI} {tk tm tn : List Value} {tb ub : Nat} {T : TypeId} {cT cU : Array Value} (h : AtEnd w0 w Ab Ak Aa Am An Ao lb la ln tk tm tn tb ub T cT cU) (hb : Below w.heap.size w w') : AtEnd w0 w' Ab Ak Aa Am An Ao lb la ln tk tm tn tb ub T cT cU :=
  ⟨h.b.below hb, h.k.below hb, h.a.below hb, h.m.below hb, h.n.below hb, h.o.below hb, h.t.below hb, h.u.below hb, ext_trans h.f hb⟩
theorem AtEnd.four {w0 w : World} {Ab Ak Aa Am An Ao : Option Addr} {lb la ln : List EI} {tk tm tn : List Value} {tb ub : Nat} {T : TypeId} {a0 a1 a2 b0 b1 b2 : Value} (h : AtEnd w0 w Ab Ak Aa Am An Ao lb la ln tk tm tn tb ub T #[a0, a1, a2] #[b0, b1, b2]) : w.cell? ⟨tb, 0, none⟩ = some a0 ∧ w.cell? ⟨tb, 2, none⟩ = some a2 ∧ w.cell? ⟨ub, 0, none⟩ = some b0 ∧ w.cell? ⟨ub, 2, none⟩ = some b2 := ⟨h.t.c3.1, h.t.c3.2.2.1, h.u.c3.1, h.u.c3.2.2.1⟩

set_option maxRecDepth 100000 in
set_option maxHeartbeats 8000000 in
theorem law_safe {w : World} {aA aT aN aW aS : Addr} (hI : GInv w aA aT aN aW aS) (s : Int) (A : Option Addr) (n c : Nat) (xs : List QO) (ha : ArgL w A n xs) (x : QO) (hx : x.In) (wr cut : Int) (hwr : wr ≤ 9223372036854775807) : Calls Tryz.prog 7 #[.int .i64 s, .slice A n c, x.val, .int .i64 wr, .int .i64 cut] w (Ret (.bool true) w) := by
  have HWR := Lib.hid hwr
  clear hwr
  have HA := Lib.hid ha
  have HX := Lib.hid hx.cut
  have HXI := Lib.hid hx
  clear ha hx
  obtain ⟨xk, xa, xn, ⟨e0, e1, e2, e3, e4, e5, e6⟩⟩ := x
  have hE := ext_new w (.cells #[.int .i64 xk, .int .i64 xa, .int .i64 xn, .int .i64 e0, .int .i64 e1, .string e2, .string e3, .int .i64 e4, .bool e5, .bool e6] 25)
  have hX := Blk.new_ w 25 #[.int .i64 xk, .int .i64 xa, .int .i64 xn, .int .i64 e0, .int .i64 e1, .string e2, .string e3, .int .i64 e4, .bool e5, .bool e6]
  have hI0 := hI.below hE
  have cS := shown_any hI0
  unfold QO.val
  dsimp only
  go_enter Tryz.func7, Tryz.ntmps7
  go_wp2_with fail
  with_reducible refine cS.mono ?_
  rintro e w1 ⟨rfl, hb1⟩
  have hX1 := hX.below hb1
  have hB1 := ext_trans hE hb1
  obtain ⟨xb, hxb⟩ : ∃ xb, w.heap.size = xb := ⟨_, rfl⟩
  have hwx : w.heap.size ≤ xb := Nat.le_of_eq hxb
  rw [hxb] at hX1 ⊢
  have HWX := Lib.hid hwx
  clear cS hX hE hb1 hI0 hxb hwx
  obtain ⟨x0, x1, x2, x3, x4, x5, x6, x7, x8, x9⟩ := op_cells hX1
  have hE := ext_new w1 (.cells #[.int .i64 xk, .int .i64 xa, .int .i64 xn, .int .i64 e0, .int .i64 e1, .string e2, .string e3, .int .i64 e4, .bool e5, .bool e6] 25)
  have hR := Blk.new_ w1 25 #[.int .i64 xk, .int .i64 xa, .int .i64 xn, .int .i64 e0, .int .i64 e1, .string e2, .string e3, .int .i64 e4, .bool e5, .bool e6]
  have hX2 := hX1.below hE
  have hB2 := ext_trans hB1 hE
  have cC := qcut_any (some ⟨w1.heap.size, 0, none⟩) 1 1 [⟨xk, xa, xn, ⟨e0, e1, e2, e3, e4, e5, e6⟩⟩] _ rfl (rdC_one hR) (by
    intro y hy
    obtain rfl := List.mem_singleton.1 hy
    exact ⟨HXI.out.1, HXI.out.2.1⟩)
  clear hX1 hB1 hE hR
  go_wp2_with fail
  clear x0 x1 x2 x3 x4 x5 x6 x7 x8 x9
  with_reducible refine cC.mono ?_
  rintro e w3 ⟨V, rfl, hown, hb3⟩
  obtain ⟨y, hy⟩ : ∃ y, (QO.mk xk xa xn ⟨e0, e1, e2, e3, e4, e5, e6⟩).cut = y := ⟨_, rfl⟩
  rw [show [QO.mk xk xa xn ⟨e0, e1, e2, e3, e4, e5, e6⟩].map QO.cut = [y] from by rw [← hy]; rfl] at hown
  obtain ⟨-, r, c3, rfl, hr, hy0⟩ := op_own_one hown
  have hX3 := hX2.below hb3
  have hB3 := ext_trans hB2 hb3
  have HY : y.Ok := by rw [← hy]; exact HX.out
  obtain ⟨yk, ya, yn, ⟨f0, f1, f2, f3, f4, f5, f6⟩⟩ := y
  obtain ⟨x0, x1, x2, x3, x4, x5, x6, x7, x8, x9⟩ := hy0
  dsimp only at x0 x1 x2 x3 x4 x5 x6 x7 x8 x9
  replace HY := Lib.hid HY
  clear cC hown hy hX2 hB2 hb3 HX HXI
  obtain ⟨z0, z1, z2, z3, z4, z5, z6, z7, z8, z9⟩ : w3.frozen? ⟨xb, 0, none⟩ = false ∧ w3.frozen? ⟨xb, 1, none⟩ = false ∧ w3.frozen? ⟨xb, 2, none⟩ = false ∧ w3.frozen? ⟨xb, 3, none⟩ = false ∧ w3.frozen? ⟨xb, 4, none⟩ = false ∧ w3.frozen? ⟨xb, 5, none⟩ = false ∧ w3.frozen? ⟨xb, 6, none⟩ = false ∧ w3.frozen? ⟨xb, 7, none⟩ = false ∧ w3.frozen? ⟨xb, 8, none⟩ = false ∧ w3.frozen? ⟨xb, 9, none⟩ = false := ⟨hX3.frozen 0, hX3.frozen 1, hX3.frozen 2, hX3.frozen 3, hX3.frozen 4, hX3.frozen 5, hX3.frozen 6, hX3.frozen 7, hX3.frozen 8, hX3.frozen 9⟩
  obtain ⟨c0, c1, c2, c3', c4, c5, c6, c7, c8, c9⟩ := op_cells hX3
  have hX4 := blk_set10 hX3 (.int .i64 yk) (.int .i64 ya) (.int .i64 yn) (.int .i64 f0) (.int .i64 f1) (.string f2) (.string f3) (.int .i64 f4) (.bool f5) (.bool f6)
  have hB4 := below_set10 hB3 HWX.out (.int .i64 yk) (.int .i64 ya) (.int .i64 yn) (.int .i64 f0) (.int .i64 f1) (.string f2) (.string f3) (.int .i64 f4) (.bool f5) (.bool f6)
  obtain ⟨W4, hW4⟩ : ∃ W4, W4 = (((((((((w3.setCell ⟨xb, 0, none⟩ (.int .i64 yk)).setCell ⟨xb, 1, none⟩ (.int .i64 ya)).setCell ⟨xb, 2, none⟩ (.int .i64 yn)).setCell ⟨xb, 3, none⟩ (.int .i64 f0)).setCell ⟨xb, 4, none⟩ (.int .i64 f1)).setCell ⟨xb, 5, none⟩ (.string f2)).setCell ⟨xb, 6, none⟩ (.string f3)).setCell ⟨xb, 7, none⟩ (.int .i64 f4)).setCell ⟨xb, 8, none⟩ (.bool f5)).setCell ⟨xb, 9, none⟩ (.bool f6) := ⟨_, rfl⟩
  rw [← hW4] at hX4 hB4
  have HW4 := Lib.hid hW4
  have HX4 := Lib.hid (And.intro hX4 hB4)
  clear hX4 hB4 hX3 hW4
  go_wp2_with fail
  rw [← HW4.out]
  clear x0 x1 x2 x3 x4 x5 x6 x7 x8 x9 z0 z1 z2 z3 z4 z5 z6 z7 z8 z9 c0 c1 c2 c3' c4 c5 c6 c7 c8 c9 HW4 hr
  have cM := Made_any (hI.below HX4.out.2) s A n c xs (HA.out.below HX4.out.2)
  with_reducible refine cM.mono ?_
  intro e w5 hM
  clear cM
  obtain ⟨a, b, rfl, hb5, hno⟩ | ⟨p, g, o, q, b, rfl, hb, hP, ⟨m, rfl, hM, hm, hq0, -⟩, hn⟩ := hM
  · have hB5 := ext_trans HX4.out.2 hb5
    have HNO := Lib.hid hno
    have cM := Made_any (hI.below hB5) s A n c xs (HA.out.below hB5)
    clear hb5 hno HX4
    go_wp2_with fail
    with_reducible refine cM.mono ?_
    intro e w6 hM
    clear cM HA
    obtain ⟨a2, b2, rfl, hb6, -⟩ | ⟨p, g, o, q, b, rfl, hb, hP, ⟨m, rfl, hM, hm, -⟩, hn⟩ := hM
    · have hfin := ext_trans hB5 hb6
      clear hb6 hB5
      go_wp2_with fail
      go_ret
      exact ⟨rfl, hfin⟩
    · exfalso
      have h9 := hM.qg.nine
      rw [hM.len] at h9
      have := HNO.out
      omega
  have hP5 := hP.back HX4.out.2
  have hX5 := HX4.out.1.below hP.bel
  have hxF : ¬ KF o p g xb := fun hj => Nat.lt_irrefl _ (Nat.lt_of_lt_of_le HX4.out.1.lt (hP.new_ _ hj))
  have HB := Lib.hid hb
  have HQ0 := Lib.hid hq0
  have HM := Lib.hid (And.intro hM <| And.intro hm hn)
  clear hP hb HX4 hq0 hM hm hn
  have cM := Made_any (hI.below hP5.bel) (m : Int) A n c xs (HA.out.below hP5.bel)
  go_wp2_with fail
  with_reducible refine cM.mono ?_
  intro e w6 hM
  clear cM HA
  obtain ⟨a2, b2, rfl, hb6, hno⟩ | ⟨p2, g2, o2, q2, b2, rfl, hb2, hR, ⟨m2, hm2, hM2, -, hq2, -⟩, -⟩ := hM
  · exfalso
    have h9 := HM.out.1.qg.nine
    rw [HM.out.1.len] at h9
    have := HM.out.2.1
    omega
  obtain rfl : m = m2 := by omega
  obtain rfl : q = q2 := by
    have := HQ0.out
    rw [hq2] at this
    exact (Option.some.inj this).symm
  have hP6 := hP5.ext hR.bel
  have hR6 := hR.back hP5.bel
  have HB2 := Lib.hid hb2
  obtain ⟨N5, hN5⟩ : ∃ N5, w5.heap.size = N5 := ⟨_, rfl⟩
  have HD := Lib.hid (show (∀ j, KF o p g j → j < N5) ∧ (∀ j, KF o2 p2 g2 j → N5 ≤ j) ∧ xb < N5 from ⟨fun j hj => by rw [← hN5]; exact hP5.at_.lt hj, fun j hj => by rw [← hN5]; exact hR.new_ j hj, by rw [← hN5]; exact hX5.lt⟩)
  have hX6 : Sits w6 p g o xb _ _ := ⟨hX5.below hR.bel, hxF⟩
  clear hb2 hR hP5 hX5 hxF hq2 HQ0 hM2 hm2 hN5
  obtain ⟨x0, x1, x2, x3, x4, x5, x6, x7, x8, x9⟩ := op_cells hX6.1
  by_cases hk0 : yk < 0
  · have hfin := hP6.bel
    clear hX6 hP6 hR6
    go_wp2_with fail
    go_ret
    exact ⟨rfl, hfin⟩
  by_cases hk3 : 3 < yk
  · have hfin := hP6.bel
    clear hX6 hP6 hR6
    go_wp2_with fail
    go_ret
    exact ⟨rfl, hfin⟩
  obtain ⟨qa, nn, err, q2', n2, err2, r, lm, a1, a2, a3, a4, a5, a6⟩ := safe_law HM.out.1 (x := ⟨yk, ya, yn, ⟨f0, f1, f2, f3, f4, f5, f6⟩⟩) ⟨by show 0 ≤ yk; omega, by show yk ≤ 3; omega⟩ wr cut
  have HL := Lib.hid (And.intro a1 <| And.intro a2 <| And.intro a3 <| And.intro a4 a5)
  have hn := HM.out.2.2
  have hm := HM.out.2.1
  have hl1 : q.s.L.length ≤ 60 := HM.out.1.qg.qi.ok.len
  have hl2 : q.s.K.length ≤ 60 := HM.out.1.qg.qi.ok.most
  have hl3 : qa.s.L.length ≤ 60 := a4.len
  have hl4 : qa.s.K.length ≤ 60 := a4.most
  have HN := Lib.hid (show q.d.n ≤ 950000 ∧ q2'.d.n ≤ 950000 from ⟨by omega, by omega⟩)
  have HC := Lib.hid (And.intro (lost_count q.s.L) (lost_count qa.s.L))
  have HT := Lib.hid (show (txtsOf q.s.K).length = q.s.K.length ∧ (txtsOf qa.s.K).length = qa.s.K.length from ⟨by simp [txtsOf], by simp [txtsOf]⟩)
  have HYN := Lib.hid (show yk ≤ 4 by omega)
  clear a1 a2 a3 a4 a5 a6 hn hm HM
  have cE := play_entries hP6.at_
  rw [HB.out] at cE
  go_wp2_with fail
  clear x0 x1 x2 x3 x4 x5 x6 x7 x8 x9 hk0 hk3
  with_reducible refine cE.mono ?_
  rintro e w7 ⟨V, rfl, hown, hb7⟩
  obtain ⟨-, A7, c7, rfl, hr7⟩ := rowE_own hown
  have hP7 := hP6.ext hb7
  have hR7 := hR6.ext hb7
  replace hX6 := hX6.below hb7
  clear cE hown hb7 hP6 hR6
  have cL := left_any (c := c7) hr7 (by omega)
  go_wp2_with fail
  with_reducible refine cL.mono ?_
  rintro e w8 ⟨V, rfl, hown, hb8⟩
  obtain ⟨-, A8, c8, rfl, hr8⟩ := rowE_own hown
  have hE8 := RowE2.of_own hP7.at_ hown hr8
  have hF8 := Apart.of_own hR7.at_ hown
  have hP8 := hP7.ext hb8
  have hR8 := hR7.ext hb8
  replace hX6 := hX6.below hb8
  clear cL hown hb8 hP7 hR7 hr7 hr8
  have cK := play_keys hP8.at_
  rw [HB.out] at cK
  go_wp2_with fail
  with_reducible refine cK.mono ?_
  rintro e w9 ⟨V, rfl, hown, hb9⟩
  obtain ⟨A9, c9, rfl, hr9⟩ := row_own hown
  have hE9 := RowA2.of_own hP8.at_ hown hr9
  have hF9 := Apart.of_own hR8.at_ hown
  have hP9 := hP8.ext hb9
  have hR9 := hR8.ext hb9
  replace hX6 := hX6.below hb9
  replace hE8 := hE8.below hb9
  replace hF8 := hF8.below hb9
  clear cK hown hb9 hP8 hR8 hr9
  have hE := ext_new w9 (.cells #[.pointer (some ⟨p2, 0, none⟩), .pointer (some ⟨b2, 0, none⟩)] 41)
  have hK := Blk.new_ w9 41 #[.pointer (some ⟨p2, 0, none⟩), .pointer (some ⟨b2, 0, none⟩)]
  have hnk : ¬ KF o2 p2 g2 w9.heap.size := fun hj => Nat.lt_irrefl _ (hR9.at_.lt hj)
  have hkb : w.heap.size ≤ w9.heap.size := hR9.bel.size
  have hQ := hR9.ext hE
  obtain ⟨x0, x1, x2, x3, x4, x5, x6, x7, x8, x9⟩ := op_cells (hX6.1.below hE)
  obtain ⟨y0, y1, y2, y3, y4, y5, y6, y7, y8, y9⟩ := op_cells hX6.1
  obtain ⟨W, hW⟩ : ∃ W, W = w9.alloc (.cells #[.pointer (some ⟨p2, 0, none⟩), .pointer (some ⟨b2, 0, none⟩)] 41) := ⟨_, rfl⟩
  rw [← hW] at hK hQ hE
  have HW := Lib.hid hW
  have HHE := Lib.hid hE
  clear hW hE
  go_wp2_with fail
  rw [← HW.out]
  clear x0 x1 x2 x3 x4 x5 x6 x7 x8 x9 y0 y1 y2 y3 y4 y5 y6 y7 y8 y9 HW
  have cD := play_do ⟨yk, ya, yn, ⟨f0, f1, f2, f3, f4, f5, f6⟩⟩ hQ hI (by rw [HB2.out]; exact hK) hkb hnk HYN.out HY.out (by dsimp only; exact HN.out.1)
  rw [HL.out.1, HB2.out] at cD
  unfold QO.val at cD
  dsimp only at cD
  with_reducible refine cD.mono ?_
  rintro e w11 ⟨o11, A11, c11, rfl, hq11, -, -, hQ11, hs11, hkeep⟩
  have hmv := moves_do HHE.out rfl hs11 hkeep
  have HB11 := Lib.hid hq11
  clear cD hQ hK hnk hkb HHE hkeep hs11 hq11
  have hP11 := hP9.other HD.out.1 HD.out.2.1 hmv hQ11.bel
  have hX11 := hX6.other (fun hj => absurd (HD.out.2.1 _ hj) (Nat.not_le.2 HD.out.2.2)) hmv
  have hE11 := hE8.other hF8 hmv
  have hG11 := hE9.other hF9 hmv
  clear hmv hP9 hR9 hX6 hE8 hE9 hF8 hF9 HD HB2
  have hE := ext_new w11 (.cells #[.int .i64 nn, .slice A11 0 c11, .int .i64 err] 48)
  have hT : Sits _ p g o w11.heap.size _ _ := ⟨Blk.new_ w11 48 #[.int .i64 nn, .slice A11 0 c11, .int .i64 err], fun hj => Nat.lt_irrefl _ (hP11.at_.lt hj)⟩
  have hP12 := hP11.ext hE
  have hR12 := hQ11.ext hE
  have hX12 := hX11.below hE
  have hE12 := hE11.below hE
  have hG12 := hG11.below hE
  obtain ⟨W12, hW12⟩ : ∃ W12, w11.alloc (.cells #[.int .i64 nn, .slice A11 0 c11, .int .i64 err] 48) = W12 := ⟨_, rfl⟩
  rw [hW12] at hT hP12 hR12 hX12 hE12 hG12
  obtain ⟨tb, htb⟩ : ∃ tb, w11.heap.size = tb := ⟨_, rfl⟩
  rw [htb] at hT
  have HV := Lib.hid (And.intro hW12 htb)
  clear hP11 hQ11 hX11 hE11 hG11 hE hW12 htb
  have cE := play_entries hR12.at_
  rw [HB11.out] at cE
  go_wp2_with fail
  rw [HV.out.1, HV.out.2]
  clear HV
  with_reducible refine cE.mono ?_
  rintro e w13 ⟨V, rfl, hown, hb13⟩
  obtain ⟨-, A13, c13, rfl, hr13⟩ := rowE_own hown
  have hP13 := hP12.ext hb13
  have hR13 := hR12.ext hb13
  replace hX12 := hX12.below hb13
  replace hE12 := hE12.below hb13
  replace hG12 := hG12.below hb13
  replace hT := hT.below hb13
  clear cE hown hb13 hP12 hR12
  have cL := left_any (c := c13) hr13 (by omega)
  go_wp2_with fail
  with_reducible refine cL.mono ?_
  rintro e w14 ⟨V, rfl, hown, hb14⟩
  obtain ⟨-, A14, c14, rfl, hr14⟩ := rowE_own hown
  have hE14 := RowE2.of_own hP13.at_ hown hr14
  have hP14 := hP13.ext hb14
  have hR14 := hR13.ext hb14
  replace hX12 := hX12.below hb14
  replace hE12 := hE12.below hb14
  replace hG12 := hG12.below hb14
  replace hT := hT.below hb14
  clear cL hown hb14 hP13 hR13 hr13 hr14
  have cK := play_keys hR14.at_
  rw [HB11.out] at cK
  go_wp2_with fail
  with_reducible refine cK.mono ?_
  rintro e w15 ⟨V, rfl, hown, hb15⟩
  obtain ⟨A15, c15, rfl, hr15⟩ := row_own hown
  have hP15 := hP14.ext hb15
  have hE15 := RowA2.of_own hP14.at_ hown hr15
  replace hX12 := hX12.below hb15
  replace hE12 := hE12.below hb15
  replace hG12 := hG12.below hb15
  replace hT := hT.below hb15
  replace hE14 := hE14.below hb15
  clear cK hown hb15 hP14 hR14 hr15 HB11
  have cR := play_arm wr cut hP15 hI HWR.out
  rw [arm_is] at cR
  dsimp only at cR
  go_wp2_with fail
  with_reducible refine cR.mono ?_
  rintro e w16 ⟨rfl, o16, hw16, hq16⟩
  rw [HB.out] at hq16
  have HB16 := Lib.hid hq16
  have hP16 := hP15.went hw16
  have hmv := hw16.moves
  have hX6 := hX12.go hmv
  replace hE12 := hE12.go hmv
  replace hG12 := hG12.go hmv
  replace hT := hT.go hmv
  replace hE14 := hE14.go hmv
  replace hE15 := hE15.go hmv
  clear cR hw16 hq16 hP15 hX12 hmv
  have hE := ext_new w16 (.cells #[.pointer (some ⟨p, 0, none⟩), .pointer (some ⟨b, 0, none⟩)] 41)
  have hK := Blk.new_ w16 41 #[.pointer (some ⟨p, 0, none⟩), .pointer (some ⟨b, 0, none⟩)]
  have hnk : ¬ KF o16 p g w16.heap.size := fun hj => Nat.lt_irrefl _ (hP16.at_.lt hj)
  have hkb : w.heap.size ≤ w16.heap.size := hP16.bel.size
  have hQ := hP16.ext hE
  obtain ⟨x0, x1, x2, x3, x4, x5, x6, x7, x8, x9⟩ := op_cells (hX6.1.below hE)
  obtain ⟨y0, y1, y2, y3, y4, y5, y6, y7, y8, y9⟩ := op_cells hX6.1
  obtain ⟨W, hW⟩ : ∃ W, W = w16.alloc (.cells #[.pointer (some ⟨p, 0, none⟩), .pointer (some ⟨b, 0, none⟩)] 41) := ⟨_, rfl⟩
  rw [← hW] at hK hQ hE
  have HW := Lib.hid hW
  have HHE := Lib.hid hE
  clear hW hE
  go_wp2_with fail
  rw [← HW.out]
  clear x0 x1 x2 x3 x4 x5 x6 x7 x8 x9 y0 y1 y2 y3 y4 y5 y6 y7 y8 y9 HW
  have cD := play_do ⟨yk, ya, yn, ⟨f0, f1, f2, f3, f4, f5, f6⟩⟩ hQ hI (by rw [HB16.out]; exact hK) hkb hnk HYN.out HY.out (by dsimp only; rw [arm_n]; exact HN.out.1)
  rw [HL.out.2.1, HB16.out] at cD
  unfold QO.val at cD
  dsimp only at cD
  with_reducible refine cD.mono ?_
  rintro e w17 ⟨o17, A17, c17, rfl, hq17, -, -, hQ17, hs17, hkeep⟩
  have hmv := moves_do HHE.out rfl hs17 hkeep
  have HB17 := Lib.hid hq17
  clear cD hQ hK hnk hkb HHE hkeep hs17 hq17
  replace hE12 := hE12.go hmv
  replace hG12 := hG12.go hmv
  replace hT := hT.go hmv
  replace hE14 := hE14.go hmv
  replace hE15 := hE15.go hmv
  clear hmv hP16 hX6 HB16 HB17
  have hE := ext_new w17 (.cells #[.int .i64 n2, .slice A17 0 c17, .int .i64 err2] 48)
  have hU : Sits _ p g o17 w17.heap.size _ _ := ⟨Blk.new_ w17 48 #[.int .i64 n2, .slice A17 0 c17, .int .i64 err2], fun hj => Nat.lt_irrefl _ (hQ17.at_.lt hj)⟩
  have hP18 := hQ17.ext hE
  replace hE12 := hE12.below hE
  replace hG12 := hG12.below hE
  replace hT := hT.below hE
  replace hE14 := hE14.below hE
  replace hE15 := hE15.below hE
  obtain ⟨W18, hW18⟩ : ∃ W18, w17.alloc (.cells #[.int .i64 n2, .slice A17 0 c17, .int .i64 err2] 48) = W18 := ⟨_, rfl⟩
  rw [hW18] at hU hP18 hE12 hG12 hT hE14 hE15
  obtain ⟨ub, hub⟩ : ∃ ub, w17.heap.size = ub := ⟨_, rfl⟩
  rw [hub] at hU
  have HV := Lib.hid (And.intro hW18 hub)
  clear hQ17 hE hW18 hub
  have cD := IsDown_any hP18.at_.disk
  dsimp only at cD
  go_wp2_with fail
  rw [HV.out.1, HV.out.2]
  clear HV
  with_reducible refine cD.mono ?_
  rintro e w19 ⟨rfl, rfl⟩
  clear cD
  have cR := play_restart hP18
  dsimp only at cR
  go_wp2_with fail
  with_reducible refine cR.mono ?_
  rintro e w20 ⟨rfl, hw20⟩
  have hP20 := hP18.went hw20
  have hmv := hw20.moves
  replace hE12 := hE12.go hmv
  replace hG12 := hG12.go hmv
  replace hT := hT.go hmv
  replace hE14 := hE14.go hmv
  replace hE15 := hE15.go hmv
  replace hU := hU.go hmv
  clear cR hw20 hP18 hmv
  have cN := play_new hP20 hI (by dsimp only; exact HN.out.2)
  dsimp only at cN
  rw [HL.out.2.2.1] at cN
  dsimp only at cN
  go_wp2_with fail
  with_reducible refine cN.mono ?_
  rintro e w21 ⟨o21, lv, rfl, hlv, hw21⟩
  obtain ⟨A21, c21, rfl⟩ := own_form hlv
  have hP21 := hP20.went hw21
  have hmv := hw21.moves
  replace hE12 := hE12.go hmv
  replace hG12 := hG12.go hmv
  replace hT := hT.go hmv
  replace hE14 := hE14.go hmv
  replace hE15 := hE15.go hmv
  replace hU := hU.go hmv
  obtain ⟨b21, hb21⟩ := qptr_some hP21.at_
  rw [hb21]
  have HB21 := Lib.hid hb21
  clear cN hlv hw21 hP20 hb21 hmv
  have cE := play_entries hP21.at_
  rw [HB21.out] at cE
  go_wp2_with fail
  with_reducible refine cE.mono ?_
  rintro e w22 ⟨V, rfl, hown, hb22⟩
  obtain ⟨-, A22, c22, rfl, hr22⟩ := rowE_own hown
  have hP22 := hP21.ext hb22
  replace hE12 := hE12.below hb22
  replace hG12 := hG12.below hb22
  replace hT := hT.below hb22
  replace hE14 := hE14.below hb22
  replace hE15 := hE15.below hb22
  replace hU := hU.below hb22
  clear cE hown hb22 hP21
  have cK := play_keys hP22.at_
  rw [HB21.out] at cK
  go_wp2_with fail
  with_reducible refine cK.mono ?_
  rintro e w23 ⟨V, rfl, hown, hb23⟩
  obtain ⟨A23, c23, rfl, hr23⟩ := row_own hown
  have hP23 := hP22.ext hb23
  replace hr22 := hr22.below hb23
  replace hE12 := hE12.below hb23
  replace hG12 := hG12.below hb23
  replace hT := hT.below hb23
  replace hE14 := hE14.below hb23
  replace hE15 := hE15.below hb23
  replace hU := hU.below hb23
  clear cK hown hb23 hP22
  have hA : AtEnd w w23 _ _ _ _ _ _ _ _ _ _ _ _ _ _ _ _ _ := ⟨hE12.1, hG12.1, hE14.1, hE15.1, hr22, hr23, hT.1, hU.1, hP23.bel⟩
  have hl5 : (leftL q.s.L).length ≤ 60 := by have := HC.out; omega
  have hl6 : (leftL qa.s.L).length ≤ 60 := by have := HC.out; omega
  clear hP23 hE12 hG12 hE14 hE15 hr22 hr23 hT hU
  obtain ⟨hdn, e1, e2, hrs⟩ | ⟨hdn, e2, hrs | hrs⟩ := HL.out.2.2.2.2
  · have hrL := congrArg SN.L hrs
    have hrK := congrArg SN.K hrs
    dsimp only at hrL hrK
    rw [hrL, hrK] at hA
    rw [hdn, hrL, hrK]
    clear hrs hdn hrL hrK
    subst e1 e2
    have cS := same_any (c1 := c22) (c2 := c14) hA.n hA.a (by omega) (by omega)
    rw [decide_eq_true rfl] at cS
    obtain ⟨t0, t2, u0, u2⟩ := hA.four
    go_wp2_with fail
    clear t0 t2 u0 u2
    with_reducible refine cS.mono ?_
    rintro e w24 ⟨rfl, hb24⟩
    replace hA := hA.go hb24
    clear cS hb24
    have cS := texts_any (c1 := c23) (c2 := c15) hA.o hA.m (by have := HT.out; omega) (by have := HT.out; omega)
    rw [decide_eq_true rfl, HT.out.2] at cS
    obtain ⟨t0, t2, u0, u2⟩ := hA.four
    go_wp2_with fail
    clear t0 t2 u0 u2
    with_reducible refine cS.mono ?_
    rintro e w25 ⟨rfl, hb25⟩
    replace hA := hA.go hb25
    clear cS hb25
    obtain ⟨t0, t2, u0, u2⟩ := hA.four
    have hfin := hA.f
    clear hA
    go_wp2_with fail
    go_ret
    exact ⟨rfl, hfin⟩
  · have hrL := congrArg SN.L hrs
    have hrK := congrArg SN.K hrs
    dsimp only at hrL hrK
    rw [hrL, hrK] at hA
    rw [hdn, hrL, hrK]
    clear hrs hdn hrL hrK
    subst e2
    have cS := same_any (c1 := c22) (c2 := c8) hA.n hA.b (by omega) (by omega)
    rw [decide_eq_true rfl] at cS
    obtain ⟨t0, t2, u0, u2⟩ := hA.four
    go_wp2_with fail
    clear t0 t2 u0 u2
    with_reducible refine cS.mono ?_
    rintro e w24 ⟨rfl, hb24⟩
    replace hA := hA.go hb24
    clear cS hb24
    have cS := texts_any (c1 := c23) (c2 := c9) hA.o hA.k (by have := HT.out; omega) (by have := HT.out; omega)
    rw [decide_eq_true rfl, HT.out.1] at cS
    obtain ⟨t0, t2, u0, u2⟩ := hA.four
    go_wp2_with fail
    clear t0 t2 u0 u2
    with_reducible refine cS.mono ?_
    rintro e w25 ⟨rfl, hb25⟩
    replace hA := hA.go hb25
    clear cS hb25
    have cS := same_any (c1 := c22) (c2 := c14) hA.n hA.a (by omega) (by omega)
    obtain ⟨v26, hv⟩ : ∃ v, decide (leftL q.s.L = leftL qa.s.L) = v := ⟨_, rfl⟩
    rw [hv] at cS
    clear hv
    obtain ⟨t0, t2, u0, u2⟩ := hA.four
    go_wp2_with fail
    clear t0 t2 u0 u2
    with_reducible refine cS.mono ?_
    rintro e w26 ⟨rfl, hb26⟩
    replace hA := hA.go hb26
    clear cS hb26
    cases v26
    · obtain ⟨t0, t2, u0, u2⟩ := hA.four
      have hfin := hA.f
      clear hA
      go_wp2_with fail
      go_ret
      exact ⟨rfl, hfin⟩
    · have cS := texts_any (c1 := c23) (c2 := c15) hA.o hA.m (by have := HT.out; omega) (by have := HT.out; omega)
      rw [HT.out.1, HT.out.2] at cS
      obtain ⟨v27, hv⟩ : ∃ v, decide (txtsOf q.s.K = txtsOf qa.s.K) = v := ⟨_, rfl⟩
      rw [hv] at cS
      clear hv
      obtain ⟨t0, t2, u0, u2⟩ := hA.four
      go_wp2_with fail
      clear t0 t2 u0 u2
      with_reducible refine cS.mono ?_
      rintro e w27 ⟨rfl, hb27⟩
      replace hA := hA.go hb27
      clear cS hb27
      cases v27
      · obtain ⟨t0, t2, u0, u2⟩ := hA.four
        have hfin := hA.f
        clear hA
        go_wp2_with fail
        go_ret
        exact ⟨rfl, hfin⟩
      · obtain ⟨t0, t2, u0, u2⟩ := hA.four
        have hfin := hA.f
        clear hA
        go_wp2_with fail
        go_ret
        exact ⟨rfl, hfin⟩
  · have hrL := congrArg SN.L hrs
    have hrK := congrArg SN.K hrs
    dsimp only at hrL hrK
    rw [hrL, hrK] at hA
    rw [hdn, hrL, hrK]
    clear hrs hdn hrL hrK
    subst e2
    have cS := same_any (c1 := c22) (c2 := c8) hA.n hA.b (by omega) (by omega)
    obtain ⟨v24, hv⟩ : ∃ v, decide (leftL qa.s.L = leftL q.s.L) = v := ⟨_, rfl⟩
    rw [hv] at cS
    clear hv
    obtain ⟨t0, t2, u0, u2⟩ := hA.four
    go_wp2_with fail
    clear t0 t2 u0 u2
    with_reducible refine cS.mono ?_
    rintro e w24 ⟨rfl, hb24⟩
    replace hA := hA.go hb24
    clear cS hb24
    cases v24
    · have cS := same_any (c1 := c22) (c2 := c14) hA.n hA.a (by omega) (by omega)
      rw [decide_eq_true rfl] at cS
      obtain ⟨t0, t2, u0, u2⟩ := hA.four
      go_wp2_with fail
      clear t0 t2 u0 u2
      with_reducible refine cS.mono ?_
      rintro e w25 ⟨rfl, hb25⟩
      replace hA := hA.go hb25
      clear cS hb25
      have cS := texts_any (c1 := c23) (c2 := c15) hA.o hA.m (by have := HT.out; omega) (by have := HT.out; omega)
      rw [decide_eq_true rfl, HT.out.2] at cS
      obtain ⟨t0, t2, u0, u2⟩ := hA.four
      go_wp2_with fail
      clear t0 t2 u0 u2
      with_reducible refine cS.mono ?_
      rintro e w26 ⟨rfl, hb26⟩
      replace hA := hA.go hb26
      clear cS hb26
      obtain ⟨t0, t2, u0, u2⟩ := hA.four
      have hfin := hA.f
      clear hA
      go_wp2_with fail
      go_ret
      exact ⟨rfl, hfin⟩
    · have cS := texts_any (c1 := c23) (c2 := c9) hA.o hA.k (by have := HT.out; omega) (by have := HT.out; omega)
      rw [HT.out.2, HT.out.1] at cS
      obtain ⟨v25, hv⟩ : ∃ v, decide (txtsOf qa.s.K = txtsOf q.s.K) = v := ⟨_, rfl⟩
      rw [hv] at cS
      clear hv
      obtain ⟨t0, t2, u0, u2⟩ := hA.four
      go_wp2_with fail
      clear t0 t2 u0 u2
      with_reducible refine cS.mono ?_
      rintro e w25 ⟨rfl, hb25⟩
      replace hA := hA.go hb25
      clear cS hb25
      cases v25
      · have cS := same_any (c1 := c22) (c2 := c14) hA.n hA.a (by omega) (by omega)
        rw [decide_eq_true rfl] at cS
        obtain ⟨t0, t2, u0, u2⟩ := hA.four
        go_wp2_with fail
        clear t0 t2 u0 u2
        with_reducible refine cS.mono ?_
        rintro e w26 ⟨rfl, hb26⟩
        replace hA := hA.go hb26
        clear cS hb26
        have cS := texts_any (c1 := c23) (c2 := c15) hA.o hA.m (by have := HT.out; omega) (by have := HT.out; omega)
        rw [decide_eq_true rfl, HT.out.2] at cS
        obtain ⟨t0, t2, u0, u2⟩ := hA.four
        go_wp2_with fail
        clear t0 t2 u0 u2
        with_reducible refine cS.mono ?_
        rintro e w27 ⟨rfl, hb27⟩
        replace hA := hA.go hb27
        clear cS hb27
        obtain ⟨t0, t2, u0, u2⟩ := hA.four
        have hfin := hA.f
        clear hA
        go_wp2_with fail
        go_ret
        exact ⟨rfl, hfin⟩
      · have cS := same_any (c1 := c22) (c2 := c14) hA.n hA.a (by omega) (by omega)
        rw [decide_eq_true rfl] at cS
        obtain ⟨t0, t2, u0, u2⟩ := hA.four
        go_wp2_with fail
        clear t0 t2 u0 u2
        with_reducible refine cS.mono ?_
        rintro e w26 ⟨rfl, hb26⟩
        replace hA := hA.go hb26
        clear cS hb26
        have cS := texts_any (c1 := c23) (c2 := c15) hA.o hA.m (by have := HT.out; omega) (by have := HT.out; omega)
        rw [decide_eq_true rfl, HT.out.2] at cS
        obtain ⟨t0, t2, u0, u2⟩ := hA.four
        go_wp2_with fail
        clear t0 t2 u0 u2
        with_reducible refine cS.mono ?_
        rintro e w27 ⟨rfl, hb27⟩
        replace hA := hA.go hb27
        clear cS hb27
        obtain ⟨t0, t2, u0, u2⟩ := hA.four
        have hfin := hA.f
        clear hA
        go_wp2_with fail
        go_ret
        exact ⟨rfl, hfin⟩

end Go.Proofs.YtmebjdbkngehiaaGreatDoor
