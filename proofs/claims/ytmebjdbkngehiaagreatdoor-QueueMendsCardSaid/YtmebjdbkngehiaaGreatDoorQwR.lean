/-
  QueueMends. Conditions: the program's variables hold what GInv says.
-/
import Derived.Test.YtmebjdbkngehiaaGreatDoorQhQ
import Derived.Test.YtmebjdbkngehiaaGreatDoorQhO
import Derived.Test.YtmebjdbkngehiaaGreatDoorQhJ
namespace Go.Proofs.YtmebjdbkngehiaaGreatDoor
open Go.RowKit Go.Shelf

set_option maxRecDepth 100000 in
set_option maxHeartbeats 8000000 in
theorem law_mends {w : World} {aA aT aN aW aS : Addr} (hI : GInv w aA aT aN aW aS) (s : Int) (A : Option Addr) (n c : Nat) (xs : List QO) (ha : ArgL w A n xs) (xa xb wr cut : Int) (hxa : xa ≤ 9223372036854775807) (hxb : xb ≤ 9223372036854775807) (hwr : wr ≤ 9223372036854775807) :
    Calls Tryz.prog 9 #[.int .i64 s, .slice A n c, .int .i64 xa, .int .i64 xb, .int .i64 wr, .int .i64 cut] w (Ret (.bool true) w) := by
  have cS := shown_any hI
  have HA := Lib.hid ha
  clear ha
  go_enter Tryz.func9, Tryz.ntmps9
  go_wp2_with fail
  with_reducible refine cS.mono ?_
  rintro e w1 ⟨rfl, hb1⟩
  have cM := Made_any (hI.below hb1) s A n c xs (HA.out.below hb1)
  clear cS HA
  go_wp2_with fail
  with_reducible refine cM.mono ?_
  intro e w2 hM
  clear cM
  obtain ⟨a, b, rfl, hb2, -⟩ | ⟨p, g, o, q, b, rfl, hb, hP, ⟨m, rfl, hM, hm, -⟩, hn⟩ := hM
  · have hfin := ext_trans hb1 hb2
    clear hb1 hb2
    go_wp2_with fail
    go_ret
    exact ⟨rfl, hfin⟩
  have hP2 := hP.back hb1
  obtain ⟨q1, q2, an1, an2, d3, o3, l3, e3, r, l4, a1, a2, a3, a4, a5, a6, a7, n1, n2, n3⟩ := mends_law hM xa xb wr cut
  have HL := Lib.hid (And.intro a1 <| And.intro a2 <| And.intro a3 <| And.intro a4 <| And.intro a5 <| And.intro a6 a7)
  have HN := Lib.hid (show q.d.n ≤ 950000 ∧ q1.d.n ≤ 950000 ∧ q2.d.n ≤ 950000 ∧ d3.n ≤ 950000 from ⟨by omega, by omega, by omega, by omega⟩)
  have HX := Lib.hid (And.intro hxa <| And.intro hxb hwr)
  have HB := Lib.hid hb
  clear a1 a2 a3 a4 a5 a6 a7 n1 n2 n3 hM hn hm hP hb1 hb hxa hxb hwr
  have cE := play_sent ⟨1, xa, 0, EI.nil⟩ rfl hP2 hI HN.out.1
  rw [HL.out.1, HB.out] at cE
  dsimp only at cE
  go_wp2_with fail
  with_reducible refine cE.mono ?_
  rintro e w3 ⟨rfl, o3', hw3, hq3⟩
  have hP3 := hP2.went hw3
  have HB3 := Lib.hid hq3
  clear cE hw3 hq3 hP2
  have cE := play_sent ⟨1, xb, 0, EI.nil⟩ rfl hP3 hI HN.out.2.1
  rw [HL.out.2.1, HB3.out] at cE
  dsimp only at cE
  go_wp2_with fail
  with_reducible refine cE.mono ?_
  rintro e w4 ⟨rfl, o4, hw4, hq4⟩
  have hP4 := hP3.went hw4
  have HB4 := Lib.hid hq4
  clear cE hw4 hq4 hP3
  have cE := play_entries hP4.at_
  rw [HB4.out] at cE
  go_wp2_with fail
  with_reducible refine cE.mono ?_
  rintro e w5 ⟨V, rfl, hown, hb5⟩
  obtain ⟨-, A8, c8, rfl, hR8⟩ := rowE_own hown
  have hA8 := Apart.of_own hP4.at_ hown
  have hP5 := hP4.ext hb5
  clear cE hown hb5 hP4
  have cK := play_keys hP5.at_
  rw [HB4.out] at cK
  go_wp2_with fail
  with_reducible refine cK.mono ?_
  rintro e w6 ⟨V, rfl, hown, hb6⟩
  obtain ⟨A9, c9, rfl, hR9⟩ := row_own hown
  have hA9 := Apart.of_own hP5.at_ hown
  have hP6 := hP5.ext hb6
  replace hR8 := hR8.below hb6
  replace hA8 := hA8.below hb6
  clear cK hown hb6 hP5
  have cR := play_arm wr cut hP6 hI HX.out.2.2
  rw [arm_is] at cR
  dsimp only at cR
  go_wp2_with fail
  with_reducible refine cR.mono ?_
  rintro e w7 ⟨rfl, o7, hw7, -⟩
  have hP7 := hP6.went hw7
  replace hR8 := hR8.went hA8 hw7
  replace hA8 := hA8.went hw7
  replace hR9 := hR9.went hA9 hw7
  replace hA9 := hA9.went hw7
  clear cR hw7 hP6
  have cN := play_new hP7 hI (by dsimp only; rw [arm_n]; exact HN.out.2.2.1)
  dsimp only at cN
  rw [HL.out.2.2.1] at cN
  dsimp only at cN
  go_wp2_with fail
  with_reducible refine cN.mono ?_
  rintro e w8 ⟨o8, lv, rfl, hlv, hw8⟩
  obtain ⟨A10, c10, rfl⟩ := own_form hlv
  have hP8 := hP7.went hw8
  replace hR8 := hR8.went hA8 hw8
  replace hA8 := hA8.went hw8
  replace hR9 := hR9.went hA9 hw8
  replace hA9 := hA9.went hw8
  clear cN hlv hw8 hP7
  have cD := IsDown_any hP8.at_.disk
  dsimp only at cD
  go_wp2_with fail
  with_reducible refine cD.mono ?_
  rintro e w9 ⟨rfl, rfl⟩
  clear cD
  have cR := play_restart hP8
  dsimp only at cR
  go_wp2_with fail
  with_reducible refine cR.mono ?_
  rintro e w10 ⟨rfl, hw10⟩
  have hP10 := hP8.went hw10
  replace hR8 := hR8.went hA8 hw10
  replace hA8 := hA8.went hw10
  replace hR9 := hR9.went hA9 hw10
  replace hA9 := hA9.went hw10
  clear cR hw10 hP8
  have cN := play_new hP10 hI (by dsimp only; exact HN.out.2.2.2)
  dsimp only at cN
  rw [HL.out.2.2.2.1] at cN
  dsimp only at cN
  go_wp2_with fail
  with_reducible refine cN.mono ?_
  rintro e w11 ⟨o11, lv, rfl, hlv, hw11⟩
  obtain ⟨A11, c11, rfl⟩ := own_form hlv
  have hP11 := hP10.went hw11
  replace hR8 := hR8.went hA8 hw11
  replace hR9 := hR9.went hA9 hw11
  obtain ⟨b11, hb11⟩ := qptr_some hP11.at_
  rw [hb11]
  have HB11 := Lib.hid hb11
  clear cN hlv hw11 hP10 hb11 hA8 hA9
  have hl1 : q2.s.L.length ≤ 60 := HL.out.2.2.2.2.2.1.len
  have hl2 : q2.s.K.length ≤ 60 := HL.out.2.2.2.2.2.1.most
  have HC := Lib.hid (lost_count q2.s.L)
  have hl3 : (leftL q2.s.L).length ≤ 60 := by have := HC.out; omega
  have htl : (txtsOf q2.s.K).length = q2.s.K.length := by simp [txtsOf]
  have HTL := Lib.hid htl
  clear htl
  obtain ⟨rfl, h1, rfl, rfl⟩ | ⟨rfl, h1, rfl, h2⟩ := HL.out.2.2.2.2.2.2
  · rw [h1]
    have hs1 : IntKind.i64.wrap (((lostL q2.s.L).length : Int) + ((leftL q2.s.L).length : Int)) = (q2.s.L.length : Int) := by rw [IntWalk.i64_in _ (by have := HC.out; omega)]; have := HC.out; omega
    have cE := play_entries hP11.at_
    rw [HB11.out, HL.out.2.2.2.2.1] at cE
    dsimp only at cE
    go_wp2_with fail
    with_reducible refine cE.mono ?_
    rintro e w12 ⟨V, rfl, hown, hb12⟩
    obtain ⟨-, A12, c12, rfl, hR12⟩ := rowE_own hown
    have hP12 := hP11.ext hb12
    replace hR8 := hR8.below hb12
    replace hR9 := hR9.below hb12
    clear cE hown hb12 hP11
    have cL := left_any (c := c8) hR8 (by omega)
    go_wp2_with fail
    with_reducible refine cL.mono ?_
    rintro e w13 ⟨V, rfl, hown, hb13⟩
    obtain ⟨-, A13, c13, rfl, hR13⟩ := rowE_own hown
    have hP13 := hP12.ext hb13
    replace hR8 := hR8.below hb13
    replace hR9 := hR9.below hb13
    replace hR12 := hR12.below hb13
    clear cL hown hb13 hP12
    have cS := same_any (c1 := c12) (c2 := c13) hR12 hR13 (by omega) (by omega)
    rw [decide_eq_true rfl] at cS
    go_wp2_with fail
    with_reducible refine cS.mono ?_
    rintro e w14 ⟨rfl, hb14⟩
    have hP14 := hP13.ext hb14
    replace hR8 := hR8.below hb14
    replace hR9 := hR9.below hb14
    clear cS hb14 hP13 hR13 hR12
    have cK := play_keys hP14.at_
    rw [HB11.out, HL.out.2.2.2.2.1] at cK
    dsimp only at cK
    go_wp2_with fail
    with_reducible refine cK.mono ?_
    rintro e w15 ⟨V, rfl, hown, hb15⟩
    obtain ⟨A15, c15, rfl, hR15⟩ := row_own hown
    have hP15 := hP14.ext hb15
    replace hR8 := hR8.below hb15
    replace hR9 := hR9.below hb15
    clear cK hown hb15 hP14
    have cT := texts_any (c1 := c15) (c2 := c9) hR15 hR9 (by rw [HTL.out]; omega) (by rw [HTL.out]; omega)
    rw [decide_eq_true rfl, HTL.out] at cT
    go_wp2_with fail
    with_reducible refine cT.mono ?_
    rintro e w16 ⟨rfl, hb16⟩
    have hP16 := hP15.ext hb16
    replace hR8 := hR8.below hb16
    clear cT hb16 hP15 hR9 hR15
    have cL := left_any (c := c8) hR8 (by omega)
    go_wp2_with fail
    with_reducible refine cL.mono ?_
    rintro e w17 ⟨V, rfl, hown, hb17⟩
    obtain ⟨-, A17, c17, rfl, -⟩ := rowE_own hown
    have hfin := (hP16.ext hb17).bel
    clear cL hown hb17 hP16 hR8
    go_wp2_with fail
    go_ret
    exact ⟨rfl, hfin⟩
  · rw [h1, h2]
    have cE := play_entries hP11.at_
    rw [HB11.out, HL.out.2.2.2.2.1] at cE
    dsimp only at cE
    go_wp2_with fail
    with_reducible refine cE.mono ?_
    rintro e w12 ⟨V, rfl, hown, hb12⟩
    obtain ⟨-, A12, c12, rfl, hR12⟩ := rowE_own hown
    have hP12 := hP11.ext hb12
    replace hR8 := hR8.below hb12
    replace hR9 := hR9.below hb12
    clear cE hown hb12 hP11
    have cL := left_any (c := c8) hR8 (by omega)
    go_wp2_with fail
    with_reducible refine cL.mono ?_
    rintro e w13 ⟨V, rfl, hown, hb13⟩
    obtain ⟨-, A13, c13, rfl, hR13⟩ := rowE_own hown
    have hP13 := hP12.ext hb13
    replace hR8 := hR8.below hb13
    replace hR9 := hR9.below hb13
    replace hR12 := hR12.below hb13
    clear cL hown hb13 hP12
    have cS := same_any (c1 := c12) (c2 := c13) hR12 hR13 (by omega) (by omega)
    rw [decide_eq_true rfl] at cS
    go_wp2_with fail
    with_reducible refine cS.mono ?_
    rintro e w14 ⟨rfl, hb14⟩
    have hP14 := hP13.ext hb14
    replace hR8 := hR8.below hb14
    replace hR9 := hR9.below hb14
    clear cS hb14 hP13 hR13 hR12
    have cK := play_keys hP14.at_
    rw [HB11.out, HL.out.2.2.2.2.1] at cK
    dsimp only at cK
    go_wp2_with fail
    with_reducible refine cK.mono ?_
    rintro e w15 ⟨V, rfl, hown, hb15⟩
    obtain ⟨A15, c15, rfl, hR15⟩ := row_own hown
    have hP15 := hP14.ext hb15
    replace hR8 := hR8.below hb15
    replace hR9 := hR9.below hb15
    clear cK hown hb15 hP14
    have cT := texts_any (c1 := c15) (c2 := c9) hR15 hR9 (by rw [HTL.out]; omega) (by rw [HTL.out]; omega)
    rw [decide_eq_true rfl, HTL.out] at cT
    go_wp2_with fail
    with_reducible refine cT.mono ?_
    rintro e w16 ⟨rfl, hb16⟩
    have hP16 := hP15.ext hb16
    replace hR8 := hR8.below hb16
    clear cT hb16 hP15 hR9 hR15
    have hfin := hP16.bel
    clear hP16 hR8
    go_wp2_with fail
    go_ret
    exact ⟨rfl, hfin⟩

end Go.Proofs.YtmebjdbkngehiaaGreatDoor
