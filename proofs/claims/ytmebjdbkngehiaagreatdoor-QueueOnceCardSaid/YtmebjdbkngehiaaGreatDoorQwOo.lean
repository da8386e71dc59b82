/-
  QueueOnce. Conditions: the program's variables hold what GInv says.
-/
import Derived.Test.YtmebjdbkngehiaaGreatDoorQhP
import Derived.Test.YtmebjdbkngehiaaGreatDoorQhO
namespace Go.Proofs.YtmebjdbkngehiaaGreatDoor
open Go.RowKit Go.Shelf

set_option maxRecDepth 100000 in
set_option maxHeartbeats 8000000 in
theorem law_once {w : World} {aA aT aN aW aS : Addr} (hI : GInv w aA aT aN aW aS) (s : Int) (A : Option Addr) (n c : Nat) (xs : List QO) (ha : ArgL w A n xs) (x : EI) (hx : (QO.mk 0 0 0 x).In) (kd : Int) : Calls Tryz.prog 11 #[.int .i64 s, .slice A n c, x.val, .int .i64 kd] w (Ret (.bool true) w) := by
  have HA := Lib.hid ha
  have HX := Lib.hid hx.cut
  have HXI := Lib.hid hx
  clear ha hx
  obtain ⟨e0, e1, e2, e3, e4, e5, e6⟩ := x
  have hE := ext_new w (.cells #[.int .i64 e0, .int .i64 e1, .string e2, .string e3, .int .i64 e4, .bool e5, .bool e6] 23)
  have hX := Blk.new_ w 23 #[.int .i64 e0, .int .i64 e1, .string e2, .string e3, .int .i64 e4, .bool e5, .bool e6]
  have hI0 := hI.below hE
  have cS := shown_any hI0
  unfold EI.val
  dsimp only
  go_enter Tryz.func11, Tryz.ntmps11
  go_wp2_with fail
  with_reducible refine cS.mono ?_
  rintro e w1 ⟨rfl, hb1⟩
  have hX1 := hX.below hb1
  have hB1 := ext_trans hE hb1
  obtain ⟨xb, hxb⟩ : ∃ xb, w.heap.size = xb := ⟨_, rfl⟩
  have hwx : w.heap.size ≤ xb := Nat.le_of_eq hxb
  rw [hxb] at hX1 ⊢
  have HWX := Lib.hid hwx
  clear cS hX hE hb1 hI0 hxb hwx
  obtain ⟨x0, x1, x2, x3, x4, x5, x6⟩ := hX1.c7.1
  have hE := ext_new w1 (.cells #[.int .i64 0, .int .i64 0, .int .i64 0, .int .i64 e0, .int .i64 e1, .string e2, .string e3, .int .i64 e4, .bool e5, .bool e6] 25)
  have hR := Blk.new_ w1 25 #[.int .i64 0, .int .i64 0, .int .i64 0, .int .i64 e0, .int .i64 e1, .string e2, .string e3, .int .i64 e4, .bool e5, .bool e6]
  have hX2 := hX1.below hE
  have hB2 := ext_trans hB1 hE
  have cC := qcut_any (some ⟨w1.heap.size, 0, none⟩) 1 1 [⟨0, 0, 0, ⟨e0, e1, e2, e3, e4, e5, e6⟩⟩] _ rfl (rdC_one hR) (by
    intro y hy
    obtain rfl := List.mem_singleton.1 hy
    exact ⟨HXI.out.1, HXI.out.2.1⟩)
  clear hX1 hB1 hE hR
  go_wp2_with fail
  clear x0 x1 x2 x3 x4 x5 x6
  with_reducible refine cC.mono ?_
  rintro e w3 ⟨V, rfl, hown, hb3⟩
  obtain ⟨y, hy⟩ : ∃ y, (QO.mk 0 0 0 ⟨e0, e1, e2, e3, e4, e5, e6⟩).cut = y := ⟨_, rfl⟩
  have hyk : y.kind = 0 := by rw [← hy]; rfl
  rw [show [QO.mk 0 0 0 ⟨e0, e1, e2, e3, e4, e5, e6⟩].map QO.cut = [y] from by rw [← hy]; rfl] at hown
  obtain ⟨-, r, c3, rfl, hr, hy0⟩ := op_own_one hown
  have hX3 := hX2.below hb3
  have hB3 := ext_trans hB2 hb3
  have HY : y.Ok := by rw [← hy]; exact HX.out
  obtain ⟨yk, ya, yn, ⟨f0, f1, f2, f3, f4, f5, f6⟩⟩ := y
  obtain ⟨-, -, -, x3, x4, x5, x6, x7, x8, x9⟩ := hy0
  dsimp only at x3 x4 x5 x6 x7 x8 x9
  replace HY := Lib.hid HY
  clear cC hown hy hyk hX2 hB2 hb3 HX HXI
  obtain ⟨⟨c0, c1, c2, c3', c4, c5, c6⟩, z0, z1, z2, z3, z4, z5, z6⟩ := hX3.c7
  have g0 : Blk (w3.setCell ⟨xb, 0, none⟩ (.int .i64 f0)) xb 23 #[.int .i64 f0, .int .i64 e1, .string e2, .string e3, .int .i64 e4, .bool e5, .bool e6] := hX3.set_ 0 _
  have g1 : Blk ((w3.setCell ⟨xb, 0, none⟩ (.int .i64 f0)).setCell ⟨xb, 1, none⟩ (.int .i64 f1)) xb 23 #[.int .i64 f0, .int .i64 f1, .string e2, .string e3, .int .i64 e4, .bool e5, .bool e6] := g0.set_ 1 _
  have g2 : Blk (((w3.setCell ⟨xb, 0, none⟩ (.int .i64 f0)).setCell ⟨xb, 1, none⟩ (.int .i64 f1)).setCell ⟨xb, 2, none⟩ (.string f2)) xb 23 #[.int .i64 f0, .int .i64 f1, .string f2, .string e3, .int .i64 e4, .bool e5, .bool e6] := g1.set_ 2 _
  have g3 : Blk ((((w3.setCell ⟨xb, 0, none⟩ (.int .i64 f0)).setCell ⟨xb, 1, none⟩ (.int .i64 f1)).setCell ⟨xb, 2, none⟩ (.string f2)).setCell ⟨xb, 3, none⟩ (.string f3)) xb 23 #[.int .i64 f0, .int .i64 f1, .string f2, .string f3, .int .i64 e4, .bool e5, .bool e6] := g2.set_ 3 _
  have g4 : Blk (((((w3.setCell ⟨xb, 0, none⟩ (.int .i64 f0)).setCell ⟨xb, 1, none⟩ (.int .i64 f1)).setCell ⟨xb, 2, none⟩ (.string f2)).setCell ⟨xb, 3, none⟩ (.string f3)).setCell ⟨xb, 4, none⟩ (.int .i64 f4)) xb 23 #[.int .i64 f0, .int .i64 f1, .string f2, .string f3, .int .i64 f4, .bool e5, .bool e6] := g3.set_ 4 _
  have g5 : Blk ((((((w3.setCell ⟨xb, 0, none⟩ (.int .i64 f0)).setCell ⟨xb, 1, none⟩ (.int .i64 f1)).setCell ⟨xb, 2, none⟩ (.string f2)).setCell ⟨xb, 3, none⟩ (.string f3)).setCell ⟨xb, 4, none⟩ (.int .i64 f4)).setCell ⟨xb, 5, none⟩ (.bool f5)) xb 23 #[.int .i64 f0, .int .i64 f1, .string f2, .string f3, .int .i64 f4, .bool f5, .bool e6] := g4.set_ 5 _
  have g6 : Blk (((((((w3.setCell ⟨xb, 0, none⟩ (.int .i64 f0)).setCell ⟨xb, 1, none⟩ (.int .i64 f1)).setCell ⟨xb, 2, none⟩ (.string f2)).setCell ⟨xb, 3, none⟩ (.string f3)).setCell ⟨xb, 4, none⟩ (.int .i64 f4)).setCell ⟨xb, 5, none⟩ (.bool f5)).setCell ⟨xb, 6, none⟩ (.bool f6)) xb 23 #[.int .i64 f0, .int .i64 f1, .string f2, .string f3, .int .i64 f4, .bool f5, .bool f6] := g5.set_ 6 _
  have hB4 := below_set7 hB3 HWX.out (.int .i64 f0) (.int .i64 f1) (.string f2) (.string f3) (.int .i64 f4) (.bool f5) (.bool f6)
  obtain ⟨W4, hW4⟩ : ∃ W4, W4 = (((((((w3.setCell ⟨xb, 0, none⟩ (.int .i64 f0)).setCell ⟨xb, 1, none⟩ (.int .i64 f1)).setCell ⟨xb, 2, none⟩ (.string f2)).setCell ⟨xb, 3, none⟩ (.string f3)).setCell ⟨xb, 4, none⟩ (.int .i64 f4)).setCell ⟨xb, 5, none⟩ (.bool f5)).setCell ⟨xb, 6, none⟩ (.bool f6)) := ⟨_, rfl⟩
  rw [← hW4] at g6 hB4
  have HW4 := Lib.hid hW4
  have HX4 := Lib.hid (And.intro g6 hB4)
  clear g0 g1 g2 g3 g4 g5 g6 hB4 hX3 hW4
  go_wp2_with fail
  rw [← HW4.out]
  clear x3 x4 x5 x6 x7 x8 x9 z0 z1 z2 z3 z4 z5 z6 c0 c1 c2 c3' c4 c5 c6 HW4 hr
  have cM := Made_any (hI.below HX4.out.2) s A n c xs (HA.out.below HX4.out.2)
  with_reducible refine cM.mono ?_
  intro e w5 hM
  clear cM HA
  obtain ⟨a, b, rfl, hb5, -⟩ | ⟨p, g, o, q, b, rfl, hb, hP, ⟨m, rfl, hM, hm, -, hfew⟩, hn⟩ := hM
  · have hfin := ext_trans HX4.out.2 hb5
    clear hb5
    go_wp2_with fail
    go_ret
    exact ⟨rfl, hfin⟩
  have hP5 := hP.back HX4.out.2
  have hX5 := HX4.out.1.below hP.bel
  have hxF : ¬ KF o p g xb := fun hj => Nat.lt_irrefl _ (Nat.lt_of_lt_of_le HX4.out.1.lt (hP.new_ _ hj))
  have HB := Lib.hid hb
  clear hP hb HX4
  obtain ⟨x0, x1, x2, x3, x4, x5, x6⟩ := hX5.c7.1
  have cK := play_knows f2 hP5.at_
  rw [HB.out] at cK
  go_wp2_with fail
  with_reducible refine cK.mono ?_
  rintro e w6 ⟨rfl, rfl⟩
  clear cK
  have hqn : q.d.n ≤ 950000 := by omega
  obtain ⟨q1, b1, b2, b3, b4, b5, b6⟩ := calm_act (x := ⟨0, 0, 0, ⟨f0, f1, f2, f3, f4, f5, f6⟩⟩) hM.qg hM.left ⟨(by decide : (0 : Int) ≤ 0), (by decide : (0 : Int) ≤ 3)⟩
  rw [hM.len] at b1 b3 b5 b6
  obtain ⟨⟨s1, nn, rr⟩, hp⟩ : ∃ z, SN.put m q.s ⟨f0, f1, f2, f3, f4, f5, f6⟩ = z := ⟨_, rfl⟩
  rw [show SN.call m q.s ⟨0, 0, 0, ⟨f0, f1, f2, f3, f4, f5, f6⟩⟩ = (s1, nn, rr) from hp] at b1 b3
  dsimp only at b1 b3
  have cP := play_put ⟨0, 0, 0, ⟨f0, f1, f2, f3, f4, f5, f6⟩⟩ rfl hP5 hI ⟨HY.out.1, HY.out.2.1, (by decide : (0 : Int) ≤ 9223372036854775807)⟩ hqn
  rw [b1, HB.out] at cP
  unfold EI.val at cP
  dsimp only at cP
  go_wp2_with fail
  have H1 := Lib.hid (And.intro b2 <| And.intro b3 <| And.intro b4 <| And.intro b5 <| And.intro b6 hp)
  clear b1 b2 b3 b4 b5 b6 hp
  with_reducible refine cP.mono ?_
  rintro e w7 ⟨rfl, o7, hw7, hq7⟩
  have hP7 := hP5.went hw7
  obtain ⟨hx7, hxF7, hxl⟩ := hw7.keep hX5.lt hxF
  have hX7 := hX5.kept hx7
  clear cP hw7 hx7 hxl hP5 hX5 hxF
  by_cases hr : rr = 0
  · subst hr
    obtain ⟨u0, u1, u2, u3, u4, u5⟩ := once_yes H1.out.2.2.2.2.2
    have hfd := once_find H1.out.1 H1.out.2.1 H1.out.2.2.2.2.2
    have hkn : q1.s.knows f2 = true := by rw [H1.out.2.1, u5]; exact knows_snoc _ _ _
    have hfw : q1.s.Few 31 := by
      have := put_keys m ⟨f0, f1, f2, f3, f4, f5, f6⟩ hfew
      rw [H1.out.2.2.2.2.2] at this
      rw [H1.out.2.1]; exact this
    have HU := Lib.hid (And.intro u0 <| And.intro u1 <| And.intro u2 <| And.intro u4 <| And.intro hkn hfw)
    clear u0 u1 u2 u4 u5 hkn hfw
    have cF := play_find nn hP7.at_
    rw [hfd, hq7] at cF
    dsimp only [EI.num] at cF
    unfold EI.val at cF
    dsimp only at cF
    have HQ7 := Lib.hid hq7
    clear hfd hq7
    rw [show q.s.knows f2 = false from u3]
    clear u3
    go_wp2_with fail
    with_reducible refine cF.mono ?_
    rintro e w8 ⟨rfl, hb8⟩
    have hP8 := hP7.ext hb8
    have hX8 := hX7.below hb8
    have hE := ext_new w8 (.cells #[.int .i64 nn, .int .i64 f1, .string f2, .string f3, .int .i64 f4, .bool f5, .bool f6] 23)
    have hY := Blk.new_ w8 23 #[.int .i64 nn, .int .i64 f1, .string f2, .string f3, .int .i64 f4, .bool f5, .bool f6]
    have hyF : ¬ KF o7 p g w8.heap.size := fun hj => Nat.lt_irrefl _ (hP8.at_.lt hj)
    have hP9 := hP8.ext hE
    have hX9 := hX8.below hE
    obtain ⟨W9, hW9⟩ : ∃ W9, W9 = w8.alloc (.cells #[.int .i64 nn, .int .i64 f1, .string f2, .string f3, .int .i64 f4, .bool f5, .bool f6] 23) := ⟨_, rfl⟩
    obtain ⟨yb, hyb⟩ : ∃ yb, yb = w8.heap.size := ⟨_, rfl⟩
    rw [← hW9] at hY hP9 hX9
    rw [← hyb] at hY hyF
    have HW9 := Lib.hid (And.intro hW9 hyb)
    clear cF hb8 hP8 hX8 hP7 hX7 hE hW9 hyb
    by_cases hk : 1 ≤ kd ∧ kd ≤ 3
    · obtain ⟨k1, k2⟩ := hk
      obtain ⟨q2, an, d1, d2, d3, d4, d5, d6⟩ := once_do (nn := nn) H1.out.1 H1.out.2.2.1 H1.out.2.2.2.1 (kd := kd) ⟨k1, k2⟩
      have HD := Lib.hid (And.intro d1 <| And.intro d2 <| And.intro d3 <| And.intro d4 <| And.intro d5 d6)
      clear d1 d2 d3 d4 d5 d6
      have hsz : W9.heap.size = yb + 1 := by rw [HW9.out.1, HW9.out.2]; simp
      have hE := ext_new W9 (.cells #[.pointer (some ⟨p, 0, none⟩), .pointer (some ⟨b, 0, none⟩)] 41)
      have hK := Blk.new_ W9 41 #[.pointer (some ⟨p, 0, none⟩), .pointer (some ⟨b, 0, none⟩)]
      have hnk : ¬ KF o7 p g W9.heap.size := fun hj => Nat.lt_irrefl _ (hP9.at_.lt hj)
      have hkb : w.heap.size ≤ W9.heap.size := hP9.bel.size
      have hP10 := hP9.ext hE
      have hX10 := hX9.below hE
      have hY10 := hY.below hE
      have hxk := hX9.lt
      have hyk := hY.lt
      rw [hsz] at hK hnk hkb hxk hyk
      obtain ⟨W10, hW10⟩ : ∃ W10, W10 = W9.alloc (.cells #[.pointer (some ⟨p, 0, none⟩), .pointer (some ⟨b, 0, none⟩)] 41) := ⟨_, rfl⟩
      rw [← hW10] at hK hP10 hX10 hY10
      have HW10 := Lib.hid hW10
      clear hE hW10 hsz hP9 hX9 hY
      go_wp2_with fail
      rw [← HW9.out.1, ← HW9.out.2, ← HW10.out]
      have hnb : nn ≤ 9223372036854775807 := by
        have h1 := (EI.right_iff.1 HU.out.2.2.1).2.1
        have h2 := (okNum_iff.1 h1).2
        have h3 : (EI.num ⟨f0, f1, f2, f3, f4, f5, f6⟩ q.s.next).id = nn := HU.out.2.2.2.1.symm
        rw [h3] at h2
        omega
      have cD := play_do ⟨kd, nn, 0, EI.nil⟩ hP10 hI (by rw [HQ7.out]; exact hK) hkb hnk (by show kd ≤ 4; omega) ⟨(by decide : EI.nil.key.size ≤ 1000000), (by decide : EI.nil.data.size ≤ 1000000), hnb⟩ (by have := H1.out.2.2.2.2.1; dsimp only; omega)
      rw [HD.out.1, HQ7.out, show (QO.mk kd nn 0 EI.nil).val = .agg #[.int .i64 kd, .int .i64 nn, .int .i64 0, .int .i64 0, .int .i64 0, .string ⟨#[]⟩, .string ⟨#[]⟩, .int .i64 0, .bool false, .bool false] from rfl] at cD
      dsimp only at cD
      with_reducible refine cD.mono ?_
      rintro e V ⟨ov, Av, cv, rfl, hqv, -, -, hPv, -, hkeep⟩
      obtain ⟨z1, hxv⟩ := hkeep xb hX10.lt (by omega) hxF7
      obtain ⟨z2, hyv⟩ := hkeep yb hY10.lt (by omega) hyF
      have hXv := hX10.kept z1
      have hYv := hY10.kept z2
      have HQv := Lib.hid hqv
      have G2 := Lib.hid (show QG q2 ∧ q2.d.left = 0 ∧ q2.s.K = q1.s.K ∧ q2.d.L.length = m ∧ q2.d.n ≤ 500000 from ⟨HD.out.2.1, HD.out.2.2.2.1, HD.out.2.2.1, HD.out.2.2.2.2.1, by have := HD.out.2.2.2.2.2; have := H1.out.2.2.2.2.1; omega⟩)
      clear cD hkeep z1 z2 hqv hP10 hX10 hY10 hK hnk hkb hxk hyk hnb HD HW10 HW9 k1 k2 hxF7 hyF
      obtain ⟨q3, e1, e2, e3, e4, e5, e6⟩ := once_put G2.out.1 G2.out.2.1 HU.out.1 HU.out.2.1 HU.out.2.2.1 (SN.Few.of_K HU.out.2.2.2.2.2 G2.out.2.2.1) (by decide) (next_pos _) ((knows_K G2.out.2.2.1 _).trans HU.out.2.2.2.2.1)
      obtain ⟨r9, a1, a2, a3, a4, a5, a6, a7⟩ := again_law e2 e4
      have hrn := (new_law e2.dg e2.qi.dup).2.1
      have hrs : r9.s.K = q1.s.K := by rw [a5]; exact (congrArg SN.K e3).trans G2.out.2.2.1
      obtain ⟨r4, i1, i2, i3, i4, i5, i6⟩ := once_put a4 a6 HU.out.1 HU.out.2.1 HU.out.2.2.1 (SN.Few.of_K HU.out.2.2.2.2.2 hrs) (by decide) (next_pos _) ((knows_K hrs _).trans HU.out.2.2.2.2.1)
      have hlen2 := G2.out.2.2.2.1
      have hn2 := G2.out.2.2.2.2
      rw [hlen2] at e5 e6
      rw [e5] at hrn
      rw [a2] at hrn
      have HE := Lib.hid (And.intro e1 <| And.intro i1 <| And.intro (show newN q3.d = (r9.d, some r9, lostL q3.s.L, 0) from by rw [show newN q3.d = ((newN q3.d).1, (newN q3.d).2.1, (newN q3.d).2.2) from rfl, a2, a1, a3]) <| And.intro (show q2.d.n ≤ 950000 ∧ q3.d.n ≤ 950000 ∧ r9.d.n ≤ 950000 from ⟨by omega, by omega, by omega⟩) ((knows_K (i3 ▸ rfl : r4.s.K = r9.s.K) f2).trans ((knows_K hrs f2).trans HU.out.2.2.2.2.1)))
      clear e1 e2 e3 e4 e5 e6 a1 a2 a3 a4 a5 a6 a7 hrn hrs i1 i2 i3 i4 i5 i6 hlen2 hn2
      obtain ⟨x0, x1, x2, x3, x4, x5, x6⟩ := hXv.c7.1
      have cP := play_put ⟨0, 0, 0, ⟨f0, f1, f2, f3, f4, f5, f6⟩⟩ rfl hPv hI ⟨HY.out.1, HY.out.2.1, (by decide : (0 : Int) ≤ 9223372036854775807)⟩ HE.out.2.2.2.1.1
      rw [HE.out.1, HQv.out] at cP
      unfold EI.val at cP
      dsimp only at cP
      go_wp2_with fail
      with_reducible refine cP.mono ?_
      rintro e v1 ⟨rfl, o9, hw9, hq9⟩
      have hP9 := hPv.went hw9
      obtain ⟨z1, hx9, z3⟩ := hw9.keep hXv.lt hxv
      obtain ⟨z4, hy9, z6⟩ := hw9.keep hYv.lt hyv
      have hX9 := hXv.kept z1
      have hY9 := hYv.kept z4
      clear cP hw9 hq9 z1 z3 z4 z6 hPv hXv hYv hxv hyv x0 x1 x2 x3 x4 x5 x6
      have cN := play_new hP9 hI HE.out.2.2.2.1.2.1
      dsimp only at cN
      rw [HE.out.2.2.1] at cN
      dsimp only at cN
      go_wp2_with fail
      with_reducible refine cN.mono ?_
      rintro e v2 ⟨o10, lv, rfl, hlv, hw10⟩
      obtain ⟨A10, c10, rfl⟩ := own_form hlv
      have hP10 := hP9.went hw10
      obtain ⟨z1, hx10, z3⟩ := hw10.keep hX9.lt hx9
      obtain ⟨z4, hy10, z6⟩ := hw10.keep hY9.lt hy9
      have hX10 := hX9.kept z1
      have hY10 := hY9.kept z4
      obtain ⟨b10, hb10⟩ := qptr_some hP10.at_
      rw [hb10]
      have HB10 := Lib.hid hb10
      clear cN hlv hw10 z1 z3 z4 z6 hP9 hX9 hY9 hx9 hy9 hb10
      obtain ⟨x0, x1, x2, x3, x4, x5, x6⟩ := hX10.c7.1
      have cP := play_put ⟨0, 0, 0, ⟨f0, f1, f2, f3, f4, f5, f6⟩⟩ rfl hP10 hI ⟨HY.out.1, HY.out.2.1, (by decide : (0 : Int) ≤ 9223372036854775807)⟩ HE.out.2.2.2.1.2.2
      rw [HE.out.2.1, HB10.out] at cP
      unfold EI.val at cP
      dsimp only at cP
      go_wp2_with fail
      with_reducible refine cP.mono ?_
      rintro e v3 ⟨rfl, o11, hw11, hq11⟩
      have hP11 := hP10.went hw11
      obtain ⟨z1, hx11, z3⟩ := hw11.keep hX10.lt hx10
      obtain ⟨z4, hy11, z6⟩ := hw11.keep hY10.lt hy10
      have hX11 := hX10.kept z1
      have hY11 := hY10.kept z4
      have cK := play_knows f2 hP11.at_
      rw [HE.out.2.2.2.2, hq11] at cK
      have hfin := hP11.bel
      clear cP hw11 z1 z3 z4 z6 hP10 hX10 hY10 hx10 hy10 hx11 hy11 hP11 x0 x1 x2 x3 x4 x5 x6 hq11
      obtain ⟨x0, x1, x2, x3, x4, x5, x6⟩ := hX11.c7.1
      obtain ⟨y0, y1, y2, y3, y4, y5, y6⟩ := hY11.c7.1
      clear hX11 hY11
      go_wp2_with fail
      with_reducible refine cK.mono ?_
      rintro e v4 ⟨rfl, rfl⟩
      clear cK x0 x1 x2 x3 x4 x5 x6 y0 y1 y2 y3 y4 y5 y6
      go_wp2_with fail
      go_ret
      exact ⟨rfl, hfin⟩
    · have hXv := hX9
      have hYv := hY
      have hPv : QPlay w p g o7 ⟨q1.d, some q1⟩ W9 := hP9
      have hxv := hxF7
      have hyv := hyF
      have HQv := HQ7
      have G2 := Lib.hid (show QG q1 ∧ q1.d.left = 0 ∧ q1.s.K = q1.s.K ∧ q1.d.L.length = m ∧ q1.d.n ≤ 500000 from ⟨H1.out.1, H1.out.2.2.1, rfl, H1.out.2.2.2.1, by have := H1.out.2.2.2.2.1; omega⟩)
      obtain ⟨e8, e9⟩ := HW9.out
      subst e8 e9
      obtain ⟨q2, hq2⟩ : ∃ q2, q2 = q1 := ⟨_, rfl⟩
      clear hX9 hY hP9 hxF7 hyF HW9
      have HK := Lib.hid hk
      have hkk : (decide (1 ≤ kd) && decide (kd ≤ 3)) = false := by
        by_cases k1 : 1 ≤ kd
        · rw [decide_eq_true k1, Bool.true_and]; exact decide_eq_false fun q => HK.out ⟨k1, q⟩
        · rw [decide_eq_false k1, Bool.false_and]
      clear hk hq2
      rcases (show ¬ 1 ≤ kd ∨ (1 ≤ kd ∧ ¬ kd ≤ 3) from by have := HK.out; omega) with k1 | ⟨k1, k2⟩
      · clear hkk
        obtain ⟨q3, e1, e2, e3, e4, e5, e6⟩ := once_put G2.out.1 G2.out.2.1 HU.out.1 HU.out.2.1 HU.out.2.2.1 (SN.Few.of_K HU.out.2.2.2.2.2 G2.out.2.2.1) (by decide) (next_pos _) ((knows_K G2.out.2.2.1 _).trans HU.out.2.2.2.2.1)
        obtain ⟨r9, a1, a2, a3, a4, a5, a6, a7⟩ := again_law e2 e4
        have hrn := (new_law e2.dg e2.qi.dup).2.1
        have hrs : r9.s.K = q1.s.K := by rw [a5]; exact (congrArg SN.K e3).trans G2.out.2.2.1
        obtain ⟨r4, i1, i2, i3, i4, i5, i6⟩ := once_put a4 a6 HU.out.1 HU.out.2.1 HU.out.2.2.1 (SN.Few.of_K HU.out.2.2.2.2.2 hrs) (by decide) (next_pos _) ((knows_K hrs _).trans HU.out.2.2.2.2.1)
        have hlen2 := G2.out.2.2.2.1
        have hn2 := G2.out.2.2.2.2
        rw [hlen2] at e5 e6
        rw [e5] at hrn
        rw [a2] at hrn
        have HE := Lib.hid (And.intro e1 <| And.intro i1 <| And.intro (show newN q3.d = (r9.d, some r9, lostL q3.s.L, 0) from by rw [show newN q3.d = ((newN q3.d).1, (newN q3.d).2.1, (newN q3.d).2.2) from rfl, a2, a1, a3]) <| And.intro (show q1.d.n ≤ 950000 ∧ q3.d.n ≤ 950000 ∧ r9.d.n ≤ 950000 from ⟨by omega, by omega, by omega⟩) ((knows_K (i3 ▸ rfl : r4.s.K = r9.s.K) f2).trans ((knows_K hrs f2).trans HU.out.2.2.2.2.1)))
        clear e1 e2 e3 e4 e5 e6 a1 a2 a3 a4 a5 a6 a7 hrn hrs i1 i2 i3 i4 i5 i6 hlen2 hn2
        obtain ⟨x0, x1, x2, x3, x4, x5, x6⟩ := hXv.c7.1
        have cP := play_put ⟨0, 0, 0, ⟨f0, f1, f2, f3, f4, f5, f6⟩⟩ rfl hPv hI ⟨HY.out.1, HY.out.2.1, (by decide : (0 : Int) ≤ 9223372036854775807)⟩ HE.out.2.2.2.1.1
        rw [HE.out.1, HQv.out] at cP
        unfold EI.val at cP
        dsimp only at cP
        go_wp2_with fail
        with_reducible refine cP.mono ?_
        rintro e v1 ⟨rfl, o9, hw9, hq9⟩
        have hP9 := hPv.went hw9
        obtain ⟨z1, hx9, z3⟩ := hw9.keep hXv.lt hxv
        obtain ⟨z4, hy9, z6⟩ := hw9.keep hYv.lt hyv
        have hX9 := hXv.kept z1
        have hY9 := hYv.kept z4
        clear cP hw9 hq9 z1 z3 z4 z6 hPv hXv hYv hxv hyv x0 x1 x2 x3 x4 x5 x6
        have cN := play_new hP9 hI HE.out.2.2.2.1.2.1
        dsimp only at cN
        rw [HE.out.2.2.1] at cN
        dsimp only at cN
        go_wp2_with fail
        with_reducible refine cN.mono ?_
        rintro e v2 ⟨o10, lv, rfl, hlv, hw10⟩
        obtain ⟨A10, c10, rfl⟩ := own_form hlv
        have hP10 := hP9.went hw10
        obtain ⟨z1, hx10, z3⟩ := hw10.keep hX9.lt hx9
        obtain ⟨z4, hy10, z6⟩ := hw10.keep hY9.lt hy9
        have hX10 := hX9.kept z1
        have hY10 := hY9.kept z4
        obtain ⟨b10, hb10⟩ := qptr_some hP10.at_
        rw [hb10]
        have HB10 := Lib.hid hb10
        clear cN hlv hw10 z1 z3 z4 z6 hP9 hX9 hY9 hx9 hy9 hb10
        obtain ⟨x0, x1, x2, x3, x4, x5, x6⟩ := hX10.c7.1
        have cP := play_put ⟨0, 0, 0, ⟨f0, f1, f2, f3, f4, f5, f6⟩⟩ rfl hP10 hI ⟨HY.out.1, HY.out.2.1, (by decide : (0 : Int) ≤ 9223372036854775807)⟩ HE.out.2.2.2.1.2.2
        rw [HE.out.2.1, HB10.out] at cP
        unfold EI.val at cP
        dsimp only at cP
        go_wp2_with fail
        with_reducible refine cP.mono ?_
        rintro e v3 ⟨rfl, o11, hw11, hq11⟩
        have hP11 := hP10.went hw11
        obtain ⟨z1, hx11, z3⟩ := hw11.keep hX10.lt hx10
        obtain ⟨z4, hy11, z6⟩ := hw11.keep hY10.lt hy10
        have hX11 := hX10.kept z1
        have hY11 := hY10.kept z4
        have cK := play_knows f2 hP11.at_
        rw [HE.out.2.2.2.2, hq11] at cK
        have hfin := hP11.bel
        clear cP hw11 z1 z3 z4 z6 hP10 hX10 hY10 hx10 hy10 hx11 hy11 hP11 x0 x1 x2 x3 x4 x5 x6 hq11
        obtain ⟨x0, x1, x2, x3, x4, x5, x6⟩ := hX11.c7.1
        obtain ⟨y0, y1, y2, y3, y4, y5, y6⟩ := hY11.c7.1
        clear hX11 hY11
        go_wp2_with fail
        with_reducible refine cK.mono ?_
        rintro e v4 ⟨rfl, rfl⟩
        clear cK x0 x1 x2 x3 x4 x5 x6 y0 y1 y2 y3 y4 y5 y6
        go_wp2_with fail
        go_ret
        exact ⟨rfl, hfin⟩
      · clear hkk
        obtain ⟨q3, e1, e2, e3, e4, e5, e6⟩ := once_put G2.out.1 G2.out.2.1 HU.out.1 HU.out.2.1 HU.out.2.2.1 (SN.Few.of_K HU.out.2.2.2.2.2 G2.out.2.2.1) (by decide) (next_pos _) ((knows_K G2.out.2.2.1 _).trans HU.out.2.2.2.2.1)
        obtain ⟨r9, a1, a2, a3, a4, a5, a6, a7⟩ := again_law e2 e4
        have hrn := (new_law e2.dg e2.qi.dup).2.1
        have hrs : r9.s.K = q1.s.K := by rw [a5]; exact (congrArg SN.K e3).trans G2.out.2.2.1
        obtain ⟨r4, i1, i2, i3, i4, i5, i6⟩ := once_put a4 a6 HU.out.1 HU.out.2.1 HU.out.2.2.1 (SN.Few.of_K HU.out.2.2.2.2.2 hrs) (by decide) (next_pos _) ((knows_K hrs _).trans HU.out.2.2.2.2.1)
        have hlen2 := G2.out.2.2.2.1
        have hn2 := G2.out.2.2.2.2
        rw [hlen2] at e5 e6
        rw [e5] at hrn
        rw [a2] at hrn
        have HE := Lib.hid (And.intro e1 <| And.intro i1 <| And.intro (show newN q3.d = (r9.d, some r9, lostL q3.s.L, 0) from by rw [show newN q3.d = ((newN q3.d).1, (newN q3.d).2.1, (newN q3.d).2.2) from rfl, a2, a1, a3]) <| And.intro (show q1.d.n ≤ 950000 ∧ q3.d.n ≤ 950000 ∧ r9.d.n ≤ 950000 from ⟨by omega, by omega, by omega⟩) ((knows_K (i3 ▸ rfl : r4.s.K = r9.s.K) f2).trans ((knows_K hrs f2).trans HU.out.2.2.2.2.1)))
        clear e1 e2 e3 e4 e5 e6 a1 a2 a3 a4 a5 a6 a7 hrn hrs i1 i2 i3 i4 i5 i6 hlen2 hn2
        obtain ⟨x0, x1, x2, x3, x4, x5, x6⟩ := hXv.c7.1
        have cP := play_put ⟨0, 0, 0, ⟨f0, f1, f2, f3, f4, f5, f6⟩⟩ rfl hPv hI ⟨HY.out.1, HY.out.2.1, (by decide : (0 : Int) ≤ 9223372036854775807)⟩ HE.out.2.2.2.1.1
        rw [HE.out.1, HQv.out] at cP
        unfold EI.val at cP
        dsimp only at cP
        go_wp2_with fail
        with_reducible refine cP.mono ?_
        rintro e v1 ⟨rfl, o9, hw9, hq9⟩
        have hP9 := hPv.went hw9
        obtain ⟨z1, hx9, z3⟩ := hw9.keep hXv.lt hxv
        obtain ⟨z4, hy9, z6⟩ := hw9.keep hYv.lt hyv
        have hX9 := hXv.kept z1
        have hY9 := hYv.kept z4
        clear cP hw9 hq9 z1 z3 z4 z6 hPv hXv hYv hxv hyv x0 x1 x2 x3 x4 x5 x6
        have cN := play_new hP9 hI HE.out.2.2.2.1.2.1
        dsimp only at cN
        rw [HE.out.2.2.1] at cN
        dsimp only at cN
        go_wp2_with fail
        with_reducible refine cN.mono ?_
        rintro e v2 ⟨o10, lv, rfl, hlv, hw10⟩
        obtain ⟨A10, c10, rfl⟩ := own_form hlv
        have hP10 := hP9.went hw10
        obtain ⟨z1, hx10, z3⟩ := hw10.keep hX9.lt hx9
        obtain ⟨z4, hy10, z6⟩ := hw10.keep hY9.lt hy9
        have hX10 := hX9.kept z1
        have hY10 := hY9.kept z4
        obtain ⟨b10, hb10⟩ := qptr_some hP10.at_
        rw [hb10]
        have HB10 := Lib.hid hb10
        clear cN hlv hw10 z1 z3 z4 z6 hP9 hX9 hY9 hx9 hy9 hb10
        obtain ⟨x0, x1, x2, x3, x4, x5, x6⟩ := hX10.c7.1
        have cP := play_put ⟨0, 0, 0, ⟨f0, f1, f2, f3, f4, f5, f6⟩⟩ rfl hP10 hI ⟨HY.out.1, HY.out.2.1, (by decide : (0 : Int) ≤ 9223372036854775807)⟩ HE.out.2.2.2.1.2.2
        rw [HE.out.2.1, HB10.out] at cP
        unfold EI.val at cP
        dsimp only at cP
        go_wp2_with fail
        with_reducible refine cP.mono ?_
        rintro e v3 ⟨rfl, o11, hw11, hq11⟩
        have hP11 := hP10.went hw11
        obtain ⟨z1, hx11, z3⟩ := hw11.keep hX10.lt hx10
        obtain ⟨z4, hy11, z6⟩ := hw11.keep hY10.lt hy10
        have hX11 := hX10.kept z1
        have hY11 := hY10.kept z4
        have cK := play_knows f2 hP11.at_
        rw [HE.out.2.2.2.2, hq11] at cK
        have hfin := hP11.bel
        clear cP hw11 z1 z3 z4 z6 hP10 hX10 hY10 hx10 hy10 hx11 hy11 hP11 x0 x1 x2 x3 x4 x5 x6 hq11
        obtain ⟨x0, x1, x2, x3, x4, x5, x6⟩ := hX11.c7.1
        obtain ⟨y0, y1, y2, y3, y4, y5, y6⟩ := hY11.c7.1
        clear hX11 hY11
        go_wp2_with fail
        with_reducible refine cK.mono ?_
        rintro e v4 ⟨rfl, rfl⟩
        clear cK x0 x1 x2 x3 x4 x5 x6 y0 y1 y2 y3 y4 y5 y6
        go_wp2_with fail
        go_ret
        exact ⟨rfl, hfin⟩
  · obtain ⟨k1, -, k3⟩ := once_no H1.out.2.2.2.2.2 hr
    subst k1
    have hfin := hP7.bel
    have K3 := Lib.hid k3
    have HR := Lib.hid hr
    clear k3 hX7 hP7 hq7 hxF7
    by_cases kn : q.s.knows f2 = true
    · have : rr = 192 ∨ rr = 191 := K3.out.elim (fun h => absurd (kn.symm.trans h) (by decide)) id
      rw [kn]
      rcases this with rfl | rfl
      · go_wp2_with fail
        go_ret
        exact ⟨rfl, hfin⟩
      · go_wp2_with fail
        go_ret
        exact ⟨rfl, hfin⟩
    · rw [show q.s.knows f2 = false from by simpa using kn]
      clear kn
      go_wp2_with fail
      go_ret
      exact ⟨rfl, hfin⟩

end Go.Proofs.YtmebjdbkngehiaaGreatDoor
