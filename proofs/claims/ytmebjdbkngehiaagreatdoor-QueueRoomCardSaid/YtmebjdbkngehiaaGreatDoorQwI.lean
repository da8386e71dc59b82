/-
  QueueRoom. Conditions: the program's variables hold what GInv says.
-/
import Derived.Test.YtmebjdbkngehiaaGreatDoorQhN
namespace Go.Proofs.YtmebjdbkngehiaaGreatDoor
open Go.RowKit Go.Shelf

set_option maxRecDepth 100000 in
set_option maxHeartbeats 8000000 in
theorem law_room {w : World} {aA aT aN aW aS : Addr} (hI : GInv w aA aT aN aW aS) (s : Int) (A : Option Addr) (n c : Nat) (xs : List QO) (ha : ArgL w A n xs) (at_ kd : Int) : Calls Tryz.prog 10 #[.int .i64 s, .slice A n c, .int .i64 at_, .int .i64 kd] w (Ret (.bool true) w) := by
  have cS := shown_any hI
  have HA := Lib.hid ha
  clear ha
  go_enter Tryz.func10, Tryz.ntmps10
  go_wp2_with fail
  with_reducible refine cS.mono ?_
  rintro e w1 ⟨rfl, hb1⟩
  have cM := Made_any (hI.below hb1) s A n c xs (HA.out.below hb1)
  clear cS HA
  go_wp2_with fail
  with_reducible refine cM.mono ?_
  intro e w2 hM
  clear cM
  obtain ⟨a, b, rfl, hb2, -⟩ | ⟨p, g, o, q, b, rfl, hb, hP, ⟨m, rfl, hM, hm, -⟩, hn⟩ := hM
  · have hfin := ext_trans hb1 hb2
    clear hb1 hb2
    go_wp2_with fail
    go_ret
    exact ⟨rfl, hfin⟩
  have hP2 := hP.back hb1
  have HB := Lib.hid hb
  have cE := play_entries hP2.at_
  rw [hb] at cE
  clear hP hb1 hb
  go_wp2_with fail
  with_reducible refine cE.mono ?_
  rintro e w3 ⟨V, rfl, hown, hb3⟩
  obtain ⟨-, A3, c3, rfl, hrow⟩ := rowE_own hown
  have hP3 := hP2.ext hb3
  have HRO := Lib.hid (show ∀ k, A3 = some ⟨k, 0, none⟩ → ¬ KF o p g k from fun k hk hj => Nat.lt_irrefl _ (Nat.lt_of_lt_of_le (hP2.at_.lt hj) (hown.lt k (by rw [hk]; rfl)).1))
  clear cE hown hb3 hP2
  by_cases h : at_ < 0 ∨ (q.s.L.length : Int) ≤ at_ ∨ kd < 1 ∨ 3 < kd
  · have hfin := hP3.bel
    clear hP3 hrow
    have HH := Lib.hid h
    clear h
    by_cases h0 : at_ < 0
    · go_wp2_with fail
      go_ret
      exact ⟨rfl, hfin⟩
    · by_cases h1 : (q.s.L.length : Int) ≤ at_
      · go_wp2_with fail
        go_ret
        exact ⟨rfl, hfin⟩
      · by_cases h2 : kd < 1
        · go_wp2_with fail
          go_ret
          exact ⟨rfl, hfin⟩
        · have h3 : 3 < kd := by have := HH.out; omega
          go_wp2_with fail
          go_ret
          exact ⟨rfl, hfin⟩
  · obtain ⟨i, rfl⟩ : ∃ i : Nat, at_ = (i : Int) := ⟨at_.toNat, by omega⟩
    have hi : i < q.s.L.length := by omega
    have g0 : ¬ (i : Int) < 0 := by omega
    have g1 : ¬ (q.s.L.length : Int) ≤ (i : Int) := by omega
    have g1' : (i : Int) < (q.s.L.length : Int) := by omega
    have g2 : ¬ kd < 1 := by omega
    have g3 : ¬ 3 < kd := by omega
    clear h
    obtain ⟨r, rfl, hr, hcell⟩ := hrow (by omega)
    have hA3 := hcell i hi
    clear hrow hcell
    obtain ⟨q1, q2, a1, a2, a3, a4, a5⟩ := room_law hM hi (kd := kd) ⟨by omega, by omega⟩
    have HA := Lib.hid (And.intro a1 <| And.intro a2 <| And.intro a3 a4)
    have hn1 : q1.d.n ≤ 950000 := by omega
    have hok := hM.qg.qi.ok
    clear a1 a2 a3 a4 a5 hM
    obtain ⟨id, hid⟩ : ∃ id, q.s.L[i].id = id := ⟨_, rfl⟩
    rw [hid] at HA
    have x0 : w3.cell? ⟨r, i * 7, none⟩ = some (.int .i64 id) := by rw [← hid]; exact hA3.1
    have HID := Lib.hid (show id ≤ 9223372036854775807 from by
      have := (EI.right_iff.1 (hok.ents _ (List.getElem_mem hi))).2.1
      rw [hid] at this
      have h2 := (okNum_iff.1 this)
      omega)
    clear hA3 hid hok
    have hE := ext_new w3 (.cells #[.pointer (some ⟨p, 0, none⟩), .pointer (some ⟨b, 0, none⟩)] 41)
    have hK := Blk.new_ w3 41 #[.pointer (some ⟨p, 0, none⟩), .pointer (some ⟨b, 0, none⟩)]
    have hnk : ¬ KF o p g w3.heap.size := fun hj => Nat.lt_irrefl _ (hP3.at_.lt hj)
    have hkb : w.heap.size ≤ w3.heap.size := hP3.bel.size
    have hP4 := hP3.ext hE
    have x4 := (hE.cell (p := ⟨r, i * 7, none⟩) hr).trans x0
    have x5 := x4
    have hr4 := Nat.lt_of_lt_of_le hr hE.size
    have hrk : r ≠ w3.heap.size := Nat.ne_of_lt hr
    have hrF : ¬ KF o p g r := HRO.out r rfl
    obtain ⟨W4, hW4⟩ : ∃ W4, w3.alloc (.cells #[.pointer (some ⟨p, 0, none⟩), .pointer (some ⟨b, 0, none⟩)] 41) = W4 := ⟨_, rfl⟩
    rw [hW4] at hK hP4 x4 hr4
    obtain ⟨kb, hkbe⟩ : ∃ kb, w3.heap.size = kb := ⟨_, rfl⟩
    rw [hkbe] at hK hnk hkb hrk
    have HV := Lib.hid (And.intro hW4 hkbe)
    clear hP3 hE hW4 hkbe
    go_wp2_with fail
    rw [HV.out.1, HV.out.2]
    clear x0 x5
    have cD := play_do ⟨1, id, 0, EI.nil⟩ hP4 hI (by rw [HB.out]; exact hK) hkb hnk (by show (1 : Int) ≤ 4; decide) ⟨(by decide : EI.nil.key.size ≤ 1000000), (by decide : EI.nil.data.size ≤ 1000000), HID.out⟩ (by dsimp only; omega)
    rw [HA.out.1, HB.out, show (QO.mk 1 id 0 EI.nil).val = .agg #[.int .i64 1, .int .i64 id, .int .i64 0, .int .i64 0, .int .i64 0, .string ⟨#[]⟩, .string ⟨#[]⟩, .int .i64 0, .bool false, .bool false] from rfl] at cD
    dsimp only at cD
    with_reducible refine cD.mono ?_
    rintro e w5 ⟨o5, A5, c5, rfl, hq5, hK5, hnk5, hP5, hs5, hkeep⟩
    obtain ⟨hr5, hrF5⟩ := hkeep r hr4 hrk hrF
    have x5 := (cell_heap (p := ⟨r, i * 7, none⟩) hr5).trans x4
    have hr5' := Nat.lt_of_lt_of_le hr4 hs5
    clear cD hkeep hP4 hK hr5 x4 hr4 hrF hnk
    have hE := ext_new w5 (.cells #[.int .i64 0, .slice A5 0 c5, .int .i64 0] 48)
    have hS := Blk.new_ w5 48 #[.int .i64 0, .slice A5 0 c5, .int .i64 0]
    have hsF : ¬ KF o5 p g w5.heap.size := fun hj => Nat.lt_irrefl _ (hP5.at_.lt hj)
    have hsk : w5.heap.size ≠ kb := Nat.ne_of_gt hK5.lt
    have hP6 := hP5.ext hE
    have hK6 := hK5.below hE
    have x6 := (hE.cell (p := ⟨r, i * 7, none⟩) hr5').trans x5
    have x7 := x6
    have hr6 := Nat.lt_of_lt_of_le hr5' hE.size
    obtain ⟨W6, hW6⟩ : ∃ W6, w5.alloc (.cells #[.int .i64 0, .slice A5 0 c5, .int .i64 0] 48) = W6 := ⟨_, rfl⟩
    rw [hW6] at hS hP6 hK6 x6 hr6
    obtain ⟨sb, hsb⟩ : ∃ sb, w5.heap.size = sb := ⟨_, rfl⟩
    rw [hsb] at hS hsF hsk
    have HV6 := Lib.hid (And.intro hW6 hsb)
    clear hP5 hE hW6 hsb hK5
    go_wp2_with fail
    rw [HV6.out.1, HV6.out.2]
    clear x5 x7
    have cD := play_do ⟨kd, id, 0, EI.nil⟩ hP6 hI (by rw [hq5]; exact hK6) hkb hnk5 (by show kd ≤ 4; omega) ⟨(by decide : EI.nil.key.size ≤ 1000000), (by decide : EI.nil.data.size ≤ 1000000), HID.out⟩ (by dsimp only; omega)
    rw [HA.out.2.1, hq5, show (QO.mk kd id 0 EI.nil).val = .agg #[.int .i64 kd, .int .i64 id, .int .i64 0, .int .i64 0, .int .i64 0, .string ⟨#[]⟩, .string ⟨#[]⟩, .int .i64 0, .bool false, .bool false] from rfl] at cD
    dsimp only at cD
    with_reducible refine cD.mono ?_
    rintro e w7 ⟨o7, A7, c7, rfl, hq7, hK7, -, hP7, hs7, hkeep⟩
    obtain ⟨hr7, -⟩ := hkeep r hr6 hrk hrF5
    obtain ⟨hb7, -⟩ := hkeep sb hS.lt hsk hsF
    have x7 := (cell_heap (p := ⟨r, i * 7, none⟩) hr7).trans x6
    have hr7' := Nat.lt_of_lt_of_le hr6 hs7
    have hS7 := hS.kept hb7
    clear cD hkeep hP6 hK6 hr7 hb7 x6 hr6 hS hnk5 hrF5 hsF hK7
    have hE := ext_new w7 (.cells #[.int .i64 0, .slice A7 0 c7, .int .i64 0] 48)
    have hT := Blk.new_ w7 48 #[.int .i64 0, .slice A7 0 c7, .int .i64 0]
    have hP8 := hP7.ext hE
    have hS8 := hS7.below hE
    have x8 := (hE.cell (p := ⟨r, i * 7, none⟩) hr7').trans x7
    have x9 := x8
    obtain ⟨W8, hW8⟩ : ∃ W8, w7.alloc (.cells #[.int .i64 0, .slice A7 0 c7, .int .i64 0] 48) = W8 := ⟨_, rfl⟩
    rw [hW8] at hT hP8 hS8 x8
    obtain ⟨tb, htb⟩ : ∃ tb, w7.heap.size = tb := ⟨_, rfl⟩
    rw [htb] at hT
    have HV8 := Lib.hid (And.intro hW8 htb)
    clear hP7 hE hW8 htb hS7 hr7'
    go_wp2_with fail
    rw [HV8.out.1, HV8.out.2]
    clear x7 x9 x8
    have cF := play_find id hP8.at_
    rw [hq7] at cF
    have hA3 := HA.out.2.2.1
    have hA4 := HA.out.2.2.2
    obtain ⟨⟨⟨fi, fs, fk, fd, fu, fc, ft⟩, fb⟩, hf⟩ : ∃ f, q2.s.find id = f := ⟨_, rfl⟩
    rw [hf] at cF hA3 hA4
    dsimp only at cF hA3 hA4
    unfold EI.val at cF
    dsimp only at cF
    have HA3 := Lib.hid hA3
    have HA4 := Lib.hid hA4
    clear hf hA3 hA4 HA
    with_reducible refine cF.mono ?_
    rintro e w9 ⟨rfl, hb9⟩
    have hS9 := hS8.below hb9
    have hT9 := hT.below hb9
    have hP9 := hP8.ext hb9
    clear cF hb9 hS8 hT hP8
    have hE := ext_new w9 (.cells #[.int .i64 fi, .int .i64 fs, .string fk, .string fd, .int .i64 fu, .bool fc, .bool ft] 23)
    have hX := Blk.new_ w9 23 #[.int .i64 fi, .int .i64 fs, .string fk, .string fd, .int .i64 fu, .bool fc, .bool ft]
    have hP10 := hP9.ext hE
    have hS10 := hS9.below hE
    have hT10 := hT9.below hE
    have hfin := hP10.bel
    have s10 := hS10.c3.2.2.1
    have t10 := hT10.c3.2.2.1
    have u10 := hX.c7.1.2.2.2.2.2.2
    clear hP9 hE hS9 hT9 hX hP10 hS10 hT10
    by_cases k1 : kd = 1
    · obtain rfl : ft = true := HA4.out k1
      obtain rfl : fb = true := by rw [HA3.out, decide_eq_true k1]
      subst k1
      go_wp2_with fail
      go_ret
      exact ⟨rfl, hfin⟩
    · obtain rfl : fb = false := by rw [HA3.out, decide_eq_false k1]
      have k2 : (kd == 1) = false := by simp [k1]
      go_wp2_with fail
      go_ret
      exact ⟨rfl, hfin⟩

end Go.Proofs.YtmebjdbkngehiaaGreatDoor
