/-
  QueueNew. Conditions: the program's variables hold what GInv says.
-/
import Derived.Test.YtmebjdbkngehiaaGreatDoorQhM
namespace Go.Proofs.YtmebjdbkngehiaaGreatDoor
open Go.RowKit Go.Shelf

theorem new_size (m : Nat) : (DN.new m).L.length = m := by show (List.replicate m _).length = m; simp
set_option maxRecDepth 100000 in
set_option maxHeartbeats 8000000 in
theorem law_new {w : World} {aA aT aN aW aS : Addr} (hI : GInv w aA aT aN aW aS) (s : Int) : Calls Tryz.prog 5 #[.int .i64 s] w (Ret (.bool true) w) := by
  have cS := shown_any hI
  by_cases hs : s < 1 ∨ 256 < s
  · have HS := Lib.hid hs
    go_enter Tryz.func5, Tryz.ntmps5
    go_wp2_with fail
    with_reducible refine cS.mono ?_
    rintro e w1 ⟨rfl, hb1⟩
    have cN := New_no s w1 HS.out
    clear cS hs
    go_wp2_with fail
    with_reducible refine cN.mono ?_
    rintro e w2 ⟨rfl, rfl⟩
    have cQ := new_nil w1 (hI.below hb1).d.s
    clear cN
    go_wp2_with fail
    with_reducible refine cQ.mono ?_
    rintro e w3 ⟨rfl, hb3⟩
    have hb := ext_trans hb1 hb3
    have cE := entries_nil w3
    clear cQ hb1 hb3
    go_wp2_with fail
    with_reducible refine cE.mono ?_
    rintro e w4 ⟨rfl, rfl⟩
    clear cE
    go_wp2_with fail
    go_ret
    exact ⟨rfl, hb⟩
  · obtain ⟨m, rfl⟩ : ∃ m : Nat, s = (m : Int) := ⟨s.toNat, by omega⟩
    have h1 : 1 ≤ m := by omega
    have h2 : m ≤ 256 := by omega
    clear hs
    go_enter Tryz.func5, Tryz.ntmps5
    go_wp2_with fail
    with_reducible refine cS.mono ?_
    rintro e w1 ⟨rfl, hb1⟩
    have cN := New_ok m w1 h1 h2
    clear cS
    go_wp2_with fail
    with_reducible refine cN.mono ?_
    intro e w2 hN
    obtain ⟨p, g, rfl, hP⟩ := QPlay.of_new hN h1
    have hP := hP.back hb1
    clear cN hN
    by_cases h9 : m < 9
    · have cQ := play_new hP hI (Nat.zero_le _)
      dsimp only at cQ
      rw [new_small (by rw [new_size]; exact h9) rfl] at cQ
      go_wp2_with fail
      with_reducible refine cQ.mono ?_
      rintro e w3 ⟨o, lv, rfl, hlv, hw⟩
      obtain ⟨A3, c3, rfl⟩ := own_form hlv
      have hP3 := hP.went hw
      obtain rfl : o = none := hP3.at_.none_ rfl
      have cK := keys_nil w3
      have hfin := hP3.bel
      clear cQ hlv hw hP hP3
      unfold qPtr
      have i9 : (m : Int) < 9 := by omega
      go_wp2_with fail
      with_reducible refine cK.mono ?_
      rintro e w4 ⟨rfl, rfl⟩
      clear cK
      go_wp2_with fail
      go_ret
      exact ⟨rfl, hfin⟩
    · obtain ⟨q, a1, a2, a3, a4, a5, a6⟩ := new_empty (m := m) (by omega)
      have HA := Lib.hid (show newN (DN.new m) = (DN.new m, some q, [], 0) from by
        rw [show newN (DN.new m) = ((newN (DN.new m)).1, (newN (DN.new m)).2.1, (newN (DN.new m)).2.2) from rfl, a2, a1, a3, a6])
      have HS := Lib.hid a5
      clear a1 a2 a3 a4 a5 a6
      have cQ := play_new hP hI (Nat.zero_le _)
      dsimp only at cQ
      rw [HA.out] at cQ
      dsimp only at cQ
      go_wp2_with fail
      with_reducible refine cQ.mono ?_
      rintro e w3 ⟨o, lv, rfl, hlv, hw⟩
      obtain ⟨A3, c3, rfl⟩ := own_form hlv
      have hP3 := hP.went hw
      clear cQ hlv hw hP
      have cE := play_entries hP3.at_
      rw [HS.out] at cE
      have i9 : ¬ (m : Int) < 9 := by omega
      go_wp2_with fail
      with_reducible refine cE.mono ?_
      rintro e w4 ⟨lv, rfl, hlv, hb4⟩
      obtain ⟨A4, c4, rfl⟩ := own_form hlv
      have hP4 := hP3.ext hb4
      clear cE hlv hb4 hP3
      have cK := play_keys hP4.at_
      rw [HS.out] at cK
      go_wp2_with fail
      with_reducible refine cK.mono ?_
      rintro e w5 ⟨lv, rfl, hlv, hb5⟩
      obtain ⟨A5, c5, rfl⟩ := own_form hlv
      have hP5 := hP4.ext hb5
      clear cK hlv hb5 hP4
      have cW := Writes_any hP5.at_.disk
      have hfin := hP5.bel
      rw [show ((DN.new m).n : Int) = 0 from rfl] at cW
      clear hP5
      go_wp2_with fail
      with_reducible refine cW.mono ?_
      rintro e w6 ⟨rfl, rfl⟩
      clear cW
      go_wp2_with fail
      go_ret
      exact ⟨rfl, hfin⟩

end Go.Proofs.YtmebjdbkngehiaaGreatDoor
