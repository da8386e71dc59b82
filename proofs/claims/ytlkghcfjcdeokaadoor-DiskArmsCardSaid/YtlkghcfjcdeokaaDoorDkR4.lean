/-
  Package postriderlaw18: DiskArms. Conditions: errors.errorType holds the handle of the type error ('SInv'); nums' listed variables hold different errors ('NInv').
-/
import Derived.Test.YtlkghcfjcdeokaaDoorDkR
namespace Go.Proofs.YtlkghcfjcdeokaaDoor
open Go.RowKit Go.Shelf

/-- Where an armed disk stands after j writes. -/
structure Armed (w : World) (p g K N j : Nat) (d : DN) (W : World) : Prop where
  play : Play w p g d W
  len : d.L.length = K
  n : d.n = j
  left : d.left = N - j
  down : d.down = decide (j = N)
theorem DN.arm_ok {d : DN} {N : Nat} {c : Int} (h : 1 ≤ N) (h1 : 0 ≤ c) (h2 : c ≤ 64) : d.arm (N : Int) c = ({ d with left := N, cut := c.toNat }, 0) := by
  rw [DN.arm, if_pos ⟨by omega, h1, h2⟩, Int.toNat_natCast]
theorem arm_no {d : DN} {k c : Int} (h : k < 1 ∨ c < 0 ∨ 64 < c) : d.arm k c = (d, 2) := by
  rw [DN.arm, if_neg (by omega)]

set_option maxRecDepth 100000 in
set_option maxHeartbeats 2000000 in
theorem DiskArms_any {w : World} {aN aW aS : Addr} (k wr cut : Int) (hwr : wr ≤ 9223372036854775807) (hI : DInv w aN aW aS) :
    Calls Tryd.prog 7 #[.int .i64 k, .int .i64 wr, .int .i64 cut] w (Ret (.bool true) w) := by
  go_enter Tryd.func7, Tryd.ntmps7
  go_wp2_with fail
  refine (shown_any hI).mono ?_
  rintro e v2 ⟨rfl, b2⟩
  have hI2 := hI.below b2
  go_wp2_with fail
  by_cases hk : k < 1 ∨ 256 < k
  · refine (New_no k v2 hk).mono ?_
    rintro e v3 ⟨rfl, rfl⟩
    go_wp2_with fail
    go_ret
    exact ⟨rfl, b2⟩
  · obtain ⟨K, rfl⟩ : ∃ K : Nat, k = (K : Int) := ⟨k.toNat, by omega⟩
    have k1 : 1 ≤ K := by omega
    have k2 : K ≤ 256 := by omega
    refine (New_ok K v2 k1 k2).mono ?_
    intro e v3 hN
    obtain ⟨p, g, rfl, h3⟩ := Play.of_new hN k1
    have hR := Ran.start h3
    clear hN hk
    go_wp2_with fail
    by_cases hno : wr < 1 ∨ cut < 0 ∨ 64 < cut
    · refine (Arm_any wr cut h3.disk (hI2.below h3.bel).s hwr).mono ?_
      rw [arm_no hno]
      rintro e v4 ⟨rfl, q1, q2⟩
      have h4 := h3.but q1 rfl q2
      clear hR
      by_cases c1 : wr < 1
      · go_wp2_with fail
        go_ret
        exact ⟨rfl, b2.trans (h4.bel.mono b2.size)⟩
      · by_cases c2 : cut < 0
        · go_wp2_with fail
          go_ret
          exact ⟨rfl, b2.trans (h4.bel.mono b2.size)⟩
        · have c3 : 64 < cut := by omega
          go_wp2_with fail
          go_ret
          exact ⟨rfl, b2.trans (h4.bel.mono b2.size)⟩
    · obtain ⟨N, rfl⟩ : ∃ N : Nat, wr = (N : Int) := ⟨wr.toNat, by omega⟩
      have n1 : 1 ≤ N := by omega
      refine (Arm_any (N : Int) cut h3.disk (hI2.below h3.bel).s hwr).mono ?_
      rw [DN.arm_ok n1 (by omega) (by omega)]
      rintro e v4 ⟨rfl, q1, q2⟩
      have h4 : Armed v2 p g K N 0 { DN.new K with left := N, cut := cut.toNat } v4 := ⟨h3.but q1 rfl q2, hR.2.1, rfl, rfl, (decide_eq_false (by omega)).symm⟩
      generalize ({ DN.new K with left := N, cut := cut.toNat } : DN) = d0 at *
      clear q1 q2 hR h3 hno
      go_wp2_with fail
      go_loopw [11] (fun i wr => ∃ (j : Nat) (d : DN), j ≤ N ∧ j ≤ 100 ∧ i = .int .i64 ((j : Int) + 1) ∧ Armed v2 p g K N j d wr) (fun i _ => 200 - (intOf i).toNat)
      case atStart => exact ⟨0, _, by omega, by omega, rfl, h4⟩
      case round =>
        obtain ⟨j, d, hj, hj1, rfl, hd⟩ := hrel
        obtain ⟨hP, e1, e2, e3, e4⟩ := hd
        by_cases hlt : j < N ∧ j < 100
        · obtain ⟨l1, l2⟩ := hlt
          have hdn : d.down = false := by rw [e4]; exact decide_eq_false (by omega)
          have i1 : (j : Int) + 1 ≤ (N : Int) := by omega
          have i2 : (j : Int) + 1 ≤ 100 := by omega
          have i3 : (0 : Int) ≤ (j : Int) := by omega
          have i4 : ¬ K = 0 := by omega
          have hm : (j + 1) % K < d.L.length := by rw [e1]; exact Nat.mod_lt _ (by omega)
          have hmod : (((j + 1) % K : Nat) : Int) = ((j : Int) + 1).tmod (K : Int) := rfl
          have hn6 : d.n < 1000000 := by omega
          generalize (j + 1) % K = m at *
          have hPd := hP.below (ext_refl _).drew
          have hW := fun W h => Write_any (w := W) (p := p) (g := g) (d := d) (m : Int) (fullT 120) h
          rw [full_list] at hW
          by_cases hl : j + 1 = N
          · rw [DN.write_last hdn (by omega) hm (by simp), hmod] at hW
            clear hmod
            have f1 : ({ L := d.L.set m (List.take d.cut (List.replicate 64 120) ++ List.drop d.cut d.L[m]), left := 0, cut := d.cut, down := true, n := d.n + 1 } : DN).down = true := rfl
            have f2 : ({ L := d.L.set m (List.take d.cut (List.replicate 64 120) ++ List.drop d.cut d.L[m]), left := 0, cut := d.cut, down := true, n := d.n + 1 } : DN).n = j + 1 := congrArg (· + 1) e2
            have f3 : ({ L := d.L.set m (List.take d.cut (List.replicate 64 120) ++ List.drop d.cut d.L[m]), left := 0, cut := d.cut, down := true, n := d.n + 1 } : DN).L.length = d.L.length := by simp
            have f4 : ({ L := d.L.set m (List.take d.cut (List.replicate 64 120) ++ List.drop d.cut d.L[m]), left := 0, cut := d.cut, down := true, n := d.n + 1 } : DN).left = 0 := rfl
            generalize ({ L := d.L.set m (List.take d.cut (List.replicate 64 120) ++ List.drop d.cut d.L[m]), left := 0, cut := d.cut, down := true, n := d.n + 1 } : DN) = D at *
            go_wp2_with fail
            go_region_held3 (fun _ => True) (trivial) (first | (refine (full_t 120 120 rfl _).mono ?_; rintro e w5 ⟨rfl, b5⟩; have h5 := hPd.below b5) | (go_at_call 19; (with_reducible refine (hW _ h5.disk (hI2.below h5.bel).s hn6).mono ?_); rintro e w6 ⟨rfl, q1, q2⟩))
            have h6 := h5.but q1 f3 q2
            have hDn := IsDown_any h6.disk
            have hWn := Writes_any h6.disk
            rw [f1] at hDn
            rw [f2] at hWn
            have hA : Armed v2 p g K N (j + 1) D w6 := ⟨h6, f3.trans e1, f2, by omega, by rw [f1]; exact (decide_eq_true hl).symm⟩
            clear hW h5 q1 q2 f1 f2 f3 f4 h6 hP
            go_wp2_with fail
            refine hDn.mono ?_
            rintro e w7 ⟨rfl, rfl⟩
            go_wp2_with fail
            refine hWn.mono ?_
            rintro e w7 ⟨rfl, rfl⟩
            go_wp2_with fail
            go_roundw
            case rel => exact ⟨j + 1, _, by omega, by omega, by go_num, hA⟩
            case measure => simp [intOf]; omega
          · rw [DN.write_ok hP.disk.fit hdn (by omega) hm (by simp), hmod] at hW
            clear hmod
            have f1 : ({ L := d.L.set m (List.replicate 64 120), left := d.left - 1, cut := d.cut, down := false, n := d.n + 1 } : DN).down = false := rfl
            have f2 : ({ L := d.L.set m (List.replicate 64 120), left := d.left - 1, cut := d.cut, down := false, n := d.n + 1 } : DN).n = j + 1 := congrArg (· + 1) e2
            have f3 : ({ L := d.L.set m (List.replicate 64 120), left := d.left - 1, cut := d.cut, down := false, n := d.n + 1 } : DN).L.length = d.L.length := by simp
            have f4 : ({ L := d.L.set m (List.replicate 64 120), left := d.left - 1, cut := d.cut, down := false, n := d.n + 1 } : DN).left = d.left - 1 := rfl
            generalize ({ L := d.L.set m (List.replicate 64 120), left := d.left - 1, cut := d.cut, down := false, n := d.n + 1 } : DN) = D at *
            have i5 : ¬ (j : Int) + 1 = (N : Int) := by omega
            have i6 : (j : Int) + 1 < (N : Int) := by omega
            go_wp2_with fail
            go_region_held3 (fun _ => True) (trivial) (first | (refine (full_t 120 120 rfl _).mono ?_; rintro e w5 ⟨rfl, b5⟩; have h5 := hPd.below b5) | (go_at_call 19; (with_reducible refine (hW _ h5.disk (hI2.below h5.bel).s hn6).mono ?_); rintro e w6 ⟨rfl, q1, q2⟩))
            have h6 := h5.but q1 f3 q2
            have hDn := IsDown_any h6.disk
            have hWn := Writes_any h6.disk
            rw [f1] at hDn
            rw [f2] at hWn
            have hA : Armed v2 p g K N (j + 1) D w6 := ⟨h6, f3.trans e1, f2, by omega, by rw [f1]; exact (decide_eq_false hl).symm⟩
            clear hW h5 q1 q2 f1 f2 f3 f4 h6 hP
            go_wp2_with fail
            refine hDn.mono ?_
            rintro e w7 ⟨rfl, rfl⟩
            go_wp2_with fail
            refine hWn.mono ?_
            rintro e w7 ⟨rfl, rfl⟩
            go_wp2_with fail
            go_roundw
            case rel => exact ⟨j + 1, _, by omega, by omega, by go_num, hA⟩
            case measure => simp [intOf]; omega
        · by_cases l1 : j < N
          · have l2 : j = 100 := by omega
            subst l2
            have i1 : ((100 : Nat) : Int) + 1 ≤ (N : Int) := by omega
            go_wp2_with fail
            go_ret
            exact ⟨rfl, b2.trans (hP.bel.mono b2.size)⟩
          · obtain rfl : j = N := by omega
            have i1 : ¬ (j : Int) + 1 ≤ (j : Int) := by omega
            go_wp2_with fail
            go_ret
            exact ⟨rfl, b2.trans (hP.bel.mono b2.size)⟩

end Go.Proofs.YtlkghcfjcdeokaaDoor
