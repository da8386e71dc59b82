/-
  Package postriderlaw18: DiskApart. Conditions: errors.errorType holds the handle of the type error ('SInv'); nums' listed variables hold different errors ('NInv').
-/
import Derived.Test.YtlkghcfjcdeokaaDoorDkR
namespace Go.Proofs.YtlkghcfjcdeokaaDoor
open Go.RowKit Go.Shelf

set_option maxRecDepth 100000 in
set_option maxHeartbeats 20000000 in
theorem DiskApart_any {w : World} {aN aW aS : Addr} (k : Int) (A : Option Addr) (n c : Nat) (xs : List OI) (a : Int) (s : ByteArray) (o : Int) (hs : s.size ≤ 9223372036854775807) (hI : DInv w aN aW aS) (hx : OpsAt w A n xs) :
    Calls Tryd.prog 4 #[.int .i64 k, .slice A n c, .int .i64 a, .string s, .int .i64 o] w (Ret (.bool true) w) := by
  go_enter Tryd.func4, Tryd.ntmps4
  go_wp2_with fail
  refine (shown_any hI).mono ?_
  rintro e v1 ⟨rfl, b1⟩
  go_wp2_with fail
  refine (DCut_any A n c xs v1 hx.len (hx.rd.below b1) hx.sz).mono ?_
  rintro e v2 ⟨V, rfl, hown, b2⟩
  obtain ⟨hn, A', c', rfl, hrd⟩ := rdO_own hown
  have hok := cut_ok hx.ok
  have hl0 := hx.len
  have hlen : (xs.map OI.cut).length = xs.length := List.length_map ..
  rw [hn]
  generalize xs.map OI.cut = ys at *
  have hl : ys.length ≤ 40 := by omega
  have b2 := ext_trans b1 b2
  have hI2 := hI.below b2
  obtain ⟨m1, hm1, hmin⟩ := min2e #[3, 3] 3 s.size
  have hm2 : m1 ≤ s.size := by omega
  clear hm1
  clear hown hx b1 hn hlen
  go_wp2_with fail
  by_cases hk : k < 1 ∨ 256 < k
  · refine (New_no k v2 hk).mono ?_
    rintro e v3 ⟨rfl, rfl⟩
    go_wp2_with fail
    go_ret
    exact ⟨rfl, b2⟩
  · obtain ⟨K, rfl⟩ : ∃ K : Nat, k = (K : Int) := ⟨k.toNat, by omega⟩
    have k1 : 1 ≤ K := by omega
    have k2 : K ≤ 256 := by omega
    refine (New_ok K v2 k1 k2).mono ?_
    intro e v3 hN
    obtain ⟨p, g, rfl, h3⟩ := Play.of_new hN k1
    have hR := Ran.start h3
    clear hN h3 hk
    go_wp2_with fail
    go_loopw [14] (fun i wr => ∃ (j : Nat) (d : DN), j ≤ ys.length ∧ i = .int .i64 (j : Int) ∧ Ran v2 p g K j d wr) (fun i _ => ys.length - (intOf i).toNat)
    case atStart => exact ⟨0, _, by omega, rfl, hR⟩
    case round =>
      obtain ⟨j, d, hj, rfl, hd⟩ := hrel
      by_cases hlt : j < ys.length
      · obtain ⟨q, rfl, hab, hca⟩ := hrd (by omega)
        obtain ⟨g1, g2, g3, g4⟩ := hca j hlt
        have hyo := hok _ (List.getElem_mem hlt)
        have hl0 : (q.add (j * 4)).block < v2.heap.size := by rw [add_blk]; exact hab
        have x1 := (hd.1.bel.cell hl0).trans g1
        have x2 := (hd.1.bel.cell (by exact hl0)).trans g2
        have x3 := (hd.1.bel.cell (by exact hl0)).trans g3
        have x4 := (hd.1.bel.cell (by exact hl0)).trans g4
        have i1 : (0 : Int) ≤ (j : Int) := by omega
        have i2 : (j : Int) < (ys.length : Int) := by omega
        have hD := do_any ys[j] hd.1 (hI2.below hd.1.bel) (by have := hd.2.2; omega) hyo
        have hDD := fun W' => hd.act ys[j] (W' := W')
        clear g1 g2 g3 g4 hca hrd hok
        generalize ys[j] = x at *
        go_wp2_with fail
        refine hD.mono ?_
        rintro e w4 ⟨rfl, hp4⟩
        have hr4 := hDD _ hp4
        clear hDD hD
        go_wp2_with fail
        go_roundw
        case rel => exact ⟨j + 1, _, by omega, by go_num, hr4⟩
        case measure => simp [intOf]; omega
      · obtain rfl : j = ys.length := by omega
        obtain ⟨hP, hdl, hdn⟩ := hd
        go_wp2_with fail
        generalize s.extract 0 m1 = T0 at *
        by_cases hdown : d.down = true
        · refine (Read_any o hP.disk (hI2.below hP.bel).s).mono ?_
          rw [DN.read_down hdown]
          rintro e w5 ⟨rfl, b5⟩
          have h5 := hP.below b5
          go_wp2_with fail
          refine (Read_any a h5.disk (hI2.below h5.bel).s).mono ?_
          rw [DN.read_down hdown]
          rintro e w6 ⟨rfl, b6⟩
          have h6 := h5.below b6
          go_wp2_with fail
          refine (Write_any a T0 h6.disk (hI2.below h6.bel).s (by omega)).mono ?_
          rw [DN.write_down hdown]
          rintro e w7 ⟨rfl, q1, q2⟩
          have h7 := h6.but q1 rfl q2
          clear q1 q2
          go_wp2_with fail
          refine (Restart_any h7.disk).mono ?_
          rintro e w8 ⟨rfl, q1, q2⟩
          have h8 := h7.but q1 rfl q2
          generalize d.restart = D at *
          go_wp2_with fail
          refine (Read_any o h8.disk (hI2.below h8.bel).s).mono ?_
          rintro e w9 ⟨rfl, b9⟩
          have h9 := h8.below b9
          generalize D.read o = ro at *
          go_wp2_with fail
          refine (Read_any a h9.disk (hI2.below h9.bel).s).mono ?_
          rintro e w10 ⟨rfl, b10⟩
          have h10 := h9.below b10
          generalize D.read a = ra at *
          go_wp2_with fail
          go_ret
          exact ⟨rfl, b2.trans (h10.bel.mono b2.size)⟩
        · have hup : d.down = false := by simpa using hdown
          clear hdown
          refine (Read_any o hP.disk (hI2.below hP.bel).s).mono ?_
          rintro e w5 ⟨rfl, b5⟩
          have h5 := hP.below b5
          rcases has_cases d a with hno | ⟨r, rfl, hr⟩
          · generalize d.read o = ro at *
            go_wp2_with fail
            refine (Read_any a h5.disk (hI2.below h5.bel).s).mono ?_
            rw [DN.read_no hup hno]
            rintro e w6 ⟨rfl, b6⟩
            have h6 := h5.below b6
            go_wp2_with fail
            refine (Write_any a T0 h6.disk (hI2.below h6.bel).s (by omega)).mono ?_
            rw [DN.write_no hup (fun q => by rw [hno] at q; exact absurd q.1 (by decide))]
            rintro e w7 ⟨rfl, q1, q2⟩
            have h7 := h6.but q1 rfl q2
            go_wp2_with fail
            go_ret
            exact ⟨rfl, b2.trans (h7.bel.mono b2.size)⟩
          · by_cases hT0 : T0.size = 64
            · have h5b : d.L[r].length = 64 := hP.disk.fit.sec _ (List.getElem_mem hr)
              obtain ⟨c, hc64, hw, hw1⟩ := write_both (s := T0.data.toList) hP.disk.fit hup hr (by rw [list_len]; exact hT0)
              have hdl' := (DN.write_fit hP.disk.fit (r : Int) T0.data.toList).2.1
              have hWr := fun W h => Write_any (w := W) (p := p) (g := g) (d := d) (r : Int) T0 h
              have hRr := fun W h => Read_any (w := W) (p := p) (g := g) (d := d) (r : Int) h
              rw [DN.read_ok hup hr] at hRr
              obtain ⟨hro2, hro1, hra⟩ := read_after (D := (d.write (r : Int) T0.data.toList).1.restart) hup rfl hw1 hr o
              generalize (d.write (r : Int) T0.data.toList).1 = D at *
              generalize (d.write (r : Int) T0.data.toList).2 = h at *
              obtain ⟨z1, z2, z3⟩ := apart_text (T := ⟨(T0.data.toList.take c ++ d.L[r].drop c).toArray⟩) hT0 h5b c hc64 rfl
              have z4 : (⟨d.L[r].toArray⟩ : ByteArray).size = 64 := by rw [list_size2]; exact h5b
              have hRo2 := fun W h => Read_any (w := W) (p := p) (g := g) (d := D.restart) o h
              rw [hro2] at hRo2
              have hRr2 := fun W h => Read_any (w := W) (p := p) (g := g) (d := D.restart) (r : Int) h
              rw [hra] at hRr2
              dsimp only at hRo2 hRr2 hRr
              have hrl : D.restart.L.length = D.L.length := rfl
              generalize (d.read o).2 = fo at *
              generalize (d.read o).1 = ro at *
              generalize (D.restart.read o).1 = ro2 at *
              generalize (⟨(T0.data.toList.take c ++ d.L[r].drop c).toArray⟩ : ByteArray) = T at *
              generalize (⟨d.L[r].toArray⟩ : ByteArray) = B at *
              have hro3 : o ≠ (r : Int) → (⟨ro2.toArray⟩ : ByteArray) = ⟨ro.toArray⟩ := fun q => by rw [hro1 q]
              generalize (⟨ro2.toArray⟩ : ByteArray) = RO2 at *
              generalize (⟨ro.toArray⟩ : ByteArray) = RO at *
              clear hw1 hro1 hro2 hra
              go_wp2_with fail
              refine (hRr _ h5.disk (hI2.below h5.bel).s).mono ?_
              rintro e w6 ⟨rfl, b6⟩
              have h6 := h5.below b6
              go_wp2_with fail
              refine (hWr _ h6.disk (hI2.below h6.bel).s (by omega)).mono ?_
              rintro e w7 ⟨rfl, q1, q2⟩
              have h7 := h6.but q1 hdl' q2
              clear q1 q2
              rcases hw with ⟨rfl, hcc⟩ | rfl
              · have hTT := z2 hcc
                subst hTT
                go_wp2_with fail
                refine (Restart_any h7.disk).mono ?_
                rintro e w8 ⟨rfl, q1, q2⟩
                have h8 := h7.but q1 rfl q2
                clear q1 q2
                go_wp2_with fail
                refine (hRo2 _ h8.disk (hI2.below h8.bel).s).mono ?_
                rintro e w9 ⟨rfl, b9⟩
                have h9 := h8.below b9
                go_wp2_with fail
                refine (hRr2 _ h9.disk (hI2.below h9.bel).s).mono ?_
                rintro e w10 ⟨rfl, b10⟩
                have h10 := h9.below b10
                have hb10 := h10.bel
                clear hRo2 hRr2 hWr hRr h5 h6 h7 h8 h9 h10 b5 b6 b9 b10 hrd hok hP hR hmin
                go_wp2_with fail
                go_loopw [24] (fun i wr => ∃ j : Nat, j ≤ 64 ∧ i = .int .i64 (j : Int) ∧ Below v2.heap.size v2 wr) (fun i _ => 64 - (intOf i).toNat)
                case atStart => exact ⟨0, by omega, rfl, hb10⟩
                case round =>
                  obtain ⟨j, hj, rfl, hbr⟩ := hrel
                  by_cases hlt : j < 64
                  · have i1 : (0 : Int) ≤ (j : Int) := by omega
                    have i2 : (j : Int) < 64 := by omega
                    have i3 : j < T.size := by omega
                    clear z3 hro3
                    go_wp2_with fail
                    go_region
                    go_wp2_with fail
                    exact ⟨⟨j + 1, by omega, by go_num, hbr.drew⟩, by simp [intOf]; omega⟩
                  · obtain rfl : j = 64 := by omega
                    have z5 := z3 64 (by omega) (.inl rfl)
                    clear z3
                    by_cases hor : o = (r : Int)
                    · subst hor
                      clear hro3
                      go_wp2_with fail
                      go_region
                      go_wp2_with fail
                      go_region
                      go_wp2_with fail
                      go_ret
                      exact ⟨rfl, b2.trans ((hbr.drew.drew).mono b2.size)⟩
                    · have hRR := hro3 hor
                      subst hRR
                      clear hro3
                      go_wp2_with fail
                      go_region
                      go_wp2_with fail
                      go_quiet (fail)
                      go_wp2_with fail
                      go_ret
                      exact ⟨rfl, b2.trans ((below_drewN' hbr.drew _).mono b2.size)⟩
              · clear z2
                go_wp2_with fail
                refine (Restart_any h7.disk).mono ?_
                rintro e w8 ⟨rfl, q1, q2⟩
                have h8 := h7.but q1 rfl q2
                clear q1 q2
                go_wp2_with fail
                refine (hRo2 _ h8.disk (hI2.below h8.bel).s).mono ?_
                rintro e w9 ⟨rfl, b9⟩
                have h9 := h8.below b9
                go_wp2_with fail
                refine (hRr2 _ h9.disk (hI2.below h9.bel).s).mono ?_
                rintro e w10 ⟨rfl, b10⟩
                have h10 := h9.below b10
                have hb10 := h10.bel
                clear hRo2 hRr2 hWr hRr h5 h6 h7 h8 h9 h10 b5 b6 b9 b10 hrd hok hP hR hmin
                go_wp2_with fail
                go_loopw [24] (fun i wr => ∃ j : Nat, j ≤ 64 ∧ i = .int .i64 (j : Int) ∧ Below v2.heap.size v2 wr) (fun i _ => 64 - (intOf i).toNat)
                case atStart => exact ⟨0, by omega, rfl, hb10⟩
                case round =>
                  obtain ⟨j, hj, rfl, hbr⟩ := hrel
                  by_cases hlt : j < 64
                  · have i1 : (0 : Int) ≤ (j : Int) := by omega
                    have i2 : (j : Int) < 64 := by omega
                    have i3 : j < T.size := by omega
                    have i4 : j < T0.size := by omega
                    by_cases hbb : T[j] = T0[j]
                    · clear z3 hro3
                      go_wp2_with fail
                      go_region
                      go_wp2_with fail
                      exact ⟨⟨j + 1, by omega, by go_num, hbr.drew⟩, by simp [intOf]; omega⟩
                    · have z5 := z3 j (by omega) (.inr ⟨i3, i4, hbb⟩)
                      have hbc : ¬ T[j].toNat = T0[j].toNat := fun q => hbb (UInt8.toNat_inj.1 q)
                      have i5 : (j : Int) ≤ 64 := by omega
                      have i6 : j ≤ 64 := by omega
                      clear z3
                      by_cases hor : o = (r : Int)
                      · subst hor
                        clear hro3
                        go_wp2_with fail
                        go_region
                        go_wp2_with fail
                        go_region
                        go_wp2_with fail
                        go_ret
                        exact ⟨rfl, b2.trans ((hbr.drew.drew).mono b2.size)⟩
                      · have hRR := hro3 hor
                        subst hRR
                        clear hro3
                        go_wp2_with fail
                        go_region
                        go_wp2_with fail
                        go_quiet (fail)
                        go_wp2_with fail
                        go_ret
                        exact ⟨rfl, b2.trans ((below_drewN' hbr.drew _).mono b2.size)⟩
                  · obtain rfl : j = 64 := by omega
                    have z5 := z3 64 (by omega) (.inl rfl)
                    clear z3
                    by_cases hor : o = (r : Int)
                    · subst hor
                      clear hro3
                      go_wp2_with fail
                      go_region
                      go_wp2_with fail
                      go_region
                      go_wp2_with fail
                      go_ret
                      exact ⟨rfl, b2.trans ((hbr.drew.drew).mono b2.size)⟩
                    · have hRR := hro3 hor
                      subst hRR
                      clear hro3
                      go_wp2_with fail
                      go_region
                      go_wp2_with fail
                      go_quiet (fail)
                      go_wp2_with fail
                      go_ret
                      exact ⟨rfl, b2.trans ((below_drewN' hbr.drew _).mono b2.size)⟩
            · have hRr := fun W h => Read_any (w := W) (p := p) (g := g) (d := d) (r : Int) h
              rw [DN.read_ok hup hr] at hRr
              dsimp only at hRr
              generalize (⟨d.L[r].toArray⟩ : ByteArray) = B at *
              have hz : ¬ ((T0.size : Int) = 64) := by omega
              have hz2 : ((T0.size : Int) != 64) = true := by simpa using hz
              generalize d.read o = ro at *
              go_wp2_with fail
              refine (hRr _ h5.disk (hI2.below h5.bel).s).mono ?_
              rintro e w6 ⟨rfl, b6⟩
              have h6 := h5.below b6
              go_wp2_with fail
              refine (Write_any (r : Int) T0 h6.disk (hI2.below h6.bel).s (by omega)).mono ?_
              rw [DN.write_no hup (fun q => hT0 (by rw [← list_len]; exact q.2))]
              rintro e w7 ⟨rfl, q1, q2⟩
              have h7 := h6.but q1 rfl q2
              go_wp2_with fail
              go_ret
              exact ⟨rfl, b2.trans (h7.bel.mono b2.size)⟩

end Go.Proofs.YtlkghcfjcdeokaaDoor
