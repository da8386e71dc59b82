/-
  Package postriderlaw18: DiskDown. Conditions: errors.errorType holds the handle of the type error ('SInv'); nums' listed variables hold different errors ('NInv').
-/
import Derived.Test.YtlkghcfjcdeokaaDoorDkR
namespace Go.Proofs.YtlkghcfjcdeokaaDoor
open Go.RowKit Go.Shelf

set_option maxRecDepth 100000 in
set_option maxHeartbeats 2000000 in
theorem DiskDown_any {w : World} {aN aW aS : Addr} (k : Int) (A : Option Addr) (n c : Nat) (xs : List OI) (a cut : Int) (hI : DInv w aN aW aS) (hx : OpsAt w A n xs) :
    Calls Tryd.prog 6 #[.int .i64 k, .slice A n c, .int .i64 a, .int .i64 cut] w (Ret (.bool true) w) := by
  go_enter Tryd.func6, Tryd.ntmps6
  go_wp2_with fail
  refine (shown_any hI).mono ?_
  rintro e v1 ⟨rfl, b1⟩
  go_wp2_with fail
  refine (DCut_any A n c xs v1 hx.len (hx.rd.below b1) hx.sz).mono ?_
  rintro e v2 ⟨V, rfl, hown, b2⟩
  obtain ⟨hn, A', c', rfl, hrd⟩ := rdO_own hown
  have hok := cut_ok hx.ok
  have hl0 := hx.len
  have hlen : (xs.map OI.cut).length = xs.length := List.length_map ..
  rw [hn]
  generalize xs.map OI.cut = ys at *
  have hl : ys.length ≤ 40 := by omega
  have b2 := ext_trans b1 b2
  have hI2 := hI.below b2
  clear hown hx b1 hn hlen
  go_wp2_with fail
  by_cases hk : k < 1 ∨ 256 < k
  · refine (New_no k v2 hk).mono ?_
    rintro e v3 ⟨rfl, rfl⟩
    go_wp2_with fail
    go_ret
    exact ⟨rfl, b2⟩
  · obtain ⟨K, rfl⟩ : ∃ K : Nat, k = (K : Int) := ⟨k.toNat, by omega⟩
    have k1 : 1 ≤ K := by omega
    have k2 : K ≤ 256 := by omega
    refine (New_ok K v2 k1 k2).mono ?_
    intro e v3 hN
    obtain ⟨p, g, rfl, h3⟩ := Play.of_new hN k1
    have hR := Ran.start h3
    clear hN h3 hk
    go_wp2_with fail
    go_loopw [12] (fun i wr => ∃ (j : Nat) (d : DN), j ≤ ys.length ∧ i = .int .i64 (j : Int) ∧ Ran v2 p g K j d wr) (fun i _ => ys.length - (intOf i).toNat)
    case atStart => exact ⟨0, _, by omega, rfl, hR⟩
    case round =>
      obtain ⟨j, d, hj, rfl, hd⟩ := hrel
      by_cases hlt : j < ys.length
      · obtain ⟨q, rfl, hab, hca⟩ := hrd (by omega)
        obtain ⟨g1, g2, g3, g4⟩ := hca j hlt
        have hyo := hok _ (List.getElem_mem hlt)
        have hl0 : (q.add (j * 4)).block < v2.heap.size := by rw [add_blk]; exact hab
        have x1 := (hd.1.bel.cell hl0).trans g1
        have x2 := (hd.1.bel.cell (by exact hl0)).trans g2
        have x3 := (hd.1.bel.cell (by exact hl0)).trans g3
        have x4 := (hd.1.bel.cell (by exact hl0)).trans g4
        have i1 : (0 : Int) ≤ (j : Int) := by omega
        have i2 : (j : Int) < (ys.length : Int) := by omega
        have hD := do_any ys[j] hd.1 (hI2.below hd.1.bel) (by have := hd.2.2; omega) hyo
        have hDD := fun W' => hd.act ys[j] (W' := W')
        clear g1 g2 g3 g4 hca hrd hok
        generalize ys[j] = x at *
        go_wp2_with fail
        refine hD.mono ?_
        rintro e w4 ⟨rfl, hp4⟩
        have hr4 := hDD _ hp4
        clear hDD hD
        go_wp2_with fail
        go_roundw
        case rel => exact ⟨j + 1, _, by omega, by go_num, hr4⟩
        case measure => simp [intOf]; omega
      · obtain rfl : j = ys.length := by omega
        obtain ⟨hP, hdl, hdn⟩ := hd
        go_wp2_with fail
        refine (Restart_any hP.disk).mono ?_
        rintro e w5 ⟨rfl, q1, q2⟩
        have h5 := hP.but q1 rfl q2
        have hup : d.restart.down = false := rfl
        have hleft : d.restart.left = 0 := rfl
        have hdl2 : d.restart.L.length = K := hdl
        have hdn2 : d.restart.n ≤ 40 := by show d.n ≤ 40; omega
        clear hP hdn q1 q2 hdl
        generalize d.restart = D at *
        have h64x := full_list 120
        go_wp2_with fail
        refine (Writes_any h5.disk).mono ?_
        rintro e w6 ⟨rfl, rfl⟩
        go_wp2_with fail
        refine (Arm_any 1 cut h5.disk (hI2.below h5.bel).s (by decide)).mono ?_
        by_cases hc : 0 ≤ cut ∧ cut ≤ 64
        · rw [DN.arm, if_pos ⟨by decide, hc.1, hc.2⟩]
          rintro e w7 ⟨rfl, q1, q2⟩
          have h7 := h5.but q1 rfl q2
          clear q1 q2
          have e1 : ({ D with left := (1 : Int).toNat, cut := cut.toNat } : DN).down = false := hup
          have e2 : ({ D with left := (1 : Int).toNat, cut := cut.toNat } : DN).left = 1 := rfl
          have e3 : ({ D with left := (1 : Int).toNat, cut := cut.toNat } : DN).L.length = K := hdl2
          have e4 : ({ D with left := (1 : Int).toNat, cut := cut.toNat } : DN).n = D.n := rfl
          generalize ({ D with left := (1 : Int).toNat, cut := cut.toNat } : DN) = D1 at *
          go_wp2_with fail
          refine (full_t 120 120 rfl _).mono ?_
          rintro e w8 ⟨rfl, b8⟩
          have h8 := h7.below b8
          go_wp2_with fail
          refine (Write_any a _ h8.disk (hI2.below h8.bel).s (by omega)).mono ?_
          rw [full_list]
          rcases has_cases D1 a with hno | ⟨m, rfl, hm⟩
          · rw [DN.write_no e1 (fun q => by rw [hno] at q; exact absurd q.1 (by decide))]
            rintro e w9 ⟨rfl, q1, q2⟩
            have h9 := h8.but q1 rfl q2
            go_wp2_with fail
            go_ret
            exact ⟨rfl, b2.trans (h9.bel.mono b2.size)⟩
          · rw [DN.write_last e1 e2 hm (by simp)]
            rintro e w9 ⟨rfl, q1, q2⟩
            have h9 := h8.but q1 (by simp) q2
            clear q1 q2
            have f1 : ({ L := D1.L.set m (List.take D1.cut (List.replicate 64 120) ++ List.drop D1.cut D1.L[m]), left := 0, cut := D1.cut, down := true, n := D1.n + 1 } : DN).down = true := rfl
            have f2 : ({ L := D1.L.set m (List.take D1.cut (List.replicate 64 120) ++ List.drop D1.cut D1.L[m]), left := 0, cut := D1.cut, down := true, n := D1.n + 1 } : DN).n = D.n + 1 := congrArg (· + 1) e4
            have f3 : m < ({ L := D1.L.set m (List.take D1.cut (List.replicate 64 120) ++ List.drop D1.cut D1.L[m]), left := 0, cut := D1.cut, down := true, n := D1.n + 1 } : DN).L.length := by simpa using hm
            generalize ({ L := D1.L.set m (List.take D1.cut (List.replicate 64 120) ++ List.drop D1.cut D1.L[m]), left := 0, cut := D1.cut, down := true, n := D1.n + 1 } : DN) = D2 at *
            clear h5 h7 h8 e1 e2 e3 e4 hm
            go_wp2_with fail
            refine (IsDown_any h9.disk).mono ?_
            rw [f1]
            rintro e w10 ⟨rfl, rfl⟩
            go_wp2_with fail
            refine (full_t 121 121 rfl _).mono ?_
            rintro e w10 ⟨rfl, b10⟩
            have h10 := h9.below b10
            go_wp2_with fail
            refine (Write_any m _ h10.disk (hI2.below h10.bel).s (by omega)).mono ?_
            rw [DN.write_down f1]
            rintro e w11 ⟨rfl, q1, q2⟩
            have h11 := h10.but q1 rfl q2
            clear q1 q2
            go_wp2_with fail
            refine (Read_any m h11.disk (hI2.below h11.bel).s).mono ?_
            rw [DN.read_down f1]
            rintro e w12 ⟨rfl, b12⟩
            have h12 := h11.below b12
            go_wp2_with fail
            refine (DBytes_any 0 1 aN aW aS h12.disk (hI2.below h12.bel) h12.pos (by decide) (by decide)).mono ?_
            rw [DN.bytes, if_pos f1]
            rintro e w13 ⟨rfl, b13⟩
            have h13 := h12.below b13
            clear h9 h10 h11 h12
            go_wp2_with fail
            refine (Restart_any h13.disk).mono ?_
            rintro e w14 ⟨rfl, q1, q2⟩
            have h14 := h13.but q1 rfl q2
            have r1 : D2.restart.down = false := rfl
            have r2 : D2.restart.left ≠ 1 := by show (0 : Nat) ≠ 1; decide
            have r3 : D2.restart.n = D.n + 1 := f2
            have r4 : m < D2.restart.L.length := f3
            clear h13 q1 q2 f1 f2 f3
            generalize D2.restart = D3 at *
            go_wp2_with fail
            refine (full_t 122 122 rfl _).mono ?_
            rintro e w15 ⟨rfl, b15⟩
            have h15 := h14.below b15
            go_wp2_with fail
            refine (Write_any m _ h15.disk (hI2.below h15.bel).s (by omega)).mono ?_
            rw [full_list, DN.write_ok h15.disk.fit r1 r2 r4 (by simp)]
            rintro e w16 ⟨rfl, q1, q2⟩
            have h16 := h15.but q1 (by simp) q2
            have t1 : ({ L := D3.L.set m (List.replicate 64 122), left := D3.left - 1, cut := D3.cut, down := false, n := D3.n + 1 } : DN).down = false := rfl
            have t2 : ({ L := D3.L.set m (List.replicate 64 122), left := D3.left - 1, cut := D3.cut, down := false, n := D3.n + 1 } : DN).n = D.n + 1 + 1 := congrArg (· + 1) r3
            have t3 : ({ L := D3.L.set m (List.replicate 64 122), left := D3.left - 1, cut := D3.cut, down := false, n := D3.n + 1 } : DN).read (m : Int) = (List.replicate 64 122, 0) := by
              rw [DN.read_ok rfl (by simpa using r4)]
              simp
            generalize ({ L := D3.L.set m (List.replicate 64 122), left := D3.left - 1, cut := D3.cut, down := false, n := D3.n + 1 } : DN) = D4 at *
            clear h14 h15 r1 r2 r3 r4 q1 q2
            go_wp2_with fail
            refine (Read_any m h16.disk (hI2.below h16.bel).s).mono ?_
            rw [t3]
            rintro e w17 ⟨rfl, b17⟩
            have h17 := h16.below b17
            rw [show (⟨(List.replicate 64 (122 : UInt8)).toArray⟩ : ByteArray) = fullT 122 from rfl]
            have hF := full_t 122 122 rfl w17
            go_wp2_with fail
            refine hF.mono ?_
            rintro e w18 ⟨rfl, b18⟩
            have h18 := h17.below b18
            have hW := Writes_any h18.disk
            have hD := IsDown_any h18.disk
            rw [t2, show ((D.n + 1 + 1 : Nat) : Int) = (D.n : Int) + 2 by omega] at hW
            rw [t1] at hD
            go_wp2_with fail
            refine hW.mono ?_
            rintro e w19 ⟨rfl, rfl⟩
            go_wp2_with fail
            refine hD.mono ?_
            rintro e w19 ⟨rfl, rfl⟩
            go_wp2_with fail
            go_ret
            exact ⟨rfl, b2.trans (h18.bel.mono b2.size)⟩
        · rw [DN.arm, if_neg (fun q => hc q.2)]
          rintro e w7 ⟨rfl, q1, q2⟩
          have h7 := h5.but q1 rfl q2
          clear q1 q2
          go_wp2_with fail
          refine (full_t 120 120 rfl _).mono ?_
          rintro e w8 ⟨rfl, b8⟩
          have h8 := h7.below b8
          go_wp2_with fail
          refine (Write_any a _ h8.disk (hI2.below h8.bel).s (by omega)).mono ?_
          rintro e w9 ⟨rfl, q1, q2⟩
          have h9 := h8.but q1 (DN.write_fit h8.disk.fit _ _).2.1 q2
          generalize (D.write a (fullT 120).data.toList).2 = x at *
          go_wp2_with fail
          go_ret
          exact ⟨rfl, b2.trans (h9.bel.mono b2.size)⟩

end Go.Proofs.YtlkghcfjcdeokaaDoor
