/-
  Package postriderlaw18: DiskBytes. Conditions: errors.errorType holds the handle of the type error ('SInv'); nums' listed variables hold different errors ('NInv').
-/
import Derived.Test.YtlkghcfjcdeokaaDoorDkR
namespace Go.Proofs.YtlkghcfjcdeokaaDoor
open Go.RowKit Go.Shelf

set_option maxRecDepth 100000 in
set_option maxHeartbeats 2000000 in
theorem DiskBytes_any {w : World} {aN aW aS : Addr} (k : Int) (A : Option Addr) (n c : Nat) (xs : List OI) (a : Int) (hI : DInv w aN aW aS) (hx : OpsAt w A n xs) :
    Calls Tryd.prog 5 #[.int .i64 k, .slice A n c, .int .i64 a] w (Ret (.bool true) w) := by
  go_enter Tryd.func5, Tryd.ntmps5
  go_wp2_with fail
  refine (shown_any hI).mono ?_
  rintro e v1 ⟨rfl, b1⟩
  go_wp2_with fail
  refine (DCut_any A n c xs v1 hx.len (hx.rd.below b1) hx.sz).mono ?_
  rintro e v2 ⟨V, rfl, hown, b2⟩
  obtain ⟨hn, A', c', rfl, hrd⟩ := rdO_own hown
  have hok := cut_ok hx.ok
  have hl0 := hx.len
  have hlen : (xs.map OI.cut).length = xs.length := List.length_map ..
  rw [hn]
  generalize xs.map OI.cut = ys at *
  have hl : ys.length ≤ 40 := by omega
  have b2 := ext_trans b1 b2
  have hI2 := hI.below b2
  clear hown hx b1 hn hlen
  go_wp2_with fail
  by_cases hk : k < 1 ∨ 256 < k
  · refine (New_no k v2 hk).mono ?_
    rintro e v3 ⟨rfl, rfl⟩
    go_wp2_with fail
    go_ret
    exact ⟨rfl, b2⟩
  · obtain ⟨K, rfl⟩ : ∃ K : Nat, k = (K : Int) := ⟨k.toNat, by omega⟩
    have k1 : 1 ≤ K := by omega
    have k2 : K ≤ 256 := by omega
    refine (New_ok K v2 k1 k2).mono ?_
    intro e v3 hN
    obtain ⟨p, g, rfl, h3⟩ := Play.of_new hN k1
    have hR := Ran.start h3
    clear hN h3 hk
    by_cases ha : a < 0 ∨ 64 * (K : Int) ≤ a
    · by_cases ha0 : a < 0
      · go_wp2_with fail
        go_ret
        exact ⟨rfl, b2.trans (hR.1.bel.mono b2.size)⟩
      · have ha1 : 64 * (K : Int) ≤ a := by omega
        go_wp2_with fail
        go_ret
        exact ⟨rfl, b2.trans (hR.1.bel.mono b2.size)⟩
    · obtain ⟨m, rfl⟩ : ∃ m : Nat, a = (m : Int) := ⟨a.toNat, by omega⟩
      have hm : m < 64 * K := by omega
      clear ha
      go_wp2_with fail
      go_loopw [10] (fun i wr => ∃ (j : Nat) (d : DN), j ≤ ys.length ∧ i = .int .i64 (j : Int) ∧ Ran v2 p g K j d wr) (fun i _ => ys.length - (intOf i).toNat)
      case atStart => exact ⟨0, _, by omega, rfl, hR⟩
      case round =>
        obtain ⟨j, d, hj, rfl, hd⟩ := hrel
        by_cases hlt : j < ys.length
        · obtain ⟨q, rfl, hab, hca⟩ := hrd (by omega)
          obtain ⟨g1, g2, g3, g4⟩ := hca j hlt
          have hyo := hok _ (List.getElem_mem hlt)
          have hl0 : (q.add (j * 4)).block < v2.heap.size := by rw [add_blk]; exact hab
          have x1 := (hd.1.bel.cell hl0).trans g1
          have x2 := (hd.1.bel.cell (by exact hl0)).trans g2
          have x3 := (hd.1.bel.cell (by exact hl0)).trans g3
          have x4 := (hd.1.bel.cell (by exact hl0)).trans g4
          have i1 : (0 : Int) ≤ (j : Int) := by omega
          have i2 : (j : Int) < (ys.length : Int) := by omega
          have hD := do_any ys[j] hd.1 (hI2.below hd.1.bel) (by have := hd.2.2; omega) hyo
          have hDD := fun W' => hd.act ys[j] (W' := W')
          clear g1 g2 g3 g4 hca hrd hok
          generalize ys[j] = x at *
          go_wp2_with fail
          refine hD.mono ?_
          rintro e w4 ⟨rfl, hp4⟩
          have hr4 := hDD _ hp4
          clear hDD hD
          go_wp2_with fail
          go_roundw
          case rel => exact ⟨j + 1, _, by omega, by go_num, hr4⟩
          case measure => simp [intOf]; omega
        · obtain rfl : j = ys.length := by omega
          obtain ⟨hP, hdl, hdn⟩ := hd
          go_wp2_with fail
          refine (Restart_any hP.disk).mono ?_
          rintro e w5 ⟨rfl, q1, q2⟩
          have h5 := hP.but q1 rfl q2
          have hup : d.restart.down = false := rfl
          have hdl2 : d.restart.L.length = K := hdl
          clear hP hdn q1 q2 hdl
          generalize d.restart = D at *
          obtain ⟨hk, o1, o2, o3⟩ := one_byte h5.disk.fit.sec (m := m) (by omega)
          have hB1 := fun W h => DBytes_any (w := W) (p := p) (g := g) (d := D) (m : Int) 1 aN aW aS h
          rw [show D.bytes (m : Int) 1 = _ from bytes_ok (n := 1) hup h5.disk.fit (by omega)] at hB1
          have hB2 := fun W h => DBytes_any (w := W) (p := p) (g := g) (d := D) 0 ((64 * K : Nat) : Int) aN aW aS h
          rw [show D.bytes 0 ((64 * K : Nat) : Int) = _ from bytes_ok (a := 0) hup h5.disk.fit (by omega)] at hB2
          have hR1 := fun W h => Read_any (w := W) (p := p) (g := g) (d := D) ((m / 64 : Nat) : Int) h
          rw [DN.read_ok hup hk, show ((m / 64 : Nat) : Int) = (m : Int) / 64 from rfl] at hR1
          have hfl : (⟨D.L.flatten.toArray⟩ : ByteArray).size = 64 * K := by rw [list_size2, flat_length h5.disk.fit.sec, hdl2]
          have hal := ext_all (⟨D.L.flatten.toArray⟩ : ByteArray)
          rw [hfl] at hal
          rw [Nat.zero_add, hal, show ((64 * K : Nat) : Int) = 64 * (K : Int) from rfl] at hB2
          rw [o1] at o2
          rw [o1] at hB1
          clear hal
          generalize (⟨D.L.flatten.toArray⟩ : ByteArray) = F at *
          generalize (⟨D.L[m / 64].toArray⟩ : ByteArray) = T at *
          go_wp2_with fail
          refine (hB1 _ h5.disk (hI2.below h5.bel) h5.pos (by decide) (by decide)).mono ?_
          rintro e w6 ⟨rfl, b6⟩
          have h6 := h5.below b6
          go_wp2_with fail
          refine (hR1 _ h6.disk (hI2.below h6.bel).s).mono ?_
          rintro e w7 ⟨rfl, b7⟩
          have h7 := h6.below b7
          go_wp2_with fail
          refine (hB2 _ h7.disk (hI2.below h7.bel) h7.pos (by omega) (by omega)).mono ?_
          rintro e w8 ⟨rfl, b8⟩
          have h8 := h7.below b8
          clear hB1 hB2 hR1 h5 h6 h7
          go_wp2_with fail
          go_ret
          exact ⟨rfl, b2.trans (h8.bel.mono b2.size)⟩

end Go.Proofs.YtlkghcfjcdeokaaDoor
