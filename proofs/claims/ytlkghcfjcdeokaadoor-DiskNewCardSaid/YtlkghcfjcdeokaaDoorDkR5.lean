/-
  Package postriderlaw18: DiskNew. Conditions: errors.errorType holds the handle of the type error ('SInv'); nums' listed variables hold different errors ('NInv').
-/
import Derived.Test.YtlkghcfjcdeokaaDoorDkR
namespace Go.Proofs.YtlkghcfjcdeokaaDoor
open Go.RowKit Go.Shelf

/-- Bytes 0. -/
def zeroT (n : Nat) : ByteArray := ⟨(List.replicate n 0).toArray⟩
theorem zeroT_size (n : Nat) : (zeroT n).size = n := by show (List.replicate n (0 : UInt8)).toArray.size = n; simp
theorem zeroT_get (n i : Nat) (h : i < (zeroT n).size) : (zeroT n)[i] = 0 := by
  show (List.replicate n (0 : UInt8)).toArray[i]'h = 0
  simp
theorem new_bytes (K : Nat) : (DN.new K).bytes 0 (64 * (K : Int)) = (zeroT (64 * K), 0) := by
  have hl : (DN.new K).L.length = K := by show (List.replicate K _).length = K; simp
  have h := bytes_ok (d := DN.new K) rfl (DN.new_fit K) (a := 0) (n := 64 * K) (by rw [hl]; omega)
  rw [zeros_flat, Nat.zero_add, show (⟨(List.replicate (64 * K) (0 : UInt8)).toArray⟩ : ByteArray) = zeroT (64 * K) from rfl] at h
  have hx := ext_all (zeroT (64 * K))
  rw [zeroT_size] at hx
  rw [hx] at h
  exact h

set_option maxRecDepth 100000 in
set_option maxHeartbeats 4000000 in
theorem DiskNew_any {w : World} {aN aW aS : Addr} (k a : Int) (s : ByteArray) (hs : s.size ≤ 9223372036854775807) (hI : DInv w aN aW aS) :
    Calls Tryd.prog 8 #[.int .i64 k, .int .i64 a, .string s] w (Ret (.bool true) w) := by
  obtain ⟨m1, hm1, hmin⟩ := min2e #[3, 3] 3 s.size
  have hm2 : m1 ≤ s.size := by omega
  clear hm1
  go_enter Tryd.func8, Tryd.ntmps8
  go_wp2_with fail
  refine (shown_any hI).mono ?_
  rintro e v2 ⟨rfl, b2⟩
  have hI2 := hI.below b2
  go_wp2_with fail
  generalize s.extract 0 m1 = T0 at *
  by_cases hk : k < 1 ∨ 256 < k
  · refine (New_no k v2 hk).mono ?_
    rintro e v3 ⟨rfl, rfl⟩
    by_cases c1 : k < 1
    · go_wp2_with fail
      go_ret
      exact ⟨rfl, b2⟩
    · have c2 : 256 < k := by omega
      go_wp2_with fail
      go_ret
      exact ⟨rfl, b2⟩
  · obtain ⟨K, rfl⟩ : ∃ K : Nat, k = (K : Int) := ⟨k.toNat, by omega⟩
    have k1 : 1 ≤ K := by omega
    have k2 : K ≤ 256 := by omega
    refine (New_ok K v2 k1 k2).mono ?_
    intro e v3 hN
    obtain ⟨p, g, rfl, h3⟩ := Play.of_new hN k1
    have hl : (DN.new K).L.length = K := by show (List.replicate K _).length = K; simp
    have hZs := zeroT_size (64 * K)
    have hZg := zeroT_get (64 * K)
    have hB := fun W h => DBytes_any (w := W) (p := p) (g := g) (d := DN.new K) 0 (64 * (K : Int)) aN aW aS h
    rw [new_bytes] at hB
    have hup : (DN.new K).down = false := rfl
    have hlf : (DN.new K).left ≠ 1 := by show (0 : Nat) ≠ 1; decide
    have hn0 : (DN.new K).n < 1000000 := by show (0 : Nat) < 1000000; decide
    clear hN hk
    generalize zeroT (64 * K) = Z at *
    generalize DN.new K = D at *
    go_wp2_with fail
    refine (hB _ h3.disk (hI2.below h3.bel) h3.pos (by omega) (by omega)).mono ?_
    rintro e v4 ⟨rfl, b4⟩
    have h4 := h3.below b4
    clear h3 hB
    have hz64 : Z.size = 64 * K := hZs
    go_wp2_with fail
    go_loopw [12] (fun i wr => ∃ j : Nat, j ≤ Z.size ∧ i = .int .i64 (j : Int) ∧ Play v2 p g D wr) (fun i _ => Z.size - (intOf i).toNat)
    case atStart => exact ⟨0, by omega, rfl, h4⟩
    case round =>
      obtain ⟨j, hj, rfl, hP⟩ := hrel
      by_cases hlt : j < Z.size
      · have z1 := hZg j hlt
        have z2 : Z[j].toNat = 0 := by rw [z1]; rfl
        have i1 : (0 : Int) ≤ (j : Int) := by omega
        have i2 : (j : Int) < 64 * (K : Int) := by omega
        have i3 : j < 64 * K := by omega
        clear hZg hlf hup
        go_wp2_with fail
        go_roundw
        case rel => exact ⟨j + 1, by omega, by go_num, hP⟩
        case measure => simp [intOf]; omega
      · obtain rfl : j = Z.size := by omega
        clear hZg hlt hj
        have i1 : ¬ 64 * (K : Int) < 64 * (K : Int) := by omega
        have hW := fun W h => Write_any (w := W) (p := p) (g := g) (d := D) a T0 h
        have hR := fun D W h => Read_any (w := W) (p := p) (g := g) (d := D) a h
        rcases has_cases D a with hno | ⟨r, rfl, hr⟩
        · have hno2 : ¬ (0 ≤ a ∧ a < (K : Int)) := by
            intro q
            have := (DN.has_iff (d := D) (i := a)).2 ⟨a.toNat, by omega, by rw [hl]; omega⟩
            rw [hno] at this
            exact absurd this (by decide)
          rw [DN.write_no hup (fun q => by rw [hno] at q; exact absurd q.1 (by decide))] at hW
          have hR := hR D
          rw [DN.read_no hup hno] at hR
          go_wp2_with fail
          refine (hW _ hP.disk (hI2.below hP.bel).s hn0).mono ?_
          rintro e w5 ⟨rfl, q1, q2⟩
          have h5 := hP.but q1 rfl q2
          go_wp2_with fail
          refine (hR _ h5.disk (hI2.below h5.bel).s).mono ?_
          rintro e w6 ⟨rfl, b6⟩
          have h6 := h5.below b6
          clear hW hR h5
          by_cases c1 : 0 ≤ a
          · have c2 : ¬ a < (K : Int) := by omega
            go_wp2_with fail
            go_ret
            exact ⟨rfl, b2.trans (h6.bel.mono b2.size)⟩
          · go_wp2_with fail
            go_ret
            exact ⟨rfl, b2.trans (h6.bel.mono b2.size)⟩
        · have c1 : (0 : Int) ≤ (r : Int) := by omega
          have c2 : (r : Int) < (K : Int) := by omega
          by_cases hT : T0.size = 64
          · have hTl : T0.data.toList.length = 64 := by rw [list_len]; exact hT
            rw [DN.write_ok hP.disk.fit hup hlf hr hTl] at hW
            have f1 : ({ L := D.L.set r T0.data.toList, left := D.left - 1, cut := D.cut, down := false, n := D.n + 1 } : DN).read (r : Int) = (T0.data.toList, 0) := by
              rw [DN.read_ok rfl (by simpa using hr)]
              simp
            have f2 : ({ L := D.L.set r T0.data.toList, left := D.left - 1, cut := D.cut, down := false, n := D.n + 1 } : DN).L.length = D.L.length := by simp
            generalize ({ L := D.L.set r T0.data.toList, left := D.left - 1, cut := D.cut, down := false, n := D.n + 1 } : DN) = D2 at *
            have hR := hR D2
            rw [f1] at hR
            dsimp only at hR
            rw [show (⟨T0.data.toList.toArray⟩ : ByteArray) = T0 from rfl] at hR
            go_wp2_with fail
            refine (hW _ hP.disk (hI2.below hP.bel).s hn0).mono ?_
            rintro e w5 ⟨rfl, q1, q2⟩
            have h5 := hP.but q1 f2 q2
            go_wp2_with fail
            refine (hR _ h5.disk (hI2.below h5.bel).s).mono ?_
            rintro e w6 ⟨rfl, b6⟩
            have h6 := h5.below b6
            clear hW hR h5
            go_wp2_with fail
            go_ret
            exact ⟨rfl, b2.trans (h6.bel.mono b2.size)⟩
          · rw [DN.write_no hup (fun q => hT (by rw [← list_len]; exact q.2))] at hW
            have hR := hR D
            rw [DN.read_ok hup hr] at hR
            dsimp only at hR
            generalize (⟨D.L[r].toArray⟩ : ByteArray) = B at *
            have hT2 : ¬ (T0.size : Int) = 64 := by omega
            have hT3 : ((T0.size : Int) == 64) = false := by simpa using hT2
            go_wp2_with fail
            refine (hW _ hP.disk (hI2.below hP.bel).s hn0).mono ?_
            rintro e w5 ⟨rfl, q1, q2⟩
            have h5 := hP.but q1 rfl q2
            go_wp2_with fail
            refine (hR _ h5.disk (hI2.below h5.bel).s).mono ?_
            rintro e w6 ⟨rfl, b6⟩
            have h6 := h5.below b6
            clear hW hR h5
            go_wp2_with fail
            go_ret
            exact ⟨rfl, b2.trans (h6.bel.mono b2.size)⟩

end Go.Proofs.YtlkghcfjcdeokaaDoor
