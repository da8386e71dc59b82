/-
  Package postriderlaw05: the walks of the statements CrcOwn and CrcTables: each hands back true. Conditions: the listed variables hold what 'CInv' says.
-/
import Derived.Test.YtdijnffefapcfaaDoorCrcH
namespace Go.Proofs.YtdijnffefapcfaaDoor
open Go.RowKit

theorem CrcTables_no (n a b : Int) (w : World) (aA aT aN aW aS : Addr) (h : CInv w aA aT aN aW aS) (h1 : n ≠ 1) (h2 : n ≠ 2) :
    Calls Tryd.prog 7 #[.int .i64 n, .int .i64 a, .int .i64 b] w (Ret (.bool true) w) := by
  have H1 := Lib.hid h1
  have H2 := Lib.hid h2
  clear h1 h2
  go_enter Tryd.func7, Tryd.ntmps7
  go_wp2_with fail
  refine (cshown_any _ aA aT aN aW aS h).mono ?_
  rintro e w1 ⟨rfl, hb1⟩
  go_wp2_with fail
  refine (Table_no n _ aA aT aN aW aS (h.below hb1) H1.out H2.out).mono ?_
  rintro e w2 ⟨rfl, hb2'⟩
  have hb2 := ext_trans hb1 hb2'
  clear hb1 hb2'
  go_wp2_with fail
  go_ret
  exact ⟨rfl, hb2⟩

theorem ofInt_i64c (a : Nat) (ha : a < 9223372036854775808) : (BitVec.ofInt 64 (a : Int)).toNat = a := by
  rw [BitVec.ofInt_natCast, BitVec.toNat_ofNat]; exact Nat.mod_eq_of_lt (by omega)
theorem i64_xor_c (a b : Nat) (ha : a < 9223372036854775808) (hb : b < 9223372036854775808) : bits .xor .i64 (a : Int) (b : Int) = ((a ^^^ b : Nat) : Int) := by
  have hx : a ^^^ b < 2 ^ 63 := Nat.xor_lt_two_pow (by omega) (by omega)
  show IntKind.i64.wrap ((BitVec.ofInt 64 (a : Int) ^^^ BitVec.ofInt 64 (b : Int)).toNat : Int) = _
  rw [BitVec.toNat_xor, ofInt_i64c a ha, ofInt_i64c b hb, IntKind.wrap_i64]
  omega
/-- A number's rest by 256, as the program reckons it. -/
theorem low8_nat (a : Int) : ∃ x : Nat, x < 256 ∧ (wrap64 (a.tmod 256 + 256)).tmod 256 = x := by
  have h1 := Int.tmod_lt_of_pos a (show (0 : Int) < 256 by omega)
  have h2 := Int.lt_tmod_of_pos a (show (0 : Int) < 256 by omega)
  rw [IntWalk.wrap64_in _ ⟨by omega, by omega⟩, Int.tmod_eq_emod_of_nonneg (by omega)]
  exact ⟨((a.tmod 256 + 256) % 256).toNat, by omega, by omega⟩
theorem tab_cells {g : Bool} {w : World} {h : Nat} (hr : RdU w (some ⟨h, 0, none⟩) (tabL g)) (i : Nat) (hi : i < 256) : w.cell? ⟨h, i, none⟩ = some (.int .u32 ((partN (putN g) i : Nat) : Int)) := by
  obtain ⟨a, e, _, hc⟩ := hr (by rw [tabL_length]; omega)
  injection e with e
  subst e
  have h1 := hc i (by rw [tabL_length]; exact hi)
  rw [addr_add] at h1
  have h2 := tabL_get g i hi
  rw [List.getD, List.getElem?_eq_getElem (by rw [tabL_length]; exact hi)] at h2
  rw [h1]
  exact congrArg (fun n : Nat => some (Value.int .u32 (n : Int))) h2

set_option maxRecDepth 100000 in
set_option maxHeartbeats 1000000 in
theorem CrcTables_1 (a b : Int) (w : World) (aA aT aN aW aS : Addr) (h : CInv w aA aT aN aW aS) : Calls Tryd.prog 7 #[.int .i64 1, .int .i64 a, .int .i64 b] w (Ret (.bool true) w) := by
  obtain ⟨x, hx, ex⟩ := low8_nat a
  obtain ⟨y, hy, ey⟩ := low8_nat b
  have hxy : x ^^^ y < 256 := Nat.xor_lt_two_pow (n := 8) hx hy
  have e1 : bits .xor .i64 (x : Int) (y : Int) = ((x ^^^ y : Nat) : Int) := i64_xor_c x y (by omega) (by omega)
  have px := Nat.lt_of_lt_of_le (partN_lt false hx) (show 2 ^ bitsN false ≤ 4294967296 by simp [bitsN])
  have py := Nat.lt_of_lt_of_le (partN_lt false hy) (show 2 ^ bitsN false ≤ 4294967296 by simp [bitsN])
  have e2 : bits .xor .u32 ((partN (putN false) x : Nat) : Int) ((partN (putN false) y : Nat) : Int) = ((partN (putN false) (x ^^^ y) : Nat) : Int) := by
    rw [u32_xor_nat _ _ px py, ← partN_xor]
  have i1 : (0 : Int) ≤ (x : Int) := by omega
  have i2 : (x : Int) < 256 := by omega
  have i3 : (0 : Int) ≤ (y : Int) := by omega
  have i4 : (y : Int) < 256 := by omega
  generalize hz : x ^^^ y = z at hxy e1 e2
  have HZ := Lib.hid hz
  have i5 : (0 : Int) ≤ (z : Int) := by omega
  have i6 : (z : Int) < 256 := by omega
  have E2 := Lib.hid e2
  clear e2 hz px py
  go_enter Tryd.func7, Tryd.ntmps7
  go_wp2_with fail
  refine (cshown_any _ aA aT aN aW aS h).mono ?_
  rintro e w1 ⟨rfl, hb1⟩
  go_wp2_with fail
  refine (Table_1 _ aA aT aN aW aS (h.below hb1)).mono ?_
  rintro e w2 ⟨ha, ca, rfl, hr, hb2'⟩
  have hb2 := ext_trans hb1 hb2'
  clear hb1 hb2'
  have c0 := tab_cells hr 0 (by omega)
  have cx := tab_cells hr x hx
  have cy := tab_cells hr y hy
  have cz := tab_cells hr z hxy
  rw [partN_zero] at c0
  have e2 := E2.out
  clear hr E2
  generalize partN (putN false) x = px at cx e2
  generalize partN (putN false) y = py at cy e2
  generalize partN (putN false) z = pz at cz e2
  go_wp2_with fail
  go_quiet (fail)
  go_wp2
  go_ret
  exact ⟨by first | rfl | simp, below_drewN' hb2 _⟩

set_option maxRecDepth 100000 in
set_option maxHeartbeats 1000000 in
theorem CrcTables_2 (a b : Int) (w : World) (aA aT aN aW aS : Addr) (h : CInv w aA aT aN aW aS) : Calls Tryd.prog 7 #[.int .i64 2, .int .i64 a, .int .i64 b] w (Ret (.bool true) w) := by
  obtain ⟨x, hx, ex⟩ := low8_nat a
  obtain ⟨y, hy, ey⟩ := low8_nat b
  have hxy : x ^^^ y < 256 := Nat.xor_lt_two_pow (n := 8) hx hy
  have e1 : bits .xor .i64 (x : Int) (y : Int) = ((x ^^^ y : Nat) : Int) := i64_xor_c x y (by omega) (by omega)
  have px := Nat.lt_of_lt_of_le (partN_lt true hx) (show 2 ^ bitsN true ≤ 4294967296 by simp [bitsN])
  have py := Nat.lt_of_lt_of_le (partN_lt true hy) (show 2 ^ bitsN true ≤ 4294967296 by simp [bitsN])
  have e2 : bits .xor .u32 ((partN (putN true) x : Nat) : Int) ((partN (putN true) y : Nat) : Int) = ((partN (putN true) (x ^^^ y) : Nat) : Int) := by
    rw [u32_xor_nat _ _ px py, ← partN_xor]
  have i1 : (0 : Int) ≤ (x : Int) := by omega
  have i2 : (x : Int) < 256 := by omega
  have i3 : (0 : Int) ≤ (y : Int) := by omega
  have i4 : (y : Int) < 256 := by omega
  generalize hz : x ^^^ y = z at hxy e1 e2
  have HZ := Lib.hid hz
  have i5 : (0 : Int) ≤ (z : Int) := by omega
  have i6 : (z : Int) < 256 := by omega
  have E2 := Lib.hid e2
  clear e2 hz px py
  go_enter Tryd.func7, Tryd.ntmps7
  go_wp2_with fail
  refine (cshown_any _ aA aT aN aW aS h).mono ?_
  rintro e w1 ⟨rfl, hb1⟩
  go_wp2_with fail
  refine (Table_2 _ aA aT aN aW aS (h.below hb1)).mono ?_
  rintro e w2 ⟨ha, ca, rfl, hr, hb2'⟩
  have hb2 := ext_trans hb1 hb2'
  clear hb1 hb2'
  have c0 := tab_cells hr 0 (by omega)
  have cx := tab_cells hr x hx
  have cy := tab_cells hr y hy
  have cz := tab_cells hr z hxy
  rw [partN_zero] at c0
  have e2 := E2.out
  clear hr E2
  generalize partN (putN true) x = px at cx e2
  generalize partN (putN true) y = py at cy e2
  generalize partN (putN true) z = pz at cz e2
  go_wp2_with fail
  go_quiet (fail)
  go_wp2
  go_ret
  exact ⟨by first | rfl | simp, below_drewN' hb2 _⟩

theorem CrcTables_law (n a b : Int) (w : World) (aA aT aN aW aS : Addr) (h : CInv w aA aT aN aW aS) : Calls Tryd.prog 7 #[.int .i64 n, .int .i64 a, .int .i64 b] w (Ret (.bool true) w) := by
  by_cases h1 : n = 1
  · subst h1; exact CrcTables_1 a b w aA aT aN aW aS h
  by_cases h2 : n = 2
  · subst h2; exact CrcTables_2 a b w aA aT aN aW aS h
  · exact CrcTables_no n a b w aA aT aN aW aS h h1 h2

theorem CrcOwn_no (n : Int) (s : ByteArray) (w : World) (aA aT aN aW aS : Addr) (h : CInv w aA aT aN aW aS) (hs : s.size ≤ 9223372036854775807) (h1 : n ≠ 1) (h2 : n ≠ 2) : Calls Tryd.prog 4 #[.int .i64 n, .string s] w (Ret (.bool true) w) := by
  have H1 := Lib.hid h1
  have H2 := Lib.hid h2
  clear h1 h2
  go_enter Tryd.func4, Tryd.ntmps4
  go_wp2_with fail
  refine (cshown_any _ aA aT aN aW aS h).mono ?_
  rintro e w1 ⟨rfl, hb1⟩
  go_wp2_with fail
  refine (ccut_any s _ hs).mono ?_
  rintro e w2 ⟨rfl, rfl⟩
  have hsz := cut200_size s
  generalize cut200 s = s at hsz
  go_wp2_with fail
  refine (Table_no n _ aA aT aN aW aS (h.below hb1) H1.out H2.out).mono ?_
  rintro e w2 ⟨rfl, hb2'⟩
  have hb2 := ext_trans hb1 hb2'
  clear hb1 hb2'
  go_wp2_with fail
  refine (Sum_no n none 0 0 s _ aA aT aN aW aS (h.below hb2) H1.out H2.out).mono ?_
  rintro e w3 ⟨rfl, hb3'⟩
  have hb3 := ext_trans hb2 hb3'
  clear hb2 hb3'
  go_wp2_with fail
  by_cases h0 : n = 0
  · subst h0
    refine (Of_0 s _ aA aT aN aW aS (h.below hb3)).mono ?_
    rintro e w4 ⟨rfl, hb4'⟩
    have hb4 := ext_trans hb3 hb4'
    clear hb3 hb4'
    go_wp2_with fail
    go_ret
    exact ⟨rfl, hb4⟩
  · have e0 : (n == 0) = false := beq_eq_false_iff_ne.2 h0
    have e0' : (n != 0) = true := bne_iff_ne.2 h0
    have H0 := Lib.hid h0
    clear h0
    refine (Of_no n s _ aA aT aN aW aS (h.below hb3) H0.out H1.out H2.out).mono ?_
    rintro e w4 ⟨rfl, hb4'⟩
    have hb4 := ext_trans hb3 hb4'
    clear hb3 hb4'
    go_wp2_with fail
    go_ret
    exact ⟨by first | rfl | simp [*], hb4⟩

set_option maxRecDepth 100000 in
set_option maxHeartbeats 1000000 in
theorem CrcOwn_1 (s : ByteArray) (w : World) (aA aT aN aW aS : Addr) (h : CInv w aA aT aN aW aS) (hs : s.size ≤ 9223372036854775807) : Calls Tryd.prog 4 #[.int .i64 1, .string s] w (Ret (.bool true) w) := by
  go_enter Tryd.func4, Tryd.ntmps4
  go_wp2_with fail
  refine (cshown_any _ aA aT aN aW aS h).mono ?_
  rintro e w1 ⟨rfl, hb1⟩
  go_wp2_with fail
  refine (ccut_any s _ hs).mono ?_
  rintro e w2 ⟨rfl, rfl⟩
  have hsz := cut200_size s
  generalize cut200 s = s at hsz
  have hs200 : s.size ≤ 9223372036854775807 := by omega
  go_wp2_with fail
  refine (Table_1 _ aA aT aN aW aS (h.below hb1)).mono ?_
  rintro e w2 ⟨ha, ca, rfl, hr, hb2'⟩
  have hb2 := ext_trans hb1 hb2'
  clear hb1 hb2'
  go_wp2_with fail
  refine (Sum_1_ok (some ⟨ha, 0, none⟩) ca (tabL false) s _ aA aT aN aW aS (h.below hb2) (tabL_length false) hr (tab_small false) hs200).mono ?_
  rintro e w3 ⟨rfl, hb3'⟩
  rw [sumT_own]
  have hb3 := ext_trans hb2 hb3'
  clear hb2 hb3' hr
  go_wp2_with fail
  refine (Of_1 s _ aA aT aN aW aS (h.below hb3) hs200).mono ?_
  rintro e w4 ⟨rfl, hb4'⟩
  have hb4 := ext_trans hb3 hb4'
  clear hb3 hb4'
  have hbl := sumB_length false s.data.toList
  have hbv := val_sumB false s.data.toList
  have hlt := sumN_lt false s.data.toList
  generalize sumB false s.data.toList = B at hbl hbv
  generalize sumN false s.data.toList = z at hbv hlt
  obtain ⟨u, hu⟩ : ∃ u : ByteArray, (⟨B.toArray⟩ : ByteArray) = u := ⟨_, rfl⟩
  have hul : u.data.toList = B := by rw [← hu]
  have hus : u.size = 2 := by
    have : u.size = u.data.toList.length := by rw [Array.length_toList]; rfl
    rw [this, hul, hbl]; rfl
  rw [hu]
  have HUL := Lib.hid hul
  have HBV := Lib.hid hbv
  have HUS := Lib.hid hus
  clear hu hul hbv hbl
  go_wp2_with fail
  refine (Size_1 _ aA aT aN aW aS (h.below hb4)).mono ?_
  rintro e w5 ⟨rfl, hb5'⟩
  have hb5 := ext_trans hb4 hb5'
  clear hb4 hb5'
  have e3 : ((u.size : Int) != 2) = false := by rw [HUS.out]; rfl
  go_wp2_with fail
  go_loop [12, 13] (fun m i => ∃ k : Nat, k ≤ u.size ∧ i = .int .i64 k ∧ m = .int .u32 ((val (u.data.toList.take k) : Nat) : Int)) (fun _ i => u.size - (intOf i).toNat)
  case atStart => exact ⟨0, Nat.zero_le _, rfl, rfl⟩
  case round =>
    obtain ⟨k, hk, rfl, rfl⟩ := hrel
    have hvl := val_lt (u.data.toList.take k)
    by_cases hlt2 : k < u.size
    · have hk4 : k < 2 := by rw [← HUS.out]; exact hlt2
      have hkl : (u.data.toList.take k).length = k := by simp; omega
      have hnext : val (u.data.toList.take (k + 1)) = val (u.data.toList.take k) * 256 + u[k].toNat := by rw [list_take_snoc u k hlt2, val_snoc]
      have HN := Lib.hid hnext
      have hq : val (u.data.toList.take k) < 16777216 := by
        rw [hkl] at hvl
        exact Nat.lt_of_lt_of_le hvl (Nat.le_trans (Nat.pow_le_pow_right (n := 256) (by omega) (show k ≤ 3 by omega)) (by omega))
      clear hnext hvl hkl
      generalize val (u.data.toList.take k) = q at hq HN
      have hb8 := u[k].toNat_lt
      go_wp2
      go_round
      case rel => exact ⟨k + 1, by omega, by go_num, val_u32 (by rw [HN.out]; omega)⟩
      case measure => simp [intOf]; omega
    · have hku : k = u.size := by omega
      have hz : ((val (u.data.toList.take k) : Nat) : Int) = (z : Int) := by
        rw [hku, List.take_of_length_le (by simp), HUL.out, HBV.out]
      rw [hz]
      clear hvl
      go_wp2
      go_ret
      exact ⟨rfl, hb5⟩

set_option maxRecDepth 100000 in
set_option maxHeartbeats 1000000 in
theorem CrcOwn_2 (s : ByteArray) (w : World) (aA aT aN aW aS : Addr) (h : CInv w aA aT aN aW aS) (hs : s.size ≤ 9223372036854775807) : Calls Tryd.prog 4 #[.int .i64 2, .string s] w (Ret (.bool true) w) := by
  go_enter Tryd.func4, Tryd.ntmps4
  go_wp2_with fail
  refine (cshown_any _ aA aT aN aW aS h).mono ?_
  rintro e w1 ⟨rfl, hb1⟩
  go_wp2_with fail
  refine (ccut_any s _ hs).mono ?_
  rintro e w2 ⟨rfl, rfl⟩
  have hsz := cut200_size s
  generalize cut200 s = s at hsz
  have hs200 : s.size ≤ 9223372036854775807 := by omega
  go_wp2_with fail
  refine (Table_2 _ aA aT aN aW aS (h.below hb1)).mono ?_
  rintro e w2 ⟨ha, ca, rfl, hr, hb2'⟩
  have hb2 := ext_trans hb1 hb2'
  clear hb1 hb2'
  go_wp2_with fail
  refine (Sum_2_ok (some ⟨ha, 0, none⟩) ca (tabL true) s _ aA aT aN aW aS (h.below hb2) (tabL_length true) hr (tab_small true) hs200).mono ?_
  rintro e w3 ⟨rfl, hb3'⟩
  rw [sumT_own]
  have hb3 := ext_trans hb2 hb3'
  clear hb2 hb3' hr
  go_wp2_with fail
  refine (Of_2 s _ aA aT aN aW aS (h.below hb3) hs200).mono ?_
  rintro e w4 ⟨rfl, hb4'⟩
  have hb4 := ext_trans hb3 hb4'
  clear hb3 hb4'
  have hbl := sumB_length true s.data.toList
  have hbv := val_sumB true s.data.toList
  have hlt := sumN_lt true s.data.toList
  generalize sumB true s.data.toList = B at hbl hbv
  generalize sumN true s.data.toList = z at hbv hlt
  obtain ⟨u, hu⟩ : ∃ u : ByteArray, (⟨B.toArray⟩ : ByteArray) = u := ⟨_, rfl⟩
  have hul : u.data.toList = B := by rw [← hu]
  have hus : u.size = 4 := by
    have : u.size = u.data.toList.length := by rw [Array.length_toList]; rfl
    rw [this, hul, hbl]; rfl
  rw [hu]
  have HUL := Lib.hid hul
  have HBV := Lib.hid hbv
  have HUS := Lib.hid hus
  clear hu hul hbv hbl
  go_wp2_with fail
  refine (Size_2 _ aA aT aN aW aS (h.below hb4)).mono ?_
  rintro e w5 ⟨rfl, hb5'⟩
  have hb5 := ext_trans hb4 hb5'
  clear hb4 hb5'
  have e3 : ((u.size : Int) != 4) = false := by rw [HUS.out]; rfl
  go_wp2_with fail
  go_loop [12, 13] (fun m i => ∃ k : Nat, k ≤ u.size ∧ i = .int .i64 k ∧ m = .int .u32 ((val (u.data.toList.take k) : Nat) : Int)) (fun _ i => u.size - (intOf i).toNat)
  case atStart => exact ⟨0, Nat.zero_le _, rfl, rfl⟩
  case round =>
    obtain ⟨k, hk, rfl, rfl⟩ := hrel
    have hvl := val_lt (u.data.toList.take k)
    by_cases hlt2 : k < u.size
    · have hk4 : k < 4 := by rw [← HUS.out]; exact hlt2
      have hkl : (u.data.toList.take k).length = k := by simp; omega
      have hnext : val (u.data.toList.take (k + 1)) = val (u.data.toList.take k) * 256 + u[k].toNat := by rw [list_take_snoc u k hlt2, val_snoc]
      have HN := Lib.hid hnext
      have hq : val (u.data.toList.take k) < 16777216 := by
        rw [hkl] at hvl
        exact Nat.lt_of_lt_of_le hvl (Nat.le_trans (Nat.pow_le_pow_right (n := 256) (by omega) (show k ≤ 3 by omega)) (by omega))
      clear hnext hvl hkl
      generalize val (u.data.toList.take k) = q at hq HN
      have hb8 := u[k].toNat_lt
      go_wp2
      go_round
      case rel => exact ⟨k + 1, by omega, by go_num, val_u32 (by rw [HN.out]; omega)⟩
      case measure => simp [intOf]; omega
    · have hku : k = u.size := by omega
      have hz : ((val (u.data.toList.take k) : Nat) : Int) = (z : Int) := by
        rw [hku, List.take_of_length_le (by simp), HUL.out, HBV.out]
      rw [hz]
      clear hvl
      go_wp2
      go_ret
      exact ⟨rfl, hb5⟩

theorem CrcOwn_law (n : Int) (s : ByteArray) (w : World) (aA aT aN aW aS : Addr) (h : CInv w aA aT aN aW aS) (hs : s.size ≤ 9223372036854775807) : Calls Tryd.prog 4 #[.int .i64 n, .string s] w (Ret (.bool true) w) := by
  by_cases h1 : n = 1
  · subst h1; exact CrcOwn_1 s w aA aT aN aW aS h hs
  by_cases h2 : n = 2
  · subst h2; exact CrcOwn_2 s w aA aT aN aW aS h hs
  · exact CrcOwn_no n s w aA aT aN aW aS h hs h1 h2

end Go.Proofs.YtdijnffefapcfaaDoor
