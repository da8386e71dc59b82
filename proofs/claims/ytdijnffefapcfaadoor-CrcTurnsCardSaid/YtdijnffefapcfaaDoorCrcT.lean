/-
  Package postriderlaw05: the walk of the statement CrcTurns: it hands back true. Conditions: the listed variables hold what 'CInv' says.
-/
import Derived.Test.YtdijnffefapcfaaDoorCrcH
namespace Go.Proofs.YtdijnffefapcfaaDoor
open Go.RowKit

theorem CrcTurns_out (n a : Int) (s : ByteArray) (w : World) (aA aT aN aW aS : Addr) (h : CInv w aA aT aN aW aS) (hs : s.size ≤ 9223372036854775807) (ha : a < 0 ∨ (cut200 s).size ≤ a + 1) (ha2 : a ≤ 9223372036854775807) :
    Calls Tryd.prog 8 #[.int .i64 n, .string s, .int .i64 a] w (Ret (.bool true) w) := by
  go_enter Tryd.func8, Tryd.ntmps8
  go_wp2_with fail
  refine (cshown_any _ aA aT aN aW aS h).mono ?_
  rintro e w1 ⟨rfl, hb1⟩
  go_wp2_with fail
  refine (ccut_any s _ hs).mono ?_
  rintro e w2 ⟨rfl, rfl⟩
  have hsz := cut200_size s
  generalize cut200 s = s at hsz ha
  by_cases h0 : a < 0
  · go_wp2
    go_ret
    exact ⟨rfl, hb1⟩
  · have h1 : (s.size : Int) - 1 ≤ a := by omega
    clear ha
    go_wp2
    go_ret
    exact ⟨rfl, hb1⟩

theorem CrcTurns_no (n : Int) (p : Nat) (s : ByteArray) (w : World) (aA aT aN aW aS : Addr) (h : CInv w aA aT aN aW aS) (hs : s.size ≤ 9223372036854775807) (ha : p + 1 < (cut200 s).size) (h1 : n ≠ 1) (h2 : n ≠ 2) :
    Calls Tryd.prog 8 #[.int .i64 n, .string s, .int .i64 (p : Int)] w (Ret (.bool true) w) := by
  have HZ := Lib.hid (show sizeV n = 0 by rw [sizeV, if_neg h1, if_neg h2])
  clear h1 h2
  go_enter Tryd.func8, Tryd.ntmps8
  go_wp2_with fail
  refine (cshown_any _ aA aT aN aW aS h).mono ?_
  rintro e w1 ⟨rfl, hb1⟩
  go_wp2_with fail
  refine (ccut_any s _ hs).mono ?_
  rintro e w2 ⟨rfl, rfl⟩
  have hsz := cut200_size s
  generalize cut200 s = s at hsz ha
  have h1 : (p : Int) < (s.size : Int) - 1 := by omega
  go_wp2_with fail
  refine (Size_any n _ aA aT aN aW aS (h.below hb1)).mono ?_
  rintro e w2 ⟨rfl, hb2'⟩
  have hb2 := ext_trans hb1 hb2'
  clear hb1 hb2'
  rw [HZ.out]
  go_wp2
  go_ret
  exact ⟨rfl, hb2⟩

/-- Two neighbours, in a text and in the one where they are turned. -/
theorem turn_lists (s : ByteArray) (p : Nat) (h : p + 1 < s.size) : ∃ a c : List UInt8, s.data.toList = a ++ [s[p], s[p + 1]] ++ c ∧
    (s.extract 0 p ++ s.extract (p + 1) (p + 2) ++ s.extract p (p + 1) ++ s.extract (p + 2) s.size).data.toList = a ++ [s[p + 1], s[p]] ++ c := by
  have hl : s.data.toList.length = s.size := by rw [Array.length_toList]; rfl
  have g0 : s.data.toList[p]'(by omega) = s[p] := rfl
  have g1 : s.data.toList[p + 1]'(by omega) = s[p + 1] := rfl
  have d0 : s.data.toList.drop p = s[p] :: s[p + 1] :: s.data.toList.drop (p + 2) := by
    rw [List.drop_eq_getElem_cons (by omega), List.drop_eq_getElem_cons (show p + 1 < s.data.toList.length by omega), g0, g1]
  refine ⟨s.data.toList.take p, s.data.toList.drop (p + 2), ?_, ?_⟩
  · conv => lhs; rw [← List.take_append_drop p s.data.toList, d0]
    simp
  · have e : ∀ x y : ByteArray, (x ++ y).data.toList = x.data.toList ++ y.data.toList := fun x y => by simp
    have x0 : (s.extract 0 p).data.toList = s.data.toList.take p := by have := extract_list s 0 p; rw [Nat.zero_add] at this; rw [this]; try simp
    have x1 : (s.extract (p + 1) (p + 2)).data.toList = [s[p + 1]] := by
      have := extract_list s (p + 1) 1
      rw [this, List.drop_eq_getElem_cons (by omega), g1]; try rfl
    have x2 : (s.extract p (p + 1)).data.toList = [s[p]] := by
      have := extract_list s p 1
      rw [this, d0]; try rfl
    have x3 : (s.extract (p + 2) s.size).data.toList = s.data.toList.drop (p + 2) := by
      have := extract_list s (p + 2) (s.size - (p + 2))
      rw [show p + 2 + (s.size - (p + 2)) = s.size by omega] at this
      rw [this, List.take_of_length_le (by simp)]
    rw [e, e, e, x0, x1, x2, x3]
    simp
theorem strs_eq (a b : List UInt8) : ((⟨a.toArray⟩ : ByteArray).toList == (⟨b.toArray⟩ : ByteArray).toList) = decide (a = b) := by
  rw [Lib.toList_data, Lib.toList_data]
  by_cases h : a = b
  · subst h; simp
  · simp [h]
theorem bytes_eq (x y : UInt8) : ((x.toNat : Int) == (y.toNat : Int)) = decide (x = y) := by
  by_cases h : x = y
  · subst h; simp
  · have : (x.toNat : Int) ≠ (y.toNat : Int) := fun e => h (UInt8.toNat_inj.1 (by omega))
    simp [h, this]

set_option maxRecDepth 100000 in
set_option maxHeartbeats 2000000 in
theorem CrcTurns_1 (p : Nat) (s : ByteArray) (w : World) (aA aT aN aW aS : Addr) (h : CInv w aA aT aN aW aS) (hs : s.size ≤ 9223372036854775807) (ha : p + 1 < (cut200 s).size) :
    Calls Tryd.prog 8 #[.int .i64 1, .string s, .int .i64 (p : Int)] w (Ret (.bool true) w) := by
  go_enter Tryd.func8, Tryd.ntmps8
  go_wp2_with fail
  refine (cshown_any _ aA aT aN aW aS h).mono ?_
  rintro e w1 ⟨rfl, hb1⟩
  go_wp2_with fail
  refine (ccut_any s _ hs).mono ?_
  rintro e w2 ⟨rfl, rfl⟩
  have hsz := cut200_size s
  generalize cut200 s = s at hsz ha
  have hs200 : s.size ≤ 9223372036854775807 := by omega
  have h1 : (p : Int) < (s.size : Int) - 1 := by omega
  go_wp2_with fail
  refine (Size_1 _ aA aT aN aW aS (h.below hb1)).mono ?_
  rintro e w2 ⟨rfl, hb2'⟩
  have hb2 := ext_trans hb1 hb2'
  clear hb1 hb2'
  go_wp2_with fail
  refine (Of_1 s _ aA aT aN aW aS (h.below hb2) hs200).mono ?_
  rintro e w3 ⟨rfl, hb3'⟩
  have hb3 := ext_trans hb2 hb3'
  clear hb2 hb3'
  obtain ⟨la, lc, e1, e2⟩ := turn_lists s p ha
  have hiff := turns false la lc s[p] s[p + 1]
  rw [← e1, ← e2] at hiff
  have q1 : ((⟨(sumB false s.data.toList).toArray⟩ : ByteArray).toList == (⟨(sumB false (s.extract 0 p ++ s.extract (p + 1) (p + 2) ++ s.extract p (p + 1) ++ s.extract (p + 2) s.size).data.toList).toArray⟩ : ByteArray).toList) = decide (s[p] = s[p + 1]) := by
    rw [strs_eq]; exact decide_eq_decide.2 hiff
  have q2 := bytes_eq s[p] s[p + 1]
  generalize decide (s[p] = s[p + 1]) = qq at q1 q2
  generalize hB1 : (⟨(sumB false s.data.toList).toArray⟩ : ByteArray) = B1 at q1
  have HQ1 := Lib.hid q1
  clear e1 e2 hiff hB1 q1
  go_wp2_with fail
  have i1 : (0 : Int) ≤ (p : Int) := by omega
  have i2 : (p : Int) ≤ (s.size : Int) := by omega
  have i3 : (p : Int) + 1 ≤ (s.size : Int) := by omega
  have i4 : (p : Int) + 2 ≤ (s.size : Int) := by omega
  have j1 : IntKind.i64.wrap ((p : Int) + 1) = (p : Int) + 1 := IntWalk.i64_in _ (by omega)
  have j2 : IntKind.i64.wrap ((p : Int) + 2) = (p : Int) + 2 := IntWalk.i64_in _ (by omega)
  have k1 : (0 : Int) ≤ (p : Int) + 1 := by omega
  have k2 : (0 : Int) ≤ (p : Int) + 2 := by omega
  have k3 : (p : Int) + 1 ≤ (p : Int) + 2 := by omega
  have k4 : (p : Int) ≤ (p : Int) + 1 := by omega
  have k5 : ((p : Int) + 2).toNat = p + 2 := by omega
  have c1 : ¬ (9223372036854775807 < min p s.size + (min (p + 2) s.size - (p + 1))) := by omega
  have c2 : ¬ (9223372036854775807 < min p s.size + (min (p + 2) s.size - (p + 1)) + (min (p + 1) s.size - p)) := by omega
  have c3 : ¬ (9223372036854775807 < min p s.size + (min (p + 2) s.size - (p + 1)) + (min (p + 1) s.size - p) + (s.size - (p + 2))) := by omega
  refine wp_region_held_drew (S := (fun w' => Below w.heap.size w w')) (by kernel_rfl) hb3.drew (fun hHeld => ?_)
  refine wpAnyH_take (i := 0) (v := ?_) rfl (by kernel_rfl) (by kernel_rfl) (by kernel_rfl) (fun _ _ _ h => h) (Or.inl ⟨by kernel_rfl, ?_⟩) (by assumption) ?_
  rotate_left
  · intro wx hSx
    go_simp
    try with_reducible rfl
  try simp only [Act.put]
  try simp only [List.setIfInBounds_toArray]
  try simp only [List.set_cons_succ]
  try simp only [List.set_cons_zero]
  refine wpAnyH_take (i := 1) (v := ?_) rfl (by kernel_rfl) (by kernel_rfl) (by kernel_rfl) (fun _ _ _ h => h) (Or.inl ⟨by kernel_rfl, ?_⟩) (by assumption) ?_
  rotate_left
  · intro wx hSx
    go_simp
    try with_reducible rfl
  try simp only [Act.put]
  try simp only [List.setIfInBounds_toArray]
  try simp only [List.set_cons_succ]
  try simp only [List.set_cons_zero]
  refine wpAnyH_take (i := 2) (v := ?_) rfl (by kernel_rfl) (by kernel_rfl) (by kernel_rfl) (fun _ _ _ h => h) (Or.inl ⟨by kernel_rfl, ?_⟩) (by assumption) ?_
  rotate_left
  · intro wx hSx
    go_simp
    try with_reducible rfl
  try simp only [Act.put]
  try simp only [List.setIfInBounds_toArray]
  try simp only [List.set_cons_succ]
  try simp only [List.set_cons_zero]
  refine wpAnyH_take (i := 3) (v := ?_) rfl (by kernel_rfl) (by kernel_rfl) (by kernel_rfl) (fun _ _ _ h => h) (Or.inl ⟨by kernel_rfl, ?_⟩) (by assumption) ?_
  rotate_left
  · intro wx hSx
    go_simp
    try with_reducible rfl
  try simp only [Act.put]
  try simp only [List.setIfInBounds_toArray]
  try simp only [List.set_cons_succ]
  try simp only [List.set_cons_zero]
  refine wpAnyH_take (i := 4) (v := ?_) rfl (by kernel_rfl) (by kernel_rfl) (by kernel_rfl) (fun _ _ _ h => h) (Or.inl ⟨by kernel_rfl, ?_⟩) (by assumption) ?_
  rotate_left
  · intro wx hSx
    go_simp
    try with_reducible rfl
  try simp only [Act.put]
  try simp only [List.setIfInBounds_toArray]
  try simp only [List.set_cons_succ]
  try simp only [List.set_cons_zero]
  refine wpAnyH_take (i := 5) (v := ?_) rfl (by kernel_rfl) (by kernel_rfl) (by kernel_rfl) (fun _ _ _ h => h) (Or.inl ⟨by kernel_rfl, ?_⟩) (by assumption) ?_
  rotate_left
  · intro wx hSx
    go_simp
    try with_reducible rfl
  try simp only [Act.put]
  try simp only [List.setIfInBounds_toArray]
  try simp only [List.set_cons_succ]
  try simp only [List.set_cons_zero]
  refine wpAnyH_take (i := 6) (v := ?_) rfl (by kernel_rfl) (by kernel_rfl) (by kernel_rfl) (fun _ _ _ h => h) (Or.inl ⟨by kernel_rfl, ?_⟩) (by assumption) ?_
  rotate_left
  · intro wx hSx
    go_simp
    try with_reducible rfl
  try simp only [Act.put]
  try simp only [List.setIfInBounds_toArray]
  try simp only [List.set_cons_succ]
  try simp only [List.set_cons_zero]
  refine wpAnyH_take (i := 7) (v := ?_) rfl (by kernel_rfl) (by kernel_rfl) (by kernel_rfl) (fun _ _ _ h => h) (Or.inl ⟨by kernel_rfl, ?_⟩) (by assumption) ?_
  rotate_left
  · intro wx hSx
    go_simp
    try with_reducible rfl
  try simp only [Act.put]
  try simp only [List.setIfInBounds_toArray]
  try simp only [List.set_cons_succ]
  try simp only [List.set_cons_zero]
  refine wpAnyH_take (i := 8) (v := ?_) rfl (by kernel_rfl) (by kernel_rfl) (by kernel_rfl) (fun _ _ _ h => h) (Or.inl ⟨by kernel_rfl, ?_⟩) (by assumption) ?_
  rotate_left
  · intro wx hSx
    go_simp
    try with_reducible rfl
  try simp only [Act.put]
  try simp only [List.setIfInBounds_toArray]
  try simp only [List.set_cons_succ]
  try simp only [List.set_cons_zero]
  refine wpAnyH_take (i := 9) (v := ?_) rfl (by kernel_rfl) (by kernel_rfl) (by kernel_rfl) (fun _ _ _ h => h) (Or.inl ⟨by kernel_rfl, ?_⟩) (by assumption) ?_
  rotate_left
  · intro wx hSx
    go_simp
    try with_reducible rfl
  try simp only [Act.put]
  try simp only [List.setIfInBounds_toArray]
  try simp only [List.set_cons_succ]
  try simp only [List.set_cons_zero]
  refine wpAnyH_take (i := 10) (v := ?_) rfl (by kernel_rfl) (by kernel_rfl) (by kernel_rfl) (fun _ _ _ h => h) (Or.inl ⟨by kernel_rfl, ?_⟩) (by assumption) ?_
  rotate_left
  · intro wx hSx
    go_simp
    try with_reducible rfl
  try simp only [Act.put]
  try simp only [List.setIfInBounds_toArray]
  try simp only [List.set_cons_succ]
  try simp only [List.set_cons_zero]
  refine wpAnyH_take (i := 11) (v := ?_) rfl (by kernel_rfl) (by kernel_rfl) (by kernel_rfl) (fun _ _ _ h => h) (Or.inl ⟨by kernel_rfl, ?_⟩) (by assumption) ?_
  rotate_left
  · intro wx hSx
    go_simp
    try with_reducible rfl
  try simp only [Act.put]
  try simp only [List.setIfInBounds_toArray]
  try simp only [List.set_cons_succ]
  try simp only [List.set_cons_zero]
  refine wpAnyH_take (i := 12) (v := ?_) rfl (by kernel_rfl) (by kernel_rfl) (by kernel_rfl) (fun _ _ _ h => h) (Or.inl ⟨by kernel_rfl, ?_⟩) (by assumption) ?_
  rotate_left
  · intro wx hSx
    go_simp
    try with_reducible rfl
  try simp only [Act.put]
  try simp only [List.setIfInBounds_toArray]
  try simp only [List.set_cons_succ]
  try simp only [List.set_cons_zero]
  refine wpAnyH_take (i := 13) (v := ?_) rfl (by kernel_rfl) (by kernel_rfl) (by kernel_rfl) (fun _ _ _ h => h) (Or.inl ⟨by kernel_rfl, ?_⟩) (by assumption) ?_
  rotate_left
  · intro wx hSx
    go_simp
    try with_reducible rfl
  try simp only [Act.put]
  try simp only [List.setIfInBounds_toArray]
  try simp only [List.set_cons_succ]
  try simp only [List.set_cons_zero]
  refine wpAnyH_take (i := 14) (v := ?_) rfl (by kernel_rfl) (by kernel_rfl) (by kernel_rfl) (fun _ _ _ h => h) (Or.inl ⟨by kernel_rfl, ?_⟩) (by assumption) ?_
  rotate_left
  · intro wx hSx
    go_simp
    try with_reducible rfl
  try simp only [Act.put]
  try simp only [List.setIfInBounds_toArray]
  try simp only [List.set_cons_succ]
  try simp only [List.set_cons_zero]
  refine wpAnyH_take (i := 15) (v := ?_) rfl (by kernel_rfl) (by kernel_rfl) (by kernel_rfl) (fun _ _ _ h => h) (Or.inl ⟨by kernel_rfl, ?_⟩) (by assumption) ?_
  rotate_left
  · intro wx hSx
    go_simp
    try with_reducible rfl
  try simp only [Act.put]
  try simp only [List.setIfInBounds_toArray]
  try simp only [List.set_cons_succ]
  try simp only [List.set_cons_zero]
  refine wpAnyH_take (i := 16) (v := ?_) rfl (by kernel_rfl) (by kernel_rfl) (by kernel_rfl) (fun _ _ _ h => h) (Or.inl ⟨by kernel_rfl, ?_⟩) (by assumption) ?_
  rotate_left
  · intro wx hSx
    go_simp
    try with_reducible rfl
  try simp only [Act.put]
  try simp only [List.setIfInBounds_toArray]
  try simp only [List.set_cons_succ]
  try simp only [List.set_cons_zero]
  refine wpAnyH_take (i := 17) (v := ?_) rfl (by kernel_rfl) (by kernel_rfl) (by kernel_rfl) (fun _ _ _ h => h) (Or.inl ⟨by kernel_rfl, ?_⟩) (by assumption) ?_
  rotate_left
  · intro wx hSx
    go_simp
    try with_reducible rfl
  try simp only [Act.put]
  try simp only [List.setIfInBounds_toArray]
  try simp only [List.set_cons_succ]
  try simp only [List.set_cons_zero]
  refine wpAnyH_take (i := 18) (v := ?_) rfl (by kernel_rfl) (by kernel_rfl) (by kernel_rfl) (fun _ _ _ h => h) (Or.inl ⟨by kernel_rfl, ?_⟩) (by assumption) ?_
  rotate_left
  · intro wx hSx
    go_simp
    try with_reducible rfl
  try simp only [Act.put]
  try simp only [List.setIfInBounds_toArray]
  try simp only [List.set_cons_succ]
  try simp only [List.set_cons_zero]
  refine wpAnyH_take (i := 19) (v := ?_) rfl (by kernel_rfl) (by kernel_rfl) (by kernel_rfl) (fun _ _ _ h => h) (Or.inl ⟨by kernel_rfl, ?_⟩) (by assumption) ?_
  rotate_left
  · intro wx hSx
    go_simp
    try with_reducible rfl
  try simp only [Act.put]
  try simp only [List.setIfInBounds_toArray]
  try simp only [List.set_cons_succ]
  try simp only [List.set_cons_zero]
  refine wpAnyH_take (i := 20) (v := ?_) rfl (by kernel_rfl) (by kernel_rfl) (by kernel_rfl) (fun _ _ _ h => h) (Or.inl ⟨by kernel_rfl, ?_⟩) (by assumption) ?_
  rotate_left
  · intro wx hSx
    go_simp
    try with_reducible rfl
  try simp only [Act.put]
  try simp only [List.setIfInBounds_toArray]
  try simp only [List.set_cons_succ]
  try simp only [List.set_cons_zero]
  refine wpAnyH_take (i := 21) (v := ?_) rfl (by kernel_rfl) (by kernel_rfl) (by kernel_rfl) (fun _ _ _ h => h) (Or.inl ⟨by kernel_rfl, ?_⟩) (by assumption) ?_
  rotate_left
  · intro wx hSx
    go_simp
    try with_reducible rfl
  try simp only [Act.put]
  try simp only [List.setIfInBounds_toArray]
  try simp only [List.set_cons_succ]
  try simp only [List.set_cons_zero]
  refine wpAnyH_ready (rs := [22]) (by kernel_rfl) (by simp) ?_
  refine AllReadyH.cons rfl (fun K hK => ?_) AllReadyH.nil
  go_simp
  refine (Of_1 _ _ aA aT aN aW aS (h.below hHeld) (by simp only [ByteArray.size_append, ByteArray.size_extract]; omega)).mono ?_
  rintro e w4 ⟨rfl, hb4'⟩
  try go_wp2_with fail
  refine hK.out _ _ (ext_trans hHeld hb4') (fun hHeld => ?_)
  clear hK K
  try simp only [Act.put]
  try simp only [List.setIfInBounds_toArray]
  try simp only [List.set_cons_succ]
  try simp only [List.set_cons_zero]
  refine wpAnyH_take (i := 23) (v := ?_) rfl (by kernel_rfl) (by kernel_rfl) (by kernel_rfl) (fun _ _ _ h => h) (Or.inl ⟨by kernel_rfl, ?_⟩) (by assumption) ?_
  rotate_left
  · intro wx hSx
    go_simp
    try with_reducible rfl
  try simp only [Act.put]
  try simp only [List.setIfInBounds_toArray]
  try simp only [List.set_cons_succ]
  try simp only [List.set_cons_zero]
  refine wpAnyH_take (i := 24) (v := ?_) rfl (by kernel_rfl) (by kernel_rfl) (by kernel_rfl) (fun _ _ _ h => h) (Or.inl ⟨by kernel_rfl, ?_⟩) (by assumption) ?_
  rotate_left
  · intro wx hSx
    go_simp
    try with_reducible rfl
  try simp only [Act.put]
  try simp only [List.setIfInBounds_toArray]
  try simp only [List.set_cons_succ]
  try simp only [List.set_cons_zero]
  refine wpAnyH_take (i := 25) (v := ?_) rfl (by kernel_rfl) (by kernel_rfl) (by kernel_rfl) (fun _ _ _ h => h) (Or.inl ⟨by kernel_rfl, ?_⟩) (by assumption) ?_
  rotate_left
  · intro wx hSx
    go_simp
    try with_reducible rfl
  try simp only [Act.put]
  try simp only [List.setIfInBounds_toArray]
  try simp only [List.set_cons_succ]
  try simp only [List.set_cons_zero]
  refine wpAnyH_take (i := 26) (v := ?_) rfl (by kernel_rfl) (by kernel_rfl) (by kernel_rfl) (fun _ _ _ h => h) (Or.inl ⟨by kernel_rfl, ?_⟩) (by assumption) ?_
  rotate_left
  · intro wx hSx
    go_simp
    try with_reducible rfl
  try simp only [Act.put]
  try simp only [List.setIfInBounds_toArray]
  try simp only [List.set_cons_succ]
  try simp only [List.set_cons_zero]
  refine wpAnyH_take (i := 27) (v := ?_) rfl (by kernel_rfl) (by kernel_rfl) (by kernel_rfl) (fun _ _ _ h => h) (Or.inl ⟨by kernel_rfl, ?_⟩) (by assumption) ?_
  rotate_left
  · intro wx hSx
    go_simp
    try with_reducible rfl
  try simp only [Act.put]
  try simp only [List.setIfInBounds_toArray]
  try simp only [List.set_cons_succ]
  try simp only [List.set_cons_zero]
  refine wpAnyH_done (by kernel_rfl) ?_ _
  go_wp2_with fail
  rename_i ds1 d1 hd1 ds2 d2 hd2
  cases hd1
  cases hd2
  clear c1 c2 c3 k2 k3 k4 k5 j2
  have i5 : (p : Int) < (s.size : Int) := by omega
  have i6 : (p : Int) + 1 < (s.size : Int) := by omega
  go_wp2_with fail
  go_quiet (fail)
  go_wp2
  go_ret
  have hq := HQ1.out
  exact ⟨by simp at hq ⊢; exact hq, below_drewN' hHeld _⟩

set_option maxRecDepth 100000 in
set_option maxHeartbeats 2000000 in
theorem CrcTurns_2 (p : Nat) (s : ByteArray) (w : World) (aA aT aN aW aS : Addr) (h : CInv w aA aT aN aW aS) (hs : s.size ≤ 9223372036854775807) (ha : p + 1 < (cut200 s).size) :
    Calls Tryd.prog 8 #[.int .i64 2, .string s, .int .i64 (p : Int)] w (Ret (.bool true) w) := by
  go_enter Tryd.func8, Tryd.ntmps8
  go_wp2_with fail
  refine (cshown_any _ aA aT aN aW aS h).mono ?_
  rintro e w1 ⟨rfl, hb1⟩
  go_wp2_with fail
  refine (ccut_any s _ hs).mono ?_
  rintro e w2 ⟨rfl, rfl⟩
  have hsz := cut200_size s
  generalize cut200 s = s at hsz ha
  have hs200 : s.size ≤ 9223372036854775807 := by omega
  have h1 : (p : Int) < (s.size : Int) - 1 := by omega
  go_wp2_with fail
  refine (Size_2 _ aA aT aN aW aS (h.below hb1)).mono ?_
  rintro e w2 ⟨rfl, hb2'⟩
  have hb2 := ext_trans hb1 hb2'
  clear hb1 hb2'
  go_wp2_with fail
  refine (Of_2 s _ aA aT aN aW aS (h.below hb2) hs200).mono ?_
  rintro e w3 ⟨rfl, hb3'⟩
  have hb3 := ext_trans hb2 hb3'
  clear hb2 hb3'
  obtain ⟨la, lc, e1, e2⟩ := turn_lists s p ha
  have hiff := turns true la lc s[p] s[p + 1]
  rw [← e1, ← e2] at hiff
  have q1 : ((⟨(sumB true s.data.toList).toArray⟩ : ByteArray).toList == (⟨(sumB true (s.extract 0 p ++ s.extract (p + 1) (p + 2) ++ s.extract p (p + 1) ++ s.extract (p + 2) s.size).data.toList).toArray⟩ : ByteArray).toList) = decide (s[p] = s[p + 1]) := by
    rw [strs_eq]; exact decide_eq_decide.2 hiff
  have q2 := bytes_eq s[p] s[p + 1]
  generalize decide (s[p] = s[p + 1]) = qq at q1 q2
  generalize hB1 : (⟨(sumB true s.data.toList).toArray⟩ : ByteArray) = B1 at q1
  have HQ1 := Lib.hid q1
  clear e1 e2 hiff hB1 q1
  go_wp2_with fail
  have i1 : (0 : Int) ≤ (p : Int) := by omega
  have i2 : (p : Int) ≤ (s.size : Int) := by omega
  have i3 : (p : Int) + 1 ≤ (s.size : Int) := by omega
  have i4 : (p : Int) + 2 ≤ (s.size : Int) := by omega
  have j1 : IntKind.i64.wrap ((p : Int) + 1) = (p : Int) + 1 := IntWalk.i64_in _ (by omega)
  have j2 : IntKind.i64.wrap ((p : Int) + 2) = (p : Int) + 2 := IntWalk.i64_in _ (by omega)
  have k1 : (0 : Int) ≤ (p : Int) + 1 := by omega
  have k2 : (0 : Int) ≤ (p : Int) + 2 := by omega
  have k3 : (p : Int) + 1 ≤ (p : Int) + 2 := by omega
  have k4 : (p : Int) ≤ (p : Int) + 1 := by omega
  have k5 : ((p : Int) + 2).toNat = p + 2 := by omega
  have c1 : ¬ (9223372036854775807 < min p s.size + (min (p + 2) s.size - (p + 1))) := by omega
  have c2 : ¬ (9223372036854775807 < min p s.size + (min (p + 2) s.size - (p + 1)) + (min (p + 1) s.size - p)) := by omega
  have c3 : ¬ (9223372036854775807 < min p s.size + (min (p + 2) s.size - (p + 1)) + (min (p + 1) s.size - p) + (s.size - (p + 2))) := by omega
  refine wp_region_held_drew (S := (fun w' => Below w.heap.size w w')) (by kernel_rfl) hb3.drew (fun hHeld => ?_)
  refine wpAnyH_take (i := 0) (v := ?_) rfl (by kernel_rfl) (by kernel_rfl) (by kernel_rfl) (fun _ _ _ h => h) (Or.inl ⟨by kernel_rfl, ?_⟩) (by assumption) ?_
  rotate_left
  · intro wx hSx
    go_simp
    try with_reducible rfl
  try simp only [Act.put]
  try simp only [List.setIfInBounds_toArray]
  try simp only [List.set_cons_succ]
  try simp only [List.set_cons_zero]
  refine wpAnyH_take (i := 1) (v := ?_) rfl (by kernel_rfl) (by kernel_rfl) (by kernel_rfl) (fun _ _ _ h => h) (Or.inl ⟨by kernel_rfl, ?_⟩) (by assumption) ?_
  rotate_left
  · intro wx hSx
    go_simp
    try with_reducible rfl
  try simp only [Act.put]
  try simp only [List.setIfInBounds_toArray]
  try simp only [List.set_cons_succ]
  try simp only [List.set_cons_zero]
  refine wpAnyH_take (i := 2) (v := ?_) rfl (by kernel_rfl) (by kernel_rfl) (by kernel_rfl) (fun _ _ _ h => h) (Or.inl ⟨by kernel_rfl, ?_⟩) (by assumption) ?_
  rotate_left
  · intro wx hSx
    go_simp
    try with_reducible rfl
  try simp only [Act.put]
  try simp only [List.setIfInBounds_toArray]
  try simp only [List.set_cons_succ]
  try simp only [List.set_cons_zero]
  refine wpAnyH_take (i := 3) (v := ?_) rfl (by kernel_rfl) (by kernel_rfl) (by kernel_rfl) (fun _ _ _ h => h) (Or.inl ⟨by kernel_rfl, ?_⟩) (by assumption) ?_
  rotate_left
  · intro wx hSx
    go_simp
    try with_reducible rfl
  try simp only [Act.put]
  try simp only [List.setIfInBounds_toArray]
  try simp only [List.set_cons_succ]
  try simp only [List.set_cons_zero]
  refine wpAnyH_take (i := 4) (v := ?_) rfl (by kernel_rfl) (by kernel_rfl) (by kernel_rfl) (fun _ _ _ h => h) (Or.inl ⟨by kernel_rfl, ?_⟩) (by assumption) ?_
  rotate_left
  · intro wx hSx
    go_simp
    try with_reducible rfl
  try simp only [Act.put]
  try simp only [List.setIfInBounds_toArray]
  try simp only [List.set_cons_succ]
  try simp only [List.set_cons_zero]
  refine wpAnyH_take (i := 5) (v := ?_) rfl (by kernel_rfl) (by kernel_rfl) (by kernel_rfl) (fun _ _ _ h => h) (Or.inl ⟨by kernel_rfl, ?_⟩) (by assumption) ?_
  rotate_left
  · intro wx hSx
    go_simp
    try with_reducible rfl
  try simp only [Act.put]
  try simp only [List.setIfInBounds_toArray]
  try simp only [List.set_cons_succ]
  try simp only [List.set_cons_zero]
  refine wpAnyH_take (i := 6) (v := ?_) rfl (by kernel_rfl) (by kernel_rfl) (by kernel_rfl) (fun _ _ _ h => h) (Or.inl ⟨by kernel_rfl, ?_⟩) (by assumption) ?_
  rotate_left
  · intro wx hSx
    go_simp
    try with_reducible rfl
  try simp only [Act.put]
  try simp only [List.setIfInBounds_toArray]
  try simp only [List.set_cons_succ]
  try simp only [List.set_cons_zero]
  refine wpAnyH_take (i := 7) (v := ?_) rfl (by kernel_rfl) (by kernel_rfl) (by kernel_rfl) (fun _ _ _ h => h) (Or.inl ⟨by kernel_rfl, ?_⟩) (by assumption) ?_
  rotate_left
  · intro wx hSx
    go_simp
    try with_reducible rfl
  try simp only [Act.put]
  try simp only [List.setIfInBounds_toArray]
  try simp only [List.set_cons_succ]
  try simp only [List.set_cons_zero]
  refine wpAnyH_take (i := 8) (v := ?_) rfl (by kernel_rfl) (by kernel_rfl) (by kernel_rfl) (fun _ _ _ h => h) (Or.inl ⟨by kernel_rfl, ?_⟩) (by assumption) ?_
  rotate_left
  · intro wx hSx
    go_simp
    try with_reducible rfl
  try simp only [Act.put]
  try simp only [List.setIfInBounds_toArray]
  try simp only [List.set_cons_succ]
  try simp only [List.set_cons_zero]
  refine wpAnyH_take (i := 9) (v := ?_) rfl (by kernel_rfl) (by kernel_rfl) (by kernel_rfl) (fun _ _ _ h => h) (Or.inl ⟨by kernel_rfl, ?_⟩) (by assumption) ?_
  rotate_left
  · intro wx hSx
    go_simp
    try with_reducible rfl
  try simp only [Act.put]
  try simp only [List.setIfInBounds_toArray]
  try simp only [List.set_cons_succ]
  try simp only [List.set_cons_zero]
  refine wpAnyH_take (i := 10) (v := ?_) rfl (by kernel_rfl) (by kernel_rfl) (by kernel_rfl) (fun _ _ _ h => h) (Or.inl ⟨by kernel_rfl, ?_⟩) (by assumption) ?_
  rotate_left
  · intro wx hSx
    go_simp
    try with_reducible rfl
  try simp only [Act.put]
  try simp only [List.setIfInBounds_toArray]
  try simp only [List.set_cons_succ]
  try simp only [List.set_cons_zero]
  refine wpAnyH_take (i := 11) (v := ?_) rfl (by kernel_rfl) (by kernel_rfl) (by kernel_rfl) (fun _ _ _ h => h) (Or.inl ⟨by kernel_rfl, ?_⟩) (by assumption) ?_
  rotate_left
  · intro wx hSx
    go_simp
    try with_reducible rfl
  try simp only [Act.put]
  try simp only [List.setIfInBounds_toArray]
  try simp only [List.set_cons_succ]
  try simp only [List.set_cons_zero]
  refine wpAnyH_take (i := 12) (v := ?_) rfl (by kernel_rfl) (by kernel_rfl) (by kernel_rfl) (fun _ _ _ h => h) (Or.inl ⟨by kernel_rfl, ?_⟩) (by assumption) ?_
  rotate_left
  · intro wx hSx
    go_simp
    try with_reducible rfl
  try simp only [Act.put]
  try simp only [List.setIfInBounds_toArray]
  try simp only [List.set_cons_succ]
  try simp only [List.set_cons_zero]
  refine wpAnyH_take (i := 13) (v := ?_) rfl (by kernel_rfl) (by kernel_rfl) (by kernel_rfl) (fun _ _ _ h => h) (Or.inl ⟨by kernel_rfl, ?_⟩) (by assumption) ?_
  rotate_left
  · intro wx hSx
    go_simp
    try with_reducible rfl
  try simp only [Act.put]
  try simp only [List.setIfInBounds_toArray]
  try simp only [List.set_cons_succ]
  try simp only [List.set_cons_zero]
  refine wpAnyH_take (i := 14) (v := ?_) rfl (by kernel_rfl) (by kernel_rfl) (by kernel_rfl) (fun _ _ _ h => h) (Or.inl ⟨by kernel_rfl, ?_⟩) (by assumption) ?_
  rotate_left
  · intro wx hSx
    go_simp
    try with_reducible rfl
  try simp only [Act.put]
  try simp only [List.setIfInBounds_toArray]
  try simp only [List.set_cons_succ]
  try simp only [List.set_cons_zero]
  refine wpAnyH_take (i := 15) (v := ?_) rfl (by kernel_rfl) (by kernel_rfl) (by kernel_rfl) (fun _ _ _ h => h) (Or.inl ⟨by kernel_rfl, ?_⟩) (by assumption) ?_
  rotate_left
  · intro wx hSx
    go_simp
    try with_reducible rfl
  try simp only [Act.put]
  try simp only [List.setIfInBounds_toArray]
  try simp only [List.set_cons_succ]
  try simp only [List.set_cons_zero]
  refine wpAnyH_take (i := 16) (v := ?_) rfl (by kernel_rfl) (by kernel_rfl) (by kernel_rfl) (fun _ _ _ h => h) (Or.inl ⟨by kernel_rfl, ?_⟩) (by assumption) ?_
  rotate_left
  · intro wx hSx
    go_simp
    try with_reducible rfl
  try simp only [Act.put]
  try simp only [List.setIfInBounds_toArray]
  try simp only [List.set_cons_succ]
  try simp only [List.set_cons_zero]
  refine wpAnyH_take (i := 17) (v := ?_) rfl (by kernel_rfl) (by kernel_rfl) (by kernel_rfl) (fun _ _ _ h => h) (Or.inl ⟨by kernel_rfl, ?_⟩) (by assumption) ?_
  rotate_left
  · intro wx hSx
    go_simp
    try with_reducible rfl
  try simp only [Act.put]
  try simp only [List.setIfInBounds_toArray]
  try simp only [List.set_cons_succ]
  try simp only [List.set_cons_zero]
  refine wpAnyH_take (i := 18) (v := ?_) rfl (by kernel_rfl) (by kernel_rfl) (by kernel_rfl) (fun _ _ _ h => h) (Or.inl ⟨by kernel_rfl, ?_⟩) (by assumption) ?_
  rotate_left
  · intro wx hSx
    go_simp
    try with_reducible rfl
  try simp only [Act.put]
  try simp only [List.setIfInBounds_toArray]
  try simp only [List.set_cons_succ]
  try simp only [List.set_cons_zero]
  refine wpAnyH_take (i := 19) (v := ?_) rfl (by kernel_rfl) (by kernel_rfl) (by kernel_rfl) (fun _ _ _ h => h) (Or.inl ⟨by kernel_rfl, ?_⟩) (by assumption) ?_
  rotate_left
  · intro wx hSx
    go_simp
    try with_reducible rfl
  try simp only [Act.put]
  try simp only [List.setIfInBounds_toArray]
  try simp only [List.set_cons_succ]
  try simp only [List.set_cons_zero]
  refine wpAnyH_take (i := 20) (v := ?_) rfl (by kernel_rfl) (by kernel_rfl) (by kernel_rfl) (fun _ _ _ h => h) (Or.inl ⟨by kernel_rfl, ?_⟩) (by assumption) ?_
  rotate_left
  · intro wx hSx
    go_simp
    try with_reducible rfl
  try simp only [Act.put]
  try simp only [List.setIfInBounds_toArray]
  try simp only [List.set_cons_succ]
  try simp only [List.set_cons_zero]
  refine wpAnyH_take (i := 21) (v := ?_) rfl (by kernel_rfl) (by kernel_rfl) (by kernel_rfl) (fun _ _ _ h => h) (Or.inl ⟨by kernel_rfl, ?_⟩) (by assumption) ?_
  rotate_left
  · intro wx hSx
    go_simp
    try with_reducible rfl
  try simp only [Act.put]
  try simp only [List.setIfInBounds_toArray]
  try simp only [List.set_cons_succ]
  try simp only [List.set_cons_zero]
  refine wpAnyH_ready (rs := [22]) (by kernel_rfl) (by simp) ?_
  refine AllReadyH.cons rfl (fun K hK => ?_) AllReadyH.nil
  go_simp
  refine (Of_2 _ _ aA aT aN aW aS (h.below hHeld) (by simp only [ByteArray.size_append, ByteArray.size_extract]; omega)).mono ?_
  rintro e w4 ⟨rfl, hb4'⟩
  try go_wp2_with fail
  refine hK.out _ _ (ext_trans hHeld hb4') (fun hHeld => ?_)
  clear hK K
  try simp only [Act.put]
  try simp only [List.setIfInBounds_toArray]
  try simp only [List.set_cons_succ]
  try simp only [List.set_cons_zero]
  refine wpAnyH_take (i := 23) (v := ?_) rfl (by kernel_rfl) (by kernel_rfl) (by kernel_rfl) (fun _ _ _ h => h) (Or.inl ⟨by kernel_rfl, ?_⟩) (by assumption) ?_
  rotate_left
  · intro wx hSx
    go_simp
    try with_reducible rfl
  try simp only [Act.put]
  try simp only [List.setIfInBounds_toArray]
  try simp only [List.set_cons_succ]
  try simp only [List.set_cons_zero]
  refine wpAnyH_take (i := 24) (v := ?_) rfl (by kernel_rfl) (by kernel_rfl) (by kernel_rfl) (fun _ _ _ h => h) (Or.inl ⟨by kernel_rfl, ?_⟩) (by assumption) ?_
  rotate_left
  · intro wx hSx
    go_simp
    try with_reducible rfl
  try simp only [Act.put]
  try simp only [List.setIfInBounds_toArray]
  try simp only [List.set_cons_succ]
  try simp only [List.set_cons_zero]
  refine wpAnyH_take (i := 25) (v := ?_) rfl (by kernel_rfl) (by kernel_rfl) (by kernel_rfl) (fun _ _ _ h => h) (Or.inl ⟨by kernel_rfl, ?_⟩) (by assumption) ?_
  rotate_left
  · intro wx hSx
    go_simp
    try with_reducible rfl
  try simp only [Act.put]
  try simp only [List.setIfInBounds_toArray]
  try simp only [List.set_cons_succ]
  try simp only [List.set_cons_zero]
  refine wpAnyH_take (i := 26) (v := ?_) rfl (by kernel_rfl) (by kernel_rfl) (by kernel_rfl) (fun _ _ _ h => h) (Or.inl ⟨by kernel_rfl, ?_⟩) (by assumption) ?_
  rotate_left
  · intro wx hSx
    go_simp
    try with_reducible rfl
  try simp only [Act.put]
  try simp only [List.setIfInBounds_toArray]
  try simp only [List.set_cons_succ]
  try simp only [List.set_cons_zero]
  refine wpAnyH_take (i := 27) (v := ?_) rfl (by kernel_rfl) (by kernel_rfl) (by kernel_rfl) (fun _ _ _ h => h) (Or.inl ⟨by kernel_rfl, ?_⟩) (by assumption) ?_
  rotate_left
  · intro wx hSx
    go_simp
    try with_reducible rfl
  try simp only [Act.put]
  try simp only [List.setIfInBounds_toArray]
  try simp only [List.set_cons_succ]
  try simp only [List.set_cons_zero]
  refine wpAnyH_done (by kernel_rfl) ?_ _
  go_wp2_with fail
  rename_i ds1 d1 hd1 ds2 d2 hd2
  cases hd1
  cases hd2
  clear c1 c2 c3 k2 k3 k4 k5 j2
  have i5 : (p : Int) < (s.size : Int) := by omega
  have i6 : (p : Int) + 1 < (s.size : Int) := by omega
  go_wp2_with fail
  go_quiet (fail)
  go_wp2
  go_ret
  have hq := HQ1.out
  exact ⟨by simp at hq ⊢; exact hq, below_drewN' hHeld _⟩

theorem CrcTurns_law (n : Int) (s : ByteArray) (a : Int) (w : World) (aA aT aN aW aS : Addr) (h : CInv w aA aT aN aW aS) (hs : s.size ≤ 9223372036854775807) (ha2 : a ≤ 9223372036854775807) : Calls Tryd.prog 8 #[.int .i64 n, .string s, .int .i64 a] w (Ret (.bool true) w) := by
  by_cases hout : a < 0 ∨ (cut200 s).size ≤ a + 1
  · exact CrcTurns_out n a s w aA aT aN aW aS h hs hout ha2
  · obtain ⟨p, rfl⟩ := Int.eq_ofNat_of_zero_le (show 0 ≤ a by omega)
    have hp : p + 1 < (cut200 s).size := by omega
    by_cases h1 : n = 1
    · subst h1; exact CrcTurns_1 p s w aA aT aN aW aS h hs hp
    by_cases h2 : n = 2
    · subst h2; exact CrcTurns_2 p s w aA aT aN aW aS h hs hp
    · exact CrcTurns_no n p s w aA aT aN aW aS h hs hp h1 h2

end Go.Proofs.YtdijnffefapcfaaDoor
