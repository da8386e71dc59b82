/-
  Package signs: the walks of Millis, Seconds and Class. Conditions: as the theorems' own hypotheses say.
-/
import Derived.Test.YtinflolpcemnhaaDoorSignsE
namespace Go.Proofs.YtinflolpcemnhaaDoor
open Go.RowKit

/-- May a number be? -/
def okNum (n : Int) : Bool := decide (0 ≤ n) && decide (n ≤ 281474976710655)
theorem Right_any (n : Int) (w : World) : Calls Tryd.prog 14 #[.int .i64 n] w (Pure (.bool (okNum n)) w) := by
  go_enter Tryd.func14, Tryd.ntmps14
  go_wp2
  · go_ret
    exact ⟨by simp [okNum, *], rfl⟩
  · go_ret
    exact ⟨by simp [okNum]; omega, rfl⟩
theorem rRight_any (n : Int) (w : World) : Calls Tryd.prog 34 #[.int .i64 n] w (Pure (.bool (okNum n)) w) := by
  go_enter Tryd.func34, Tryd.ntmps34
  go_wp2
  · go_ret
    exact ⟨by simp [okNum, *], rfl⟩
  · go_ret
    exact ⟨by simp [okNum]; omega, rfl⟩

def milE (n : Int) : Option Nat := firstIx [(decide (0 ≤ n) && decide (n ≤ 281474976710), 1)]
def secE (n : Int) : Option Nat := firstIx [(okNum n, 1), (n.tmod 1000 == 0, 7)]
def clsE (f : Int) : Option Nat := firstIx [(sixB f, 0)]
theorem milE_lt (n : Int)  (k : Nat) (h : milE n = some k) : k < 8 := by
  unfold milE at h
  revert h
  generalize (decide (0 ≤ n) && decide (n ≤ 281474976710)) = z0
  cases z0 <;> (intro h; cases h; try decide)
theorem secE_lt (n : Int)  (k : Nat) (h : secE n = some k) : k < 8 := by
  unfold secE at h
  revert h
  generalize okNum n = z0
  generalize (n.tmod 1000 == 0) = z1
  cases z0 <;> cases z1 <;> (intro h; cases h; try decide)
theorem clsE_lt (f : Int)  (k : Nat) (h : clsE f = some k) : k < 8 := by
  unfold clsE at h
  revert h
  generalize sixB f = z0
  cases z0 <;> (intro h; cases h; try decide)

theorem Millis_any (n : Int) (w : World) (A : Nat → Addr) (h : GInv w A) :
    Calls Tryd.prog 12 #[.int .i64 n] w (Ret (.tuple #[.int .i64 (toldV (wrap64 (n * 1000)) (milE n)), .int .i64 (codeIx (milE n))]) w) := by
  have g1 := h.c1
  unfold ErrV at g1
  by_cases hn : 0 ≤ n
  · have HE := Lib.hid (show firstIx [(decide (n ≤ 281474976710), 1)] = milE n by rw [milE, decide_eq_true hn]; rfl)
    have hd : decide (0 ≤ n) = true := by simpa using hn
    clear hn
    go_enter Tryd.func12, Tryd.ntmps12
    go_wp2_with fail
    refine (must_any _ (A 1) _).mono ?_
    rintro e w1 ⟨v0, rfl, ⟨x0, y0, rfl, ma, mb⟩, hb1⟩
    have hm0 := MustAt.of ma mb
    clear ma mb
    go_wp2_with fail
    refine ((rules1_new A _ 1 _ _ hm0).mono (fun _ _ h => h.ret)).mono ?_
    rintro e w2 ⟨rfl, hb2⟩
    have hH := ext_trans (ext_alloc hb1 _) hb2
    rw [HE.out]
    go_wp2_with fail
    refine (told_any _ (milE n) (milE_lt n) _ A (h.below hH)).mono ?_
    rintro e w3 ⟨rfl, rfl⟩
    go_wp2_with fail
    go_ret2
    exact ⟨rfl, hH⟩
  · have HE := Lib.hid (show firstIx [(false, 1)] = milE n by rw [milE, decide_eq_false hn]; rfl)
    have hd : decide (0 ≤ n) = false := by simpa using hn
    clear hn
    go_enter Tryd.func12, Tryd.ntmps12
    go_wp2_with fail
    refine (must_any _ (A 1) _).mono ?_
    rintro e w1 ⟨v0, rfl, ⟨x0, y0, rfl, ma, mb⟩, hb1⟩
    have hm0 := MustAt.of ma mb
    clear ma mb
    go_wp2_with fail
    refine ((rules1_new A _ 1 _ _ hm0).mono (fun _ _ h => h.ret)).mono ?_
    rintro e w2 ⟨rfl, hb2⟩
    have hH := ext_trans (ext_alloc hb1 _) hb2
    rw [HE.out]
    go_wp2_with fail
    refine (told_any _ (milE n) (milE_lt n) _ A (h.below hH)).mono ?_
    rintro e w3 ⟨rfl, rfl⟩
    go_wp2_with fail
    go_ret2
    exact ⟨rfl, hH⟩

theorem Seconds_any (n : Int) (W0 : World) (A : Nat → Addr) (hI0 : GInv W0 A) (hn1 : -9223372036854775808 ≤ n) (hn2 : n ≤ 9223372036854775807) :
    Calls Tryd.prog 13 #[.int .i64 n] W0 (Ret (.tuple #[.int .i64 (toldV (n.tdiv 1000) (secE n)), .int .i64 (codeIx (secE n))]) W0) := by
  have hq := Lib.hid (show IntKind.i64.wrap (n.tdiv 1000) = n.tdiv 1000 by exact wrap_i64_tdiv n 1000 hn1 hn2 (by decide))
  have HE := Lib.hid (show firstIx [(okNum n, 1), (n.tmod 1000 == 0, 7)] = secE n from rfl)
  go_enter Tryd.func13, Tryd.ntmps13
  go_wp2_with fail
  refine wp_region_held_drew (S := fun w' => Below W0.heap.size W0 w') (by kernel_rfl) (Below.refl _ _).drew (fun hHeld => ?_)
  refine wpAnyH_take (i := 0) (v := ?_) rfl (by kernel_rfl) (by kernel_rfl) (by kernel_rfl) (fun _ _ _ h => h) (Or.inl ⟨by kernel_rfl, ?_⟩) (by assumption) ?_
  rotate_left
  · intro wx hSx
    go_simp
    try with_reducible rfl
  try simp only [Act.put]
  try simp only [List.setIfInBounds_toArray]
  try simp only [List.set_cons_succ]
  try simp only [List.set_cons_zero]
  refine wpAnyH_take (i := 1) (v := ?_) rfl (by kernel_rfl) (by kernel_rfl) (by kernel_rfl) (fun _ _ _ h => h) (Or.inl ⟨by kernel_rfl, ?_⟩) (by assumption) ?_
  rotate_left
  · intro wx hSx
    go_simp
    try with_reducible rfl
  try simp only [Act.put]
  try simp only [List.setIfInBounds_toArray]
  try simp only [List.set_cons_succ]
  try simp only [List.set_cons_zero]
  refine wpAnyH_take (i := 2) (v := ?_) rfl (by kernel_rfl) (by kernel_rfl) (by kernel_rfl) (fun _ _ _ h => h) (Or.inl ⟨by kernel_rfl, ?_⟩) (by assumption) ?_
  rotate_left
  · intro wx hSx
    go_simp
    try with_reducible rfl
  try simp only [Act.put]
  try simp only [List.setIfInBounds_toArray]
  try simp only [List.set_cons_succ]
  try simp only [List.set_cons_zero]
  refine wpAnyH_take (i := 4) (v := ?_) rfl (by kernel_rfl) (by kernel_rfl) (by kernel_rfl) (fun _ _ _ h => h) (Or.inl ⟨by kernel_rfl, ?_⟩) (by assumption) ?_
  rotate_left
  · intro wx hSx
    have hg1 := cell_later hSx hI0.c1
    unfold ErrV at hg1
    have hg7 := cell_later hSx hI0.c7
    unfold ErrV at hg7
    go_simp
    try with_reducible rfl
  try simp only [Act.put]
  try simp only [List.setIfInBounds_toArray]
  try simp only [List.set_cons_succ]
  try simp only [List.set_cons_zero]
  refine wpAnyH_take (i := 6) (v := ?_) rfl (by kernel_rfl) (by kernel_rfl) (by kernel_rfl) (fun _ _ _ h => h) (Or.inl ⟨by kernel_rfl, ?_⟩) (by assumption) ?_
  rotate_left
  · intro wx hSx
    go_simp
    try with_reducible rfl
  try simp only [Act.put]
  try simp only [List.setIfInBounds_toArray]
  try simp only [List.set_cons_succ]
  try simp only [List.set_cons_zero]
  refine wpAnyH_take (i := 7) (v := ?_) rfl (by kernel_rfl) (by kernel_rfl) (by kernel_rfl) (fun _ _ _ h => h) (Or.inl ⟨by kernel_rfl, ?_⟩) (by assumption) ?_
  rotate_left
  · intro wx hSx
    go_simp
    try with_reducible rfl
  try simp only [Act.put]
  try simp only [List.setIfInBounds_toArray]
  try simp only [List.set_cons_succ]
  try simp only [List.set_cons_zero]
  refine wpAnyH_take (i := 8) (v := ?_) rfl (by kernel_rfl) (by kernel_rfl) (by kernel_rfl) (fun _ _ _ h => h) (Or.inl ⟨by kernel_rfl, ?_⟩) (by assumption) ?_
  rotate_left
  · intro wx hSx
    go_simp
    try with_reducible rfl
  try simp only [Act.put]
  try simp only [List.setIfInBounds_toArray]
  try simp only [List.set_cons_succ]
  try simp only [List.set_cons_zero]
  refine wpAnyH_take (i := 9) (v := ?_) rfl (by kernel_rfl) (by kernel_rfl) (by kernel_rfl) (fun _ _ _ h => h) (Or.inl ⟨by kernel_rfl, ?_⟩) (by assumption) ?_
  rotate_left
  · intro wx hSx
    have hg1 := cell_later hSx hI0.c1
    unfold ErrV at hg1
    have hg7 := cell_later hSx hI0.c7
    unfold ErrV at hg7
    go_simp
    try with_reducible rfl
  try simp only [Act.put]
  try simp only [List.setIfInBounds_toArray]
  try simp only [List.set_cons_succ]
  try simp only [List.set_cons_zero]
  refine wpAnyH_ready (rs := [3]) (by kernel_rfl) (by simp) ?_
  refine AllReadyH.cons rfl (fun K hK => ?_) AllReadyH.nil
  go_simp
  refine (Right_any n _).mono ?_
  rintro e wx ⟨rfl, rfl⟩
  try dsimp only
  refine hK.out _ _ hHeld (fun hHeld => ?_)
  clear hK K
  try simp only [Act.put]
  try simp only [List.setIfInBounds_toArray]
  try simp only [List.set_cons_succ]
  try simp only [List.set_cons_zero]
  refine wpAnyH_ready (rs := [5]) (by kernel_rfl) (by simp) ?_
  refine AllReadyH.cons rfl (fun K hK => ?_) AllReadyH.nil
  go_simp
  refine (must_any _ (A 1) _).mono ?_
  rintro e wk1 ⟨v0, rfl, ⟨x0, y0, rfl, ma0, mb0⟩, hb1⟩
  have hm0 := MustAt.of ma0 mb0
  clear ma0 mb0
  try dsimp only
  refine hK.out _ _ (ext_trans hHeld hb1) (fun hHeld => ?_)
  clear hK K
  try simp only [Act.put]
  try simp only [List.setIfInBounds_toArray]
  try simp only [List.set_cons_succ]
  try simp only [List.set_cons_zero]
  refine wpAnyH_ready (rs := [10]) (by kernel_rfl) (by simp) ?_
  refine AllReadyH.cons rfl (fun K hK => ?_) AllReadyH.nil
  go_simp
  refine (must_any _ (A 7) _).mono ?_
  rintro e wk2 ⟨v1, rfl, ⟨x1, y1, rfl, ma1, mb1⟩, hb2⟩
  have hm1 := MustAt.of ma1 mb1
  clear ma1 mb1
  have hm0 := MustAt.below hm0 hb2
  try dsimp only
  refine hK.out _ _ (ext_trans hHeld hb2) (fun hHeld => ?_)
  clear hK K
  try simp only [Act.put]
  try simp only [List.setIfInBounds_toArray]
  try simp only [List.set_cons_succ]
  try simp only [List.set_cons_zero]
  refine wpAnyH_ready (rs := [11]) (by kernel_rfl) (by simp) ?_
  refine AllReadyH.cons rfl (fun K hK => ?_) AllReadyH.nil
  go_simp
  refine hK.out _ _ (ext_alloc hHeld _) (fun hHeld => ?_)
  clear hK K
  try simp only [Act.put]
  try simp only [List.setIfInBounds_toArray]
  try simp only [List.set_cons_succ]
  try simp only [List.set_cons_zero]
  refine wpAnyH_ready (rs := [12]) (by kernel_rfl) (by simp) ?_
  refine AllReadyH.cons rfl (fun K hK => ?_) AllReadyH.nil
  go_simp
  refine ((rules2_new A _ _ 1 7 _ _ _ hm0 hm1).mono (fun _ _ h => h.ret)).mono ?_
  rintro e wk3 ⟨rfl, hb3⟩
  try dsimp only
  refine hK.out _ _ (ext_trans hHeld hb3) (fun hHeld => ?_)
  clear hK K
  try simp only [Act.put]
  try simp only [List.setIfInBounds_toArray]
  try simp only [List.set_cons_succ]
  try simp only [List.set_cons_zero]
  refine wpAnyH_ready (rs := [13]) (by kernel_rfl) (by simp) ?_
  refine AllReadyH.cons rfl (fun K hK => ?_) AllReadyH.nil
  go_simp
  rw [HE.out]
  refine ((told_any _ (secE n) (secE_lt n) _ A (hI0.below hHeld)).mono (fun _ _ h => h.ret)).mono ?_
  rintro e wk4 ⟨rfl, hb4⟩
  try dsimp only
  refine hK.out _ _ (ext_trans hHeld hb4) (fun hHeld => ?_)
  clear hK K
  try simp only [Act.put]
  try simp only [List.setIfInBounds_toArray]
  try simp only [List.set_cons_succ]
  try simp only [List.set_cons_zero]
  refine wpAnyH_take (i := 14) (v := ?_) rfl (by kernel_rfl) (by kernel_rfl) (by kernel_rfl) (fun _ _ _ h => h) (Or.inl ⟨by kernel_rfl, ?_⟩) (by assumption) ?_
  rotate_left
  · intro wx hSx
    go_simp
    try with_reducible rfl
  try simp only [Act.put]
  try simp only [List.setIfInBounds_toArray]
  try simp only [List.set_cons_succ]
  try simp only [List.set_cons_zero]
  refine wpAnyH_take (i := 15) (v := ?_) rfl (by kernel_rfl) (by kernel_rfl) (by kernel_rfl) (fun _ _ _ h => h) (Or.inl ⟨by kernel_rfl, ?_⟩) (by assumption) ?_
  rotate_left
  · intro wx hSx
    go_simp
    try with_reducible rfl
  try simp only [Act.put]
  try simp only [List.setIfInBounds_toArray]
  try simp only [List.set_cons_succ]
  try simp only [List.set_cons_zero]
  refine wpAnyH_take (i := 16) (v := ?_) rfl (by kernel_rfl) (by kernel_rfl) (by kernel_rfl) (fun _ _ _ h => h) (Or.inl ⟨by kernel_rfl, ?_⟩) (by assumption) ?_
  rotate_left
  · intro wx hSx
    go_simp
    try with_reducible rfl
  try simp only [Act.put]
  try simp only [List.setIfInBounds_toArray]
  try simp only [List.set_cons_succ]
  try simp only [List.set_cons_zero]
  refine wpAnyH_take (i := 17) (v := ?_) rfl (by kernel_rfl) (by kernel_rfl) (by kernel_rfl) (fun _ _ _ h => h) (Or.inl ⟨by kernel_rfl, ?_⟩) (by assumption) ?_
  rotate_left
  · intro wx hSx
    go_simp
    try with_reducible rfl
  try simp only [Act.put]
  try simp only [List.setIfInBounds_toArray]
  try simp only [List.set_cons_succ]
  try simp only [List.set_cons_zero]
  refine wpAnyH_done (by kernel_rfl) ?_ _
  go_wp2_with fail
  rename_i dst1 d1 heq1 dst2 d2 heq2
  cases heq1
  cases heq2
  go_ret2
  exact ⟨by first | rfl | (rw [hq.out]; rfl) | simp [hq.out], hHeld⟩

theorem Class_any (f : Int) (w : World) (A : Nat → Addr) (h : GInv w A) (hf2 : f ≤ 9223372036854775807) :
    Calls Tryd.prog 17 #[.int .i64 f] w
      (Ret (.tuple #[.int .i64 (toldV (bits .and .i64 (wrap64 (f.tdiv 128)) 3) (clsE f)), .bool (codeIx (clsE f) == 0 && (bits .and .i64 f 8 != 0)), .int .i64 (codeIx (clsE f))]) w) := by
  have HE := Lib.hid (show firstIx [(sixB f, 0)] = clsE f from rfl)
  go_enter Tryd.func17, Tryd.ntmps17
  go_wp2_with fail
  have hI0 := h.below (ext_new w (.cells #[.int .i64 f] 33))
  have d0 : (w.alloc (.cells #[.int .i64 f] 33)).cell? ⟨w.heap.size, 0, none⟩ = some (.int .i64 f) := by simp
  have hE0 := ext_new w (.cells #[.int .i64 f] 33)
  generalize hW0 : w.alloc (.cells #[.int .i64 f] 33) = W0 at *
  have HW0 := Lib.hid hW0
  clear hW0 h
  refine (isSix_any f _ A hI0 hf2).mono ?_
  rintro e w1 ⟨v0, rfl, ⟨x0, y0, rfl, ma, mb⟩, hb1⟩
  have hm0 := MustAt.of ma mb
  clear ma mb
  go_wp2_with fail
  refine ((rules1_new A _ 0 _ _ hm0).mono (fun _ _ h => h.ret)).mono ?_
  rintro e w2 ⟨rfl, hb2⟩
  have hH := ext_trans (ext_alloc hb1 _) hb2
  rw [HE.out]
  have dX := cell_later hH d0
  go_wp2_with fail
  refine (told_any _ (clsE f) (clsE_lt f) _ A (hI0.below hH)).mono ?_
  rintro e w3 ⟨rfl, rfl⟩
  generalize hce : codeIx (clsE f) = ce
  have HCE := Lib.hid hce
  clear hce
  rcases bool_cases (ce == 0) with hz | hz
  · go_wp2_with fail
    refine bodyPost_ret (v := .tuple #[.int .i64 (toldV (bits .and .i64 (wrap64 (f.tdiv 128)) 3) (clsE f)), .bool false, .int .i64 ce]) ?_ rfl ⟨by rw [HCE.out, hz]; rfl, ext_trans hE0 hH⟩
    simp [results, Tryd.results17, go_sem, hz]
  · go_wp2_with fail
    refine (has_any f 8 _).mono ?_
    rintro e w4 ⟨rfl, hb4⟩
    go_wp2_with fail
    refine bodyPost_ret (v := .tuple #[.int .i64 (toldV (bits .and .i64 (wrap64 (f.tdiv 128)) 3) (clsE f)), .bool (bits .and .i64 f 8 != 0), .int .i64 ce]) ?_ rfl ⟨by rw [HCE.out, hz]; rfl, ext_trans hE0 (ext_trans hH hb4)⟩
    simp [results, Tryd.results17, go_sem, hz]

end Go.Proofs.YtinflolpcemnhaaDoor
