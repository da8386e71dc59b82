/-
  Package signs: the walks of MarkUp and MarkDown. Conditions: as the theorems' own hypotheses say.
-/
import Derived.Test.YtinflolpcemnhaaDoorSignsE
namespace Go.Proofs.YtinflolpcemnhaaDoor
open Go.RowKit

def gam (f : Int) : Int := gath (flagsOf f 23 5)
def upmE (f : Int) : Option Nat := firstIx [(isInB f 127, 0), (!(bits .and .i64 f 32 != 0), 5), (!(bits .and .i64 f 64 != 0), 6)]
def dnmE (f : Int) : Option Nat := firstIx [(isInB f 23, 0)]
theorem upmE_lt (f : Int)  (k : Nat) (h : upmE f = some k) : k < 8 := by
  unfold upmE at h
  revert h
  generalize isInB f 127 = z0
  generalize (!(bits .and .i64 f 32 != 0)) = z1
  generalize (!(bits .and .i64 f 64 != 0)) = z2
  cases z0 <;> cases z1 <;> cases z2 <;> (intro h; cases h; try decide)
theorem dnmE_lt (f : Int)  (k : Nat) (h : dnmE f = some k) : k < 8 := by
  unfold dnmE at h
  revert h
  generalize isInB f 23 = z0
  cases z0 <;> (intro h; cases h; try decide)
theorem only_marks (f : Int) (w : World) : Calls Tryd.prog 29 #[.agg #[.int .i64 f], .int .i64 23] w (Ret (.int .i64 (gam f)) w) :=
  only_any f 23 5 (by decide) (by decide) (by decide) w

set_option maxHeartbeats 1000000 in
theorem MarkUp_any (f : Int) (w : World) (A : Nat → Addr) (h : GInv w A) :
    Calls Tryd.prog 19 #[.int .i64 f] w (Ret (.tuple #[.int .i64 (toldV (gam f) (upmE f)), .int .i64 (codeIx (upmE f))]) w) := by
  have HE := Lib.hid (show firstIx [(isInB f 127, 0), (!(bits .and .i64 f 32 != 0), 5), (!(bits .and .i64 f 64 != 0), 6)] = upmE f from rfl)
  generalize hg : gam f = g
  have HG := Lib.hid hg
  clear hg
  go_enter Tryd.func19, Tryd.ntmps19
  go_wp2_with fail
  have hI0 := h.below (ext_new w (.cells #[.int .i64 f] 33))
  have d0 : (w.alloc (.cells #[.int .i64 f] 33)).cell? ⟨w.heap.size, 0, none⟩ = some (.int .i64 f) := by simp
  have hE0 := ext_new w (.cells #[.int .i64 f] 33)
  generalize hW0 : w.alloc (.cells #[.int .i64 f] 33) = W0 at *
  have HW0 := Lib.hid hW0
  clear hW0 h
  refine wp_region_held_drew (S := fun w' => Below W0.heap.size W0 w') (by kernel_rfl) (Below.refl _ _).drew (fun hHeld => ?_)
  refine wpAnyH_take (i := 0) (v := ?_) rfl (by kernel_rfl) (by kernel_rfl) (by kernel_rfl) (fun _ _ _ h => h) (Or.inl ⟨by kernel_rfl, ?_⟩) (by assumption) ?_
  rotate_left
  · intro wx hSx
    have hx0 := cell_later hSx d0
    have hg0 := cell_later hSx hI0.c0
    unfold ErrV at hg0
    have hg5 := cell_later hSx hI0.c5
    unfold ErrV at hg5
    have hg6 := cell_later hSx hI0.c6
    unfold ErrV at hg6
    go_simp
    try with_reducible rfl
  try simp only [Act.put]
  try simp only [List.setIfInBounds_toArray]
  try simp only [List.set_cons_succ]
  try simp only [List.set_cons_zero]
  refine wpAnyH_take (i := 2) (v := ?_) rfl (by kernel_rfl) (by kernel_rfl) (by kernel_rfl) (fun _ _ _ h => h) (Or.inl ⟨by kernel_rfl, ?_⟩) (by assumption) ?_
  rotate_left
  · intro wx hSx
    have hx0 := cell_later hSx d0
    have hg0 := cell_later hSx hI0.c0
    unfold ErrV at hg0
    have hg5 := cell_later hSx hI0.c5
    unfold ErrV at hg5
    have hg6 := cell_later hSx hI0.c6
    unfold ErrV at hg6
    go_simp
    try with_reducible rfl
  try simp only [Act.put]
  try simp only [List.setIfInBounds_toArray]
  try simp only [List.set_cons_succ]
  try simp only [List.set_cons_zero]
  refine wpAnyH_take (i := 4) (v := ?_) rfl (by kernel_rfl) (by kernel_rfl) (by kernel_rfl) (fun _ _ _ h => h) (Or.inl ⟨by kernel_rfl, ?_⟩) (by assumption) ?_
  rotate_left
  · intro wx hSx
    have hx0 := cell_later hSx d0
    have hg0 := cell_later hSx hI0.c0
    unfold ErrV at hg0
    have hg5 := cell_later hSx hI0.c5
    unfold ErrV at hg5
    have hg6 := cell_later hSx hI0.c6
    unfold ErrV at hg6
    go_simp
    try with_reducible rfl
  try simp only [Act.put]
  try simp only [List.setIfInBounds_toArray]
  try simp only [List.set_cons_succ]
  try simp only [List.set_cons_zero]
  refine wpAnyH_take (i := 6) (v := ?_) rfl (by kernel_rfl) (by kernel_rfl) (by kernel_rfl) (fun _ _ _ h => h) (Or.inl ⟨by kernel_rfl, ?_⟩) (by assumption) ?_
  rotate_left
  · intro wx hSx
    have hx0 := cell_later hSx d0
    have hg0 := cell_later hSx hI0.c0
    unfold ErrV at hg0
    have hg5 := cell_later hSx hI0.c5
    unfold ErrV at hg5
    have hg6 := cell_later hSx hI0.c6
    unfold ErrV at hg6
    go_simp
    try with_reducible rfl
  try simp only [Act.put]
  try simp only [List.setIfInBounds_toArray]
  try simp only [List.set_cons_succ]
  try simp only [List.set_cons_zero]
  refine wpAnyH_take (i := 9) (v := ?_) rfl (by kernel_rfl) (by kernel_rfl) (by kernel_rfl) (fun _ _ _ h => h) (Or.inl ⟨by kernel_rfl, ?_⟩) (by assumption) ?_
  rotate_left
  · intro wx hSx
    have hx0 := cell_later hSx d0
    have hg0 := cell_later hSx hI0.c0
    unfold ErrV at hg0
    have hg5 := cell_later hSx hI0.c5
    unfold ErrV at hg5
    have hg6 := cell_later hSx hI0.c6
    unfold ErrV at hg6
    go_simp
    try with_reducible rfl
  try simp only [Act.put]
  try simp only [List.setIfInBounds_toArray]
  try simp only [List.set_cons_succ]
  try simp only [List.set_cons_zero]
  refine wpAnyH_take (i := 11) (v := ?_) rfl (by kernel_rfl) (by kernel_rfl) (by kernel_rfl) (fun _ _ _ h => h) (Or.inl ⟨by kernel_rfl, ?_⟩) (by assumption) ?_
  rotate_left
  · intro wx hSx
    have hx0 := cell_later hSx d0
    have hg0 := cell_later hSx hI0.c0
    unfold ErrV at hg0
    have hg5 := cell_later hSx hI0.c5
    unfold ErrV at hg5
    have hg6 := cell_later hSx hI0.c6
    unfold ErrV at hg6
    go_simp
    try with_reducible rfl
  try simp only [Act.put]
  try simp only [List.setIfInBounds_toArray]
  try simp only [List.set_cons_succ]
  try simp only [List.set_cons_zero]
  refine wpAnyH_take (i := 14) (v := ?_) rfl (by kernel_rfl) (by kernel_rfl) (by kernel_rfl) (fun _ _ _ h => h) (Or.inl ⟨by kernel_rfl, ?_⟩) (by assumption) ?_
  rotate_left
  · intro wx hSx
    have hx0 := cell_later hSx d0
    have hg0 := cell_later hSx hI0.c0
    unfold ErrV at hg0
    have hg5 := cell_later hSx hI0.c5
    unfold ErrV at hg5
    have hg6 := cell_later hSx hI0.c6
    unfold ErrV at hg6
    go_simp
    try with_reducible rfl
  try simp only [Act.put]
  try simp only [List.setIfInBounds_toArray]
  try simp only [List.set_cons_succ]
  try simp only [List.set_cons_zero]
  refine wpAnyH_ready (rs := [1]) (by kernel_rfl) (by simp) ?_
  refine AllReadyH.cons rfl (fun K hK => ?_) AllReadyH.nil
  go_simp
  refine (only_marks f _).mono ?_
  rintro e wk1 ⟨rfl, hb1⟩
  rw [HG.out]
  try dsimp only
  refine hK.out _ _ (ext_trans hHeld hb1) (fun hHeld => ?_)
  clear hK K
  try simp only [Act.put]
  try simp only [List.setIfInBounds_toArray]
  try simp only [List.set_cons_succ]
  try simp only [List.set_cons_zero]
  refine wpAnyH_ready (rs := [3]) (by kernel_rfl) (by simp) ?_
  refine AllReadyH.cons rfl (fun K hK => ?_) AllReadyH.nil
  go_simp
  refine (isIn_any f 127 _).mono ?_
  rintro e wk2 ⟨rfl, hb2⟩
  try dsimp only
  refine hK.out _ _ (ext_trans hHeld hb2) (fun hHeld => ?_)
  clear hK K
  try simp only [Act.put]
  try simp only [List.setIfInBounds_toArray]
  try simp only [List.set_cons_succ]
  try simp only [List.set_cons_zero]
  refine wpAnyH_ready (rs := [5]) (by kernel_rfl) (by simp) ?_
  refine AllReadyH.cons rfl (fun K hK => ?_) AllReadyH.nil
  go_simp
  refine (must_any _ (A 0) _).mono ?_
  rintro e wk3 ⟨v0, rfl, ⟨x0, y0, rfl, ma0, mb0⟩, hb3⟩
  have hm0 := MustAt.of ma0 mb0
  clear ma0 mb0
  try dsimp only
  refine hK.out _ _ (ext_trans hHeld hb3) (fun hHeld => ?_)
  clear hK K
  try simp only [Act.put]
  try simp only [List.setIfInBounds_toArray]
  try simp only [List.set_cons_succ]
  try simp only [List.set_cons_zero]
  refine wpAnyH_ready (rs := [7]) (by kernel_rfl) (by simp) ?_
  refine AllReadyH.cons rfl (fun K hK => ?_) AllReadyH.nil
  go_simp
  refine (has_any f 32 _).mono ?_
  rintro e wk4 ⟨rfl, hb4⟩
  have hm0 := MustAt.below hm0 hb4
  try dsimp only
  refine hK.out _ _ (ext_trans hHeld hb4) (fun hHeld => ?_)
  clear hK K
  try simp only [Act.put]
  try simp only [List.setIfInBounds_toArray]
  try simp only [List.set_cons_succ]
  try simp only [List.set_cons_zero]
  refine wpAnyH_take (i := 8) (v := ?_) rfl (by kernel_rfl) (by kernel_rfl) (by kernel_rfl) (fun _ _ _ h => h) (Or.inl ⟨by kernel_rfl, ?_⟩) (by assumption) ?_
  rotate_left
  · intro wx hSx
    go_simp
    try with_reducible rfl
  try simp only [Act.put]
  try simp only [List.setIfInBounds_toArray]
  try simp only [List.set_cons_succ]
  try simp only [List.set_cons_zero]
  refine wpAnyH_ready (rs := [10]) (by kernel_rfl) (by simp) ?_
  refine AllReadyH.cons rfl (fun K hK => ?_) AllReadyH.nil
  go_simp
  refine (must_any _ (A 5) _).mono ?_
  rintro e wk5 ⟨v1, rfl, ⟨x1, y1, rfl, ma1, mb1⟩, hb5⟩
  have hm1 := MustAt.of ma1 mb1
  clear ma1 mb1
  have hm0 := MustAt.below hm0 hb5
  try dsimp only
  refine hK.out _ _ (ext_trans hHeld hb5) (fun hHeld => ?_)
  clear hK K
  try simp only [Act.put]
  try simp only [List.setIfInBounds_toArray]
  try simp only [List.set_cons_succ]
  try simp only [List.set_cons_zero]
  refine wpAnyH_ready (rs := [12]) (by kernel_rfl) (by simp) ?_
  refine AllReadyH.cons rfl (fun K hK => ?_) AllReadyH.nil
  go_simp
  refine (has_any f 64 _).mono ?_
  rintro e wk6 ⟨rfl, hb6⟩
  have hm0 := MustAt.below hm0 hb6
  have hm1 := MustAt.below hm1 hb6
  try dsimp only
  refine hK.out _ _ (ext_trans hHeld hb6) (fun hHeld => ?_)
  clear hK K
  try simp only [Act.put]
  try simp only [List.setIfInBounds_toArray]
  try simp only [List.set_cons_succ]
  try simp only [List.set_cons_zero]
  refine wpAnyH_take (i := 13) (v := ?_) rfl (by kernel_rfl) (by kernel_rfl) (by kernel_rfl) (fun _ _ _ h => h) (Or.inl ⟨by kernel_rfl, ?_⟩) (by assumption) ?_
  rotate_left
  · intro wx hSx
    go_simp
    try with_reducible rfl
  try simp only [Act.put]
  try simp only [List.setIfInBounds_toArray]
  try simp only [List.set_cons_succ]
  try simp only [List.set_cons_zero]
  refine wpAnyH_ready (rs := [15]) (by kernel_rfl) (by simp) ?_
  refine AllReadyH.cons rfl (fun K hK => ?_) AllReadyH.nil
  go_simp
  refine (must_any _ (A 6) _).mono ?_
  rintro e wk7 ⟨v2, rfl, ⟨x2, y2, rfl, ma2, mb2⟩, hb7⟩
  have hm2 := MustAt.of ma2 mb2
  clear ma2 mb2
  have hm0 := MustAt.below hm0 hb7
  have hm1 := MustAt.below hm1 hb7
  try dsimp only
  refine hK.out _ _ (ext_trans hHeld hb7) (fun hHeld => ?_)
  clear hK K
  try simp only [Act.put]
  try simp only [List.setIfInBounds_toArray]
  try simp only [List.set_cons_succ]
  try simp only [List.set_cons_zero]
  refine wpAnyH_ready (rs := [16]) (by kernel_rfl) (by simp) ?_
  refine AllReadyH.cons rfl (fun K hK => ?_) AllReadyH.nil
  go_simp
  refine hK.out _ _ (ext_alloc hHeld _) (fun hHeld => ?_)
  clear hK K
  try simp only [Act.put]
  try simp only [List.setIfInBounds_toArray]
  try simp only [List.set_cons_succ]
  try simp only [List.set_cons_zero]
  refine wpAnyH_ready (rs := [17]) (by kernel_rfl) (by simp) ?_
  refine AllReadyH.cons rfl (fun K hK => ?_) AllReadyH.nil
  go_simp
  refine ((rules3_new A _ _ _ 0 5 6 _ _ _ _ hm0 hm1 hm2).mono (fun _ _ h => h.ret)).mono ?_
  rintro e wk8 ⟨rfl, hb8⟩
  try dsimp only
  refine hK.out _ _ (ext_trans hHeld hb8) (fun hHeld => ?_)
  clear hK K
  try simp only [Act.put]
  try simp only [List.setIfInBounds_toArray]
  try simp only [List.set_cons_succ]
  try simp only [List.set_cons_zero]
  refine wpAnyH_ready (rs := [18]) (by kernel_rfl) (by simp) ?_
  refine AllReadyH.cons rfl (fun K hK => ?_) AllReadyH.nil
  go_simp
  rw [HE.out]
  refine ((told_any _ (upmE f) (upmE_lt f) _ A (hI0.below hHeld)).mono (fun _ _ h => h.ret)).mono ?_
  rintro e wk9 ⟨rfl, hb9⟩
  try dsimp only
  refine hK.out _ _ (ext_trans hHeld hb9) (fun hHeld => ?_)
  clear hK K
  try simp only [Act.put]
  try simp only [List.setIfInBounds_toArray]
  try simp only [List.set_cons_succ]
  try simp only [List.set_cons_zero]
  refine wpAnyH_take (i := 19) (v := ?_) rfl (by kernel_rfl) (by kernel_rfl) (by kernel_rfl) (fun _ _ _ h => h) (Or.inl ⟨by kernel_rfl, ?_⟩) (by assumption) ?_
  rotate_left
  · intro wx hSx
    go_simp
    try with_reducible rfl
  try simp only [Act.put]
  try simp only [List.setIfInBounds_toArray]
  try simp only [List.set_cons_succ]
  try simp only [List.set_cons_zero]
  refine wpAnyH_take (i := 20) (v := ?_) rfl (by kernel_rfl) (by kernel_rfl) (by kernel_rfl) (fun _ _ _ h => h) (Or.inl ⟨by kernel_rfl, ?_⟩) (by assumption) ?_
  rotate_left
  · intro wx hSx
    go_simp
    try with_reducible rfl
  try simp only [Act.put]
  try simp only [List.setIfInBounds_toArray]
  try simp only [List.set_cons_succ]
  try simp only [List.set_cons_zero]
  refine wpAnyH_take (i := 21) (v := ?_) rfl (by kernel_rfl) (by kernel_rfl) (by kernel_rfl) (fun _ _ _ h => h) (Or.inl ⟨by kernel_rfl, ?_⟩) (by assumption) ?_
  rotate_left
  · intro wx hSx
    go_simp
    try with_reducible rfl
  try simp only [Act.put]
  try simp only [List.setIfInBounds_toArray]
  try simp only [List.set_cons_succ]
  try simp only [List.set_cons_zero]
  refine wpAnyH_take (i := 22) (v := ?_) rfl (by kernel_rfl) (by kernel_rfl) (by kernel_rfl) (fun _ _ _ h => h) (Or.inl ⟨by kernel_rfl, ?_⟩) (by assumption) ?_
  rotate_left
  · intro wx hSx
    go_simp
    try with_reducible rfl
  try simp only [Act.put]
  try simp only [List.setIfInBounds_toArray]
  try simp only [List.set_cons_succ]
  try simp only [List.set_cons_zero]
  refine wpAnyH_done (by kernel_rfl) ?_ _
  go_wp2_with fail
  rename_i dst1 d1 heq1 dst2 d2 heq2
  cases heq1
  cases heq2
  go_ret2
  exact ⟨by first | rfl | simp [HG.out], ext_trans hE0 hHeld⟩

theorem MarkDown_no (f : Int) (w : World) (A : Nat → Addr) (h : GInv w A) :
    Calls Tryd.prog 21 #[.int .i64 f, .bool false] w (Ret (.tuple #[.int .i64 (toldV (gam f) (dnmE f)), .int .i64 (codeIx (dnmE f))]) w) := by
  have HE := Lib.hid (show firstIx [(isInB f 23, 0)] = dnmE f from rfl)
  go_enter Tryd.func21, Tryd.ntmps21
  go_wp2_with fail
  have hI1 := h.below (ext_new w (.cells #[.int .i64 f] 33))
  have d1 : (w.alloc (.cells #[.int .i64 f] 33)).cell? ⟨w.heap.size, 0, none⟩ = some (.int .i64 f) := by simp
  have hE1 := ext_new w (.cells #[.int .i64 f] 33)
  generalize hW1 : w.alloc (.cells #[.int .i64 f] 33) = W1 at *
  have HW1 := Lib.hid hW1
  clear hW1 h
  refine (only_marks f _).mono ?_
  rintro e W0 ⟨rfl, hb0⟩
  have hI0 := hI1.below hb0
  have d0 := cell_later hb0 d1
  have hE0 := ext_trans hE1 hb0
  clear hI1 d1 hE1
  generalize hg : gam f = g
  have HG := Lib.hid hg
  clear hg
  go_wp2_with fail
  refine wp_region_held_drew (S := fun w' => Below W0.heap.size W0 w') (by kernel_rfl) (Below.refl _ _).drew (fun hHeld => ?_)
  refine wpAnyH_take (i := 0) (v := ?_) rfl (by kernel_rfl) (by kernel_rfl) (by kernel_rfl) (fun _ _ _ h => h) (Or.inl ⟨by kernel_rfl, ?_⟩) (by assumption) ?_
  rotate_left
  · intro wx hSx
    go_simp
    try with_reducible rfl
  try simp only [Act.put]
  try simp only [List.setIfInBounds_toArray]
  try simp only [List.set_cons_succ]
  try simp only [List.set_cons_zero]
  refine wpAnyH_take (i := 1) (v := ?_) rfl (by kernel_rfl) (by kernel_rfl) (by kernel_rfl) (fun _ _ _ h => h) (Or.inl ⟨by kernel_rfl, ?_⟩) (by assumption) ?_
  rotate_left
  · intro wx hSx
    have hx0 := cell_later hSx d0
    have hg0 := cell_later hSx hI0.c0
    unfold ErrV at hg0
    go_simp
    try with_reducible rfl
  try simp only [Act.put]
  try simp only [List.setIfInBounds_toArray]
  try simp only [List.set_cons_succ]
  try simp only [List.set_cons_zero]
  refine wpAnyH_take (i := 3) (v := ?_) rfl (by kernel_rfl) (by kernel_rfl) (by kernel_rfl) (fun _ _ _ h => h) (Or.inl ⟨by kernel_rfl, ?_⟩) (by assumption) ?_
  rotate_left
  · intro wx hSx
    have hx0 := cell_later hSx d0
    have hg0 := cell_later hSx hI0.c0
    unfold ErrV at hg0
    go_simp
    try with_reducible rfl
  try simp only [Act.put]
  try simp only [List.setIfInBounds_toArray]
  try simp only [List.set_cons_succ]
  try simp only [List.set_cons_zero]
  refine wpAnyH_ready (rs := [2]) (by kernel_rfl) (by simp) ?_
  refine AllReadyH.cons rfl (fun K hK => ?_) AllReadyH.nil
  go_simp
  refine (isIn_any f 23 _).mono ?_
  rintro e wk1 ⟨rfl, hb1⟩
  try dsimp only
  refine hK.out _ _ (ext_trans hHeld hb1) (fun hHeld => ?_)
  clear hK K
  try simp only [Act.put]
  try simp only [List.setIfInBounds_toArray]
  try simp only [List.set_cons_succ]
  try simp only [List.set_cons_zero]
  refine wpAnyH_ready (rs := [4]) (by kernel_rfl) (by simp) ?_
  refine AllReadyH.cons rfl (fun K hK => ?_) AllReadyH.nil
  go_simp
  refine (must_any _ (A 0) _).mono ?_
  rintro e wk2 ⟨v0, rfl, ⟨x0, y0, rfl, ma0, mb0⟩, hb2⟩
  have hm0 := MustAt.of ma0 mb0
  clear ma0 mb0
  try dsimp only
  refine hK.out _ _ (ext_trans hHeld hb2) (fun hHeld => ?_)
  clear hK K
  try simp only [Act.put]
  try simp only [List.setIfInBounds_toArray]
  try simp only [List.set_cons_succ]
  try simp only [List.set_cons_zero]
  refine wpAnyH_ready (rs := [5]) (by kernel_rfl) (by simp) ?_
  refine AllReadyH.cons rfl (fun K hK => ?_) AllReadyH.nil
  go_simp
  refine hK.out _ _ (ext_alloc hHeld _) (fun hHeld => ?_)
  clear hK K
  try simp only [Act.put]
  try simp only [List.setIfInBounds_toArray]
  try simp only [List.set_cons_succ]
  try simp only [List.set_cons_zero]
  refine wpAnyH_ready (rs := [6]) (by kernel_rfl) (by simp) ?_
  refine AllReadyH.cons rfl (fun K hK => ?_) AllReadyH.nil
  go_simp
  refine ((rules1_new A _ 0 _ _ hm0).mono (fun _ _ h => h.ret)).mono ?_
  rintro e wk3 ⟨rfl, hb3⟩
  try dsimp only
  refine hK.out _ _ (ext_trans hHeld hb3) (fun hHeld => ?_)
  clear hK K
  try simp only [Act.put]
  try simp only [List.setIfInBounds_toArray]
  try simp only [List.set_cons_succ]
  try simp only [List.set_cons_zero]
  refine wpAnyH_ready (rs := [7]) (by kernel_rfl) (by simp) ?_
  refine AllReadyH.cons rfl (fun K hK => ?_) AllReadyH.nil
  go_simp
  rw [HE.out]
  refine ((told_any _ (dnmE f) (dnmE_lt f) _ A (hI0.below hHeld)).mono (fun _ _ h => h.ret)).mono ?_
  rintro e wk4 ⟨rfl, hb4⟩
  try dsimp only
  refine hK.out _ _ (ext_trans hHeld hb4) (fun hHeld => ?_)
  clear hK K
  try simp only [Act.put]
  try simp only [List.setIfInBounds_toArray]
  try simp only [List.set_cons_succ]
  try simp only [List.set_cons_zero]
  refine wpAnyH_take (i := 8) (v := ?_) rfl (by kernel_rfl) (by kernel_rfl) (by kernel_rfl) (fun _ _ _ h => h) (Or.inl ⟨by kernel_rfl, ?_⟩) (by assumption) ?_
  rotate_left
  · intro wx hSx
    go_simp
    try with_reducible rfl
  try simp only [Act.put]
  try simp only [List.setIfInBounds_toArray]
  try simp only [List.set_cons_succ]
  try simp only [List.set_cons_zero]
  refine wpAnyH_take (i := 9) (v := ?_) rfl (by kernel_rfl) (by kernel_rfl) (by kernel_rfl) (fun _ _ _ h => h) (Or.inl ⟨by kernel_rfl, ?_⟩) (by assumption) ?_
  rotate_left
  · intro wx hSx
    go_simp
    try with_reducible rfl
  try simp only [Act.put]
  try simp only [List.setIfInBounds_toArray]
  try simp only [List.set_cons_succ]
  try simp only [List.set_cons_zero]
  refine wpAnyH_take (i := 10) (v := ?_) rfl (by kernel_rfl) (by kernel_rfl) (by kernel_rfl) (fun _ _ _ h => h) (Or.inl ⟨by kernel_rfl, ?_⟩) (by assumption) ?_
  rotate_left
  · intro wx hSx
    go_simp
    try with_reducible rfl
  try simp only [Act.put]
  try simp only [List.setIfInBounds_toArray]
  try simp only [List.set_cons_succ]
  try simp only [List.set_cons_zero]
  refine wpAnyH_take (i := 11) (v := ?_) rfl (by kernel_rfl) (by kernel_rfl) (by kernel_rfl) (fun _ _ _ h => h) (Or.inl ⟨by kernel_rfl, ?_⟩) (by assumption) ?_
  rotate_left
  · intro wx hSx
    go_simp
    try with_reducible rfl
  try simp only [Act.put]
  try simp only [List.setIfInBounds_toArray]
  try simp only [List.set_cons_succ]
  try simp only [List.set_cons_zero]
  refine wpAnyH_done (by kernel_rfl) ?_ _
  go_wp2_with fail
  rename_i dst1 d1 heq1 dst2 d2 heq2
  cases heq1
  cases heq2
  go_ret2
  exact ⟨by first | rfl | simp [HG.out], ext_trans hE0 hHeld⟩

theorem MarkDown_yes (f : Int) (w : World) (A : Nat → Addr) (h : GInv w A) :
    Calls Tryd.prog 21 #[.int .i64 f, .bool true] w (Ret (.tuple #[.int .i64 (toldV (bits .or .i64 (gam f) 8) (dnmE f)), .int .i64 (codeIx (dnmE f))]) w) := by
  have HE := Lib.hid (show firstIx [(isInB f 23, 0)] = dnmE f from rfl)
  go_enter Tryd.func21, Tryd.ntmps21
  go_wp2_with fail
  have hI1 := h.below (ext_new w (.cells #[.int .i64 f] 33))
  have d1 : (w.alloc (.cells #[.int .i64 f] 33)).cell? ⟨w.heap.size, 0, none⟩ = some (.int .i64 f) := by simp
  have hE1 := ext_new w (.cells #[.int .i64 f] 33)
  generalize hW1 : w.alloc (.cells #[.int .i64 f] 33) = W1 at *
  have HW1 := Lib.hid hW1
  clear hW1 h
  refine (only_marks f _).mono ?_
  rintro e W0 ⟨rfl, hb0⟩
  have hI0 := hI1.below hb0
  have d0 := cell_later hb0 d1
  have hE0 := ext_trans hE1 hb0
  clear hI1 d1 hE1
  generalize hg : gam f = g
  have HG := Lib.hid hg
  clear hg
  go_wp2_with fail
  refine wp_region_held_drew (S := fun w' => Below W0.heap.size W0 w') (by kernel_rfl) (Below.refl _ _).drew (fun hHeld => ?_)
  refine wpAnyH_take (i := 0) (v := ?_) rfl (by kernel_rfl) (by kernel_rfl) (by kernel_rfl) (fun _ _ _ h => h) (Or.inl ⟨by kernel_rfl, ?_⟩) (by assumption) ?_
  rotate_left
  · intro wx hSx
    go_simp
    try with_reducible rfl
  try simp only [Act.put]
  try simp only [List.setIfInBounds_toArray]
  try simp only [List.set_cons_succ]
  try simp only [List.set_cons_zero]
  refine wpAnyH_take (i := 1) (v := ?_) rfl (by kernel_rfl) (by kernel_rfl) (by kernel_rfl) (fun _ _ _ h => h) (Or.inl ⟨by kernel_rfl, ?_⟩) (by assumption) ?_
  rotate_left
  · intro wx hSx
    have hx0 := cell_later hSx d0
    have hg0 := cell_later hSx hI0.c0
    unfold ErrV at hg0
    go_simp
    try with_reducible rfl
  try simp only [Act.put]
  try simp only [List.setIfInBounds_toArray]
  try simp only [List.set_cons_succ]
  try simp only [List.set_cons_zero]
  refine wpAnyH_take (i := 3) (v := ?_) rfl (by kernel_rfl) (by kernel_rfl) (by kernel_rfl) (fun _ _ _ h => h) (Or.inl ⟨by kernel_rfl, ?_⟩) (by assumption) ?_
  rotate_left
  · intro wx hSx
    have hx0 := cell_later hSx d0
    have hg0 := cell_later hSx hI0.c0
    unfold ErrV at hg0
    go_simp
    try with_reducible rfl
  try simp only [Act.put]
  try simp only [List.setIfInBounds_toArray]
  try simp only [List.set_cons_succ]
  try simp only [List.set_cons_zero]
  refine wpAnyH_ready (rs := [2]) (by kernel_rfl) (by simp) ?_
  refine AllReadyH.cons rfl (fun K hK => ?_) AllReadyH.nil
  go_simp
  refine (isIn_any f 23 _).mono ?_
  rintro e wk1 ⟨rfl, hb1⟩
  try dsimp only
  refine hK.out _ _ (ext_trans hHeld hb1) (fun hHeld => ?_)
  clear hK K
  try simp only [Act.put]
  try simp only [List.setIfInBounds_toArray]
  try simp only [List.set_cons_succ]
  try simp only [List.set_cons_zero]
  refine wpAnyH_ready (rs := [4]) (by kernel_rfl) (by simp) ?_
  refine AllReadyH.cons rfl (fun K hK => ?_) AllReadyH.nil
  go_simp
  refine (must_any _ (A 0) _).mono ?_
  rintro e wk2 ⟨v0, rfl, ⟨x0, y0, rfl, ma0, mb0⟩, hb2⟩
  have hm0 := MustAt.of ma0 mb0
  clear ma0 mb0
  try dsimp only
  refine hK.out _ _ (ext_trans hHeld hb2) (fun hHeld => ?_)
  clear hK K
  try simp only [Act.put]
  try simp only [List.setIfInBounds_toArray]
  try simp only [List.set_cons_succ]
  try simp only [List.set_cons_zero]
  refine wpAnyH_ready (rs := [5]) (by kernel_rfl) (by simp) ?_
  refine AllReadyH.cons rfl (fun K hK => ?_) AllReadyH.nil
  go_simp
  refine hK.out _ _ (ext_alloc hHeld _) (fun hHeld => ?_)
  clear hK K
  try simp only [Act.put]
  try simp only [List.setIfInBounds_toArray]
  try simp only [List.set_cons_succ]
  try simp only [List.set_cons_zero]
  refine wpAnyH_ready (rs := [6]) (by kernel_rfl) (by simp) ?_
  refine AllReadyH.cons rfl (fun K hK => ?_) AllReadyH.nil
  go_simp
  refine ((rules1_new A _ 0 _ _ hm0).mono (fun _ _ h => h.ret)).mono ?_
  rintro e wk3 ⟨rfl, hb3⟩
  try dsimp only
  refine hK.out _ _ (ext_trans hHeld hb3) (fun hHeld => ?_)
  clear hK K
  try simp only [Act.put]
  try simp only [List.setIfInBounds_toArray]
  try simp only [List.set_cons_succ]
  try simp only [List.set_cons_zero]
  refine wpAnyH_ready (rs := [7]) (by kernel_rfl) (by simp) ?_
  refine AllReadyH.cons rfl (fun K hK => ?_) AllReadyH.nil
  go_simp
  rw [HE.out]
  refine ((told_any _ (dnmE f) (dnmE_lt f) _ A (hI0.below hHeld)).mono (fun _ _ h => h.ret)).mono ?_
  rintro e wk4 ⟨rfl, hb4⟩
  try dsimp only
  refine hK.out _ _ (ext_trans hHeld hb4) (fun hHeld => ?_)
  clear hK K
  try simp only [Act.put]
  try simp only [List.setIfInBounds_toArray]
  try simp only [List.set_cons_succ]
  try simp only [List.set_cons_zero]
  refine wpAnyH_take (i := 8) (v := ?_) rfl (by kernel_rfl) (by kernel_rfl) (by kernel_rfl) (fun _ _ _ h => h) (Or.inl ⟨by kernel_rfl, ?_⟩) (by assumption) ?_
  rotate_left
  · intro wx hSx
    go_simp
    try with_reducible rfl
  try simp only [Act.put]
  try simp only [List.setIfInBounds_toArray]
  try simp only [List.set_cons_succ]
  try simp only [List.set_cons_zero]
  refine wpAnyH_take (i := 9) (v := ?_) rfl (by kernel_rfl) (by kernel_rfl) (by kernel_rfl) (fun _ _ _ h => h) (Or.inl ⟨by kernel_rfl, ?_⟩) (by assumption) ?_
  rotate_left
  · intro wx hSx
    go_simp
    try with_reducible rfl
  try simp only [Act.put]
  try simp only [List.setIfInBounds_toArray]
  try simp only [List.set_cons_succ]
  try simp only [List.set_cons_zero]
  refine wpAnyH_take (i := 10) (v := ?_) rfl (by kernel_rfl) (by kernel_rfl) (by kernel_rfl) (fun _ _ _ h => h) (Or.inl ⟨by kernel_rfl, ?_⟩) (by assumption) ?_
  rotate_left
  · intro wx hSx
    go_simp
    try with_reducible rfl
  try simp only [Act.put]
  try simp only [List.setIfInBounds_toArray]
  try simp only [List.set_cons_succ]
  try simp only [List.set_cons_zero]
  refine wpAnyH_take (i := 11) (v := ?_) rfl (by kernel_rfl) (by kernel_rfl) (by kernel_rfl) (fun _ _ _ h => h) (Or.inl ⟨by kernel_rfl, ?_⟩) (by assumption) ?_
  rotate_left
  · intro wx hSx
    go_simp
    try with_reducible rfl
  try simp only [Act.put]
  try simp only [List.setIfInBounds_toArray]
  try simp only [List.set_cons_succ]
  try simp only [List.set_cons_zero]
  refine wpAnyH_done (by kernel_rfl) ?_ _
  go_wp2_with fail
  rename_i dst1 d1 heq1 dst2 d2 heq2
  cases heq1
  cases heq2
  go_ret2
  exact ⟨by first | rfl | simp [HG.out], ext_trans hE0 hHeld⟩

end Go.Proofs.YtinflolpcemnhaaDoor
