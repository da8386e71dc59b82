/-
  Package signs: the walk of Up. Conditions: as the theorems' own hypotheses say.
-/
import Derived.Test.YtinflolpcemnhaaDoorSignsR
namespace Go.Proofs.YtinflolpcemnhaaDoor
open Go.RowKit

/-- Up's answer. -/
def upE (f : Int) : Option Nat := firstIx [(sixB f, 0), (!(bits .and .i64 f 32768 != 0), 2), (bits .and .i64 f 16 != 0, 3)]
def gat (f : Int) : Int := gath (flagsOf f 475175 19)
def upV (f : Int) : Int := if bits .and .i64 f 475136 != 0 then bits .or .i64 (gat f) 64 else gat f
theorem upE_lt (f : Int) (k : Nat) (h : upE f = some k) : k < 8 := by
  unfold upE at h
  revert h
  generalize sixB f = a
  generalize (!(bits .and .i64 f 32768 != 0)) = b
  generalize (bits .and .i64 f 16 != 0) = c
  cases a <;> cases b <;> cases c <;> (intro h; cases h; try decide)
theorem only_both (f : Int) (w : World) : Calls Tryd.prog 29 #[.agg #[.int .i64 f], .int .i64 475175] w (Ret (.int .i64 (gat f)) w) :=
  only_any f 475175 19 (by decide) (by decide) (by decide) w

theorem Up_any (f : Int) (w : World) (A : Nat → Addr) (h : GInv w A) (hf2 : f ≤ 9223372036854775807) :
    Calls Tryd.prog 10 #[.int .i64 f] w (Ret (.tuple #[.int .i64 (toldV (upV f) (upE f)), .int .i64 (codeIx (upE f))]) w) := by
  have HE := Lib.hid (show firstIx [(sixB f, 0), (!(bits .and .i64 f 32768 != 0), 2), (bits .and .i64 f 16 != 0, 3)] = upE f from rfl)
  go_enter Tryd.func10, Tryd.ntmps10
  go_wp2_with fail
  have hI0 := h.below (ext_new w (.cells #[.int .i64 f] 33))
  have d0 : (w.alloc (.cells #[.int .i64 f] 33)).cell? ⟨w.heap.size, 0, none⟩ = some (.int .i64 f) := by simp
  have hE0 := ext_new w (.cells #[.int .i64 f] 33)
  generalize hW0 : w.alloc (.cells #[.int .i64 f] 33) = W0 at *
  have HW0 := Lib.hid hW0
  clear hW0 h
  refine wp_region_held_drew (S := fun w' => Below W0.heap.size W0 w') (by kernel_rfl) (Below.refl _ _).drew (fun hHeld => ?_)
  refine wpAnyH_take (i := 0) (v := ?_) rfl (by kernel_rfl) (by kernel_rfl) (by kernel_rfl) (fun _ _ _ h => h) (Or.inl ⟨by kernel_rfl, ?_⟩) (by assumption) ?_
  rotate_left
  · intro wx hSx
    have hx0 := cell_later hSx d0
    have hg2 := cell_later hSx hI0.c2
    unfold ErrV at hg2
    have hg3 := cell_later hSx hI0.c3
    unfold ErrV at hg3
    go_simp
    try with_reducible rfl
  try simp only [Act.put]
  try simp only [List.setIfInBounds_toArray]
  try simp only [List.set_cons_succ]
  try simp only [List.set_cons_zero]
  refine wpAnyH_take (i := 2) (v := ?_) rfl (by kernel_rfl) (by kernel_rfl) (by kernel_rfl) (fun _ _ _ h => h) (Or.inl ⟨by kernel_rfl, ?_⟩) (by assumption) ?_
  rotate_left
  · intro wx hSx
    have hx0 := cell_later hSx d0
    have hg2 := cell_later hSx hI0.c2
    unfold ErrV at hg2
    have hg3 := cell_later hSx hI0.c3
    unfold ErrV at hg3
    go_simp
    try with_reducible rfl
  try simp only [Act.put]
  try simp only [List.setIfInBounds_toArray]
  try simp only [List.set_cons_succ]
  try simp only [List.set_cons_zero]
  refine wpAnyH_take (i := 5) (v := ?_) rfl (by kernel_rfl) (by kernel_rfl) (by kernel_rfl) (fun _ _ _ h => h) (Or.inl ⟨by kernel_rfl, ?_⟩) (by assumption) ?_
  rotate_left
  · intro wx hSx
    have hx0 := cell_later hSx d0
    have hg2 := cell_later hSx hI0.c2
    unfold ErrV at hg2
    have hg3 := cell_later hSx hI0.c3
    unfold ErrV at hg3
    go_simp
    try with_reducible rfl
  try simp only [Act.put]
  try simp only [List.setIfInBounds_toArray]
  try simp only [List.set_cons_succ]
  try simp only [List.set_cons_zero]
  refine wpAnyH_take (i := 7) (v := ?_) rfl (by kernel_rfl) (by kernel_rfl) (by kernel_rfl) (fun _ _ _ h => h) (Or.inl ⟨by kernel_rfl, ?_⟩) (by assumption) ?_
  rotate_left
  · intro wx hSx
    have hx0 := cell_later hSx d0
    have hg2 := cell_later hSx hI0.c2
    unfold ErrV at hg2
    have hg3 := cell_later hSx hI0.c3
    unfold ErrV at hg3
    go_simp
    try with_reducible rfl
  try simp only [Act.put]
  try simp only [List.setIfInBounds_toArray]
  try simp only [List.set_cons_succ]
  try simp only [List.set_cons_zero]
  refine wpAnyH_take (i := 9) (v := ?_) rfl (by kernel_rfl) (by kernel_rfl) (by kernel_rfl) (fun _ _ _ h => h) (Or.inl ⟨by kernel_rfl, ?_⟩) (by assumption) ?_
  rotate_left
  · intro wx hSx
    have hx0 := cell_later hSx d0
    have hg2 := cell_later hSx hI0.c2
    unfold ErrV at hg2
    have hg3 := cell_later hSx hI0.c3
    unfold ErrV at hg3
    go_simp
    try with_reducible rfl
  try simp only [Act.put]
  try simp only [List.setIfInBounds_toArray]
  try simp only [List.set_cons_succ]
  try simp only [List.set_cons_zero]
  refine wpAnyH_ready (rs := [1]) (by kernel_rfl) (by simp) ?_
  refine AllReadyH.cons rfl (fun K hK => ?_) AllReadyH.nil
  go_simp
  refine (isSix_any f _ A (hI0.below hHeld) hf2).mono ?_
  rintro e wk1 ⟨v0, rfl, ⟨x0, y0, rfl, ma0, mb0⟩, hb1⟩
  have hm0 := MustAt.of ma0 mb0
  clear ma0 mb0
  try dsimp only
  refine hK.out _ _ (ext_trans hHeld hb1) (fun hHeld => ?_)
  clear hK K
  try simp only [Act.put]
  try simp only [List.setIfInBounds_toArray]
  try simp only [List.set_cons_succ]
  try simp only [List.set_cons_zero]
  refine wpAnyH_ready (rs := [3]) (by kernel_rfl) (by simp) ?_
  refine AllReadyH.cons rfl (fun K hK => ?_) AllReadyH.nil
  go_simp
  refine (has_any f 32768 _).mono ?_
  rintro e wk2 ⟨rfl, hb2⟩
  have hm0 := MustAt.below hm0 hb2
  try dsimp only
  refine hK.out _ _ (ext_trans hHeld hb2) (fun hHeld => ?_)
  clear hK K
  try simp only [Act.put]
  try simp only [List.setIfInBounds_toArray]
  try simp only [List.set_cons_succ]
  try simp only [List.set_cons_zero]
  refine wpAnyH_take (i := 4) (v := ?_) rfl (by kernel_rfl) (by kernel_rfl) (by kernel_rfl) (fun _ _ _ h => h) (Or.inl ⟨by kernel_rfl, ?_⟩) (by assumption) ?_
  rotate_left
  · intro wx hSx
    go_simp
    try with_reducible rfl
  try simp only [Act.put]
  try simp only [List.setIfInBounds_toArray]
  try simp only [List.set_cons_succ]
  try simp only [List.set_cons_zero]
  refine wpAnyH_ready (rs := [6]) (by kernel_rfl) (by simp) ?_
  refine AllReadyH.cons rfl (fun K hK => ?_) AllReadyH.nil
  go_simp
  refine (must_any _ (A 2) _).mono ?_
  rintro e wk3 ⟨v1, rfl, ⟨x1, y1, rfl, ma1, mb1⟩, hb3⟩
  have hm1 := MustAt.of ma1 mb1
  clear ma1 mb1
  have hm0 := MustAt.below hm0 hb3
  try dsimp only
  refine hK.out _ _ (ext_trans hHeld hb3) (fun hHeld => ?_)
  clear hK K
  try simp only [Act.put]
  try simp only [List.setIfInBounds_toArray]
  try simp only [List.set_cons_succ]
  try simp only [List.set_cons_zero]
  refine wpAnyH_ready (rs := [8]) (by kernel_rfl) (by simp) ?_
  refine AllReadyH.cons rfl (fun K hK => ?_) AllReadyH.nil
  go_simp
  refine (has_any f 16 _).mono ?_
  rintro e wk4 ⟨rfl, hb4⟩
  have hm0 := MustAt.below hm0 hb4
  have hm1 := MustAt.below hm1 hb4
  try dsimp only
  refine hK.out _ _ (ext_trans hHeld hb4) (fun hHeld => ?_)
  clear hK K
  try simp only [Act.put]
  try simp only [List.setIfInBounds_toArray]
  try simp only [List.set_cons_succ]
  try simp only [List.set_cons_zero]
  refine wpAnyH_ready (rs := [10]) (by kernel_rfl) (by simp) ?_
  refine AllReadyH.cons rfl (fun K hK => ?_) AllReadyH.nil
  go_simp
  refine (must_any _ (A 3) _).mono ?_
  rintro e wk5 ⟨v2, rfl, ⟨x2, y2, rfl, ma2, mb2⟩, hb5⟩
  have hm2 := MustAt.of ma2 mb2
  clear ma2 mb2
  have hm0 := MustAt.below hm0 hb5
  have hm1 := MustAt.below hm1 hb5
  try dsimp only
  refine hK.out _ _ (ext_trans hHeld hb5) (fun hHeld => ?_)
  clear hK K
  try simp only [Act.put]
  try simp only [List.setIfInBounds_toArray]
  try simp only [List.set_cons_succ]
  try simp only [List.set_cons_zero]
  refine wpAnyH_ready (rs := [11]) (by kernel_rfl) (by simp) ?_
  refine AllReadyH.cons rfl (fun K hK => ?_) AllReadyH.nil
  go_simp
  refine hK.out _ _ (ext_alloc hHeld _) (fun hHeld => ?_)
  clear hK K
  try simp only [Act.put]
  try simp only [List.setIfInBounds_toArray]
  try simp only [List.set_cons_succ]
  try simp only [List.set_cons_zero]
  refine wpAnyH_ready (rs := [12]) (by kernel_rfl) (by simp) ?_
  refine AllReadyH.cons rfl (fun K hK => ?_) AllReadyH.nil
  go_simp
  refine ((rules3_new A _ _ _ 0 2 3 _ _ _ _ hm0 hm1 hm2).mono (fun _ _ h => h.ret)).mono ?_
  rintro e wk6 ⟨rfl, hb6⟩
  try dsimp only
  refine hK.out _ _ (ext_trans hHeld hb6) (fun hHeld => ?_)
  clear hK K
  try simp only [Act.put]
  try simp only [List.setIfInBounds_toArray]
  try simp only [List.set_cons_succ]
  try simp only [List.set_cons_zero]
  refine wpAnyH_take (i := 13) (v := ?_) rfl (by kernel_rfl) (by kernel_rfl) (by kernel_rfl) (fun _ _ _ h => h) (Or.inl ⟨by kernel_rfl, ?_⟩) (by assumption) ?_
  rotate_left
  · intro wx hSx
    go_simp
    try with_reducible rfl
  try simp only [Act.put]
  try simp only [List.setIfInBounds_toArray]
  try simp only [List.set_cons_succ]
  try simp only [List.set_cons_zero]
  refine wpAnyH_done (by kernel_rfl) ?_ _
  rw [HE.out]
  have dX := cell_later hHeld d0
  go_wp2_with fail
  refine (only_both f _).mono ?_
  rintro e w7 ⟨rfl, hb7⟩
  have dY := cell_later hb7 dX
  have hH2 := ext_trans hHeld hb7
  go_wp2_with fail
  refine (has_any f 475136 _).mono ?_
  rintro e w8 ⟨rfl, hb8⟩
  have hH3 := ext_trans hH2 hb8
  rcases bool_cases (bits .and .i64 f 475136 != 0) with hc | hc
  · have HV := Lib.hid (show upV f = gat f by rw [upV, if_neg (by rw [hc]; decide)])
    rw [hc]
    clear hc
    generalize gat f = g at HV
    go_wp2_with fail
    refine (told_any _ (upE f) (upE_lt f) _ A (hI0.below hH3)).mono ?_
    rintro e w9 ⟨rfl, rfl⟩
    go_wp2_with fail
    go_ret2
    exact ⟨by rw [HV.out]; rfl, ext_trans hE0 hH3⟩
  · have HV := Lib.hid (show upV f = bits .or .i64 (gat f) 64 by rw [upV, if_pos hc])
    rw [hc]
    clear hc
    generalize gat f = g at HV
    go_wp2_with fail
    refine (told_any _ (upE f) (upE_lt f) _ A (hI0.below hH3)).mono ?_
    rintro e w9 ⟨rfl, rfl⟩
    go_wp2_with fail
    go_ret2
    exact ⟨by rw [HV.out]; rfl, ext_trans hE0 hH3⟩

end Go.Proofs.YtinflolpcemnhaaDoor
