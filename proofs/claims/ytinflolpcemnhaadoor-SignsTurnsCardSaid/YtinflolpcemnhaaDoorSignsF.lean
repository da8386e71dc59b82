/-
  Package signs: the walk of Down. Conditions: as the theorems' own hypotheses say.
-/
import Derived.Test.YtinflolpcemnhaaDoorSignsE
namespace Go.Proofs.YtinflolpcemnhaaDoor
open Go.RowKit

def dnE (f p : Int) : Option Nat := firstIx [(isInB f 475239 && decide (0 ≤ p) && decide (p ≤ 2), 0), ((bits .and .i64 f 64 != 0) == (bits .and .i64 f 475136 != 0), 4)]
def dnV (f p : Int) : Bool → Int
  | false => bits .or .i64 (bits .or .i64 (gat f) 16) (wrap64 (p * 128))
  | true => bits .or .i64 (bits .or .i64 (bits .or .i64 (gat f) 16) (wrap64 (p * 128))) 8
theorem dnE_lt (f p : Int) (k : Nat) (h : dnE f p = some k) : k < 8 := by
  unfold dnE at h
  revert h
  generalize (isInB f 475239 && decide (0 ≤ p) && decide (p ≤ 2)) = z0
  generalize ((bits .and .i64 f 64 != 0) == (bits .and .i64 f 475136 != 0)) = z1
  cases z0 <;> cases z1 <;> (intro h; cases h; try decide)

set_option maxHeartbeats 1000000 in
theorem Down_0 (f p : Int) (cu : Bool) (w : World) (A : Nat → Addr) (h : GInv w A) (hi : isInB f 475239 = false) :
    Calls Tryd.prog 11 #[.int .i64 f, .int .i64 p, .bool cu] w (Ret (.tuple #[.int .i64 (toldV (dnV f p cu) (dnE f p)), .int .i64 (codeIx (dnE f p))]) w) := by
  have HE := Lib.hid (show firstIx [(false, 0), ((bits .and .i64 f 64 != 0) == (bits .and .i64 f 475136 != 0), 4)] = dnE f p by rw [dnE, hi]; rfl)
  have HI := Lib.hid hi
  clear hi
  go_enter Tryd.func11, Tryd.ntmps11
  go_wp2_with fail
  have hI0 := h.below (ext_new w (.cells #[.int .i64 f] 33))
  have d0 : (w.alloc (.cells #[.int .i64 f] 33)).cell? ⟨w.heap.size, 0, none⟩ = some (.int .i64 f) := by simp
  have hE0 := ext_new w (.cells #[.int .i64 f] 33)
  generalize hW0 : w.alloc (.cells #[.int .i64 f] 33) = W0 at *
  have HW0 := Lib.hid hW0
  clear hW0 h
  refine wp_region_held_drew (S := fun w' => Below W0.heap.size W0 w') (by kernel_rfl) (Below.refl _ _).drew (fun hHeld => ?_)
  refine wpAnyH_take (i := 0) (v := ?_) rfl (by kernel_rfl) (by kernel_rfl) (by kernel_rfl) (fun _ _ _ h => h) (Or.inl ⟨by kernel_rfl, ?_⟩) (by assumption) ?_
  rotate_left
  · intro wx hSx
    have hx0 := cell_later hSx d0
    have hg0 := cell_later hSx hI0.c0
    unfold ErrV at hg0
    have hg4 := cell_later hSx hI0.c4
    unfold ErrV at hg4
    go_simp
    try with_reducible rfl
  try simp only [Act.put]
  try simp only [List.setIfInBounds_toArray]
  try simp only [List.set_cons_succ]
  try simp only [List.set_cons_zero]
  refine wpAnyH_take (i := 10) (v := ?_) rfl (by kernel_rfl) (by kernel_rfl) (by kernel_rfl) (fun _ _ _ h => h) (Or.inl ⟨by kernel_rfl, ?_⟩) (by assumption) ?_
  rotate_left
  · intro wx hSx
    have hx0 := cell_later hSx d0
    have hg0 := cell_later hSx hI0.c0
    unfold ErrV at hg0
    have hg4 := cell_later hSx hI0.c4
    unfold ErrV at hg4
    go_simp
    try with_reducible rfl
  try simp only [Act.put]
  try simp only [List.setIfInBounds_toArray]
  try simp only [List.set_cons_succ]
  try simp only [List.set_cons_zero]
  refine wpAnyH_take (i := 12) (v := ?_) rfl (by kernel_rfl) (by kernel_rfl) (by kernel_rfl) (fun _ _ _ h => h) (Or.inl ⟨by kernel_rfl, ?_⟩) (by assumption) ?_
  rotate_left
  · intro wx hSx
    have hx0 := cell_later hSx d0
    have hg0 := cell_later hSx hI0.c0
    unfold ErrV at hg0
    have hg4 := cell_later hSx hI0.c4
    unfold ErrV at hg4
    go_simp
    try with_reducible rfl
  try simp only [Act.put]
  try simp only [List.setIfInBounds_toArray]
  try simp only [List.set_cons_succ]
  try simp only [List.set_cons_zero]
  refine wpAnyH_take (i := 14) (v := ?_) rfl (by kernel_rfl) (by kernel_rfl) (by kernel_rfl) (fun _ _ _ h => h) (Or.inl ⟨by kernel_rfl, ?_⟩) (by assumption) ?_
  rotate_left
  · intro wx hSx
    have hx0 := cell_later hSx d0
    have hg0 := cell_later hSx hI0.c0
    unfold ErrV at hg0
    have hg4 := cell_later hSx hI0.c4
    unfold ErrV at hg4
    go_simp
    try with_reducible rfl
  try simp only [Act.put]
  try simp only [List.setIfInBounds_toArray]
  try simp only [List.set_cons_succ]
  try simp only [List.set_cons_zero]
  refine wpAnyH_take (i := 17) (v := ?_) rfl (by kernel_rfl) (by kernel_rfl) (by kernel_rfl) (fun _ _ _ h => h) (Or.inl ⟨by kernel_rfl, ?_⟩) (by assumption) ?_
  rotate_left
  · intro wx hSx
    have hx0 := cell_later hSx d0
    have hg0 := cell_later hSx hI0.c0
    unfold ErrV at hg0
    have hg4 := cell_later hSx hI0.c4
    unfold ErrV at hg4
    go_simp
    try with_reducible rfl
  try simp only [Act.put]
  try simp only [List.setIfInBounds_toArray]
  try simp only [List.set_cons_succ]
  try simp only [List.set_cons_zero]
  refine wpAnyH_ready (rs := [1]) (by kernel_rfl) (by simp) ?_
  refine AllReadyH.cons rfl (fun K hK => ?_) AllReadyH.nil
  go_simp
  refine (isIn_any f 475239 _).mono ?_
  rintro e wk1 ⟨rfl, hb1⟩
  rw [HI.out]
  try dsimp only
  refine hK.out _ _ (ext_trans hHeld hb1) (fun hHeld => ?_)
  clear hK K
  try simp only [Act.put]
  try simp only [List.setIfInBounds_toArray]
  try simp only [List.set_cons_succ]
  try simp only [List.set_cons_zero]
  refine wpAnyH_take (i := 2) (v := ?_) rfl (by kernel_rfl) (by kernel_rfl) (by kernel_rfl) (fun _ _ _ h => h) (Or.inl ⟨by kernel_rfl, ?_⟩) (by assumption) ?_
  rotate_left
  · intro wx hSx
    go_simp
    try with_reducible rfl
  try simp only [Act.put]
  try simp only [List.setIfInBounds_toArray]
  try simp only [List.set_cons_succ]
  try simp only [List.set_cons_zero]
  refine wpAnyH_take (i := 3) (v := undef) rfl (by kernel_rfl) (by kernel_rfl) (by kernel_rfl) (fun _ _ _ h => h) (Or.inr ⟨by kernel_rfl, rfl⟩) (by assumption) ?_
  try simp only [Act.put]
  try simp only [List.setIfInBounds_toArray]
  try simp only [List.set_cons_succ]
  try simp only [List.set_cons_zero]
  refine wpAnyH_take (i := 4) (v := undef) rfl (by kernel_rfl) (by kernel_rfl) (by kernel_rfl) (fun _ _ _ h => h) (Or.inr ⟨by kernel_rfl, rfl⟩) (by assumption) ?_
  try simp only [Act.put]
  try simp only [List.setIfInBounds_toArray]
  try simp only [List.set_cons_succ]
  try simp only [List.set_cons_zero]
  refine wpAnyH_take (i := 5) (v := ?_) rfl (by kernel_rfl) (by kernel_rfl) (by kernel_rfl) (fun _ _ _ h => h) (Or.inl ⟨by kernel_rfl, ?_⟩) (by assumption) ?_
  rotate_left
  · intro wx hSx
    go_simp
    try with_reducible rfl
  try simp only [Act.put]
  try simp only [List.setIfInBounds_toArray]
  try simp only [List.set_cons_succ]
  try simp only [List.set_cons_zero]
  refine wpAnyH_take (i := 6) (v := ?_) rfl (by kernel_rfl) (by kernel_rfl) (by kernel_rfl) (fun _ _ _ h => h) (Or.inl ⟨by kernel_rfl, ?_⟩) (by assumption) ?_
  rotate_left
  · intro wx hSx
    go_simp
    try with_reducible rfl
  try simp only [Act.put]
  try simp only [List.setIfInBounds_toArray]
  try simp only [List.set_cons_succ]
  try simp only [List.set_cons_zero]
  refine wpAnyH_take (i := 7) (v := undef) rfl (by kernel_rfl) (by kernel_rfl) (by kernel_rfl) (fun _ _ _ h => h) (Or.inr ⟨by kernel_rfl, rfl⟩) (by assumption) ?_
  try simp only [Act.put]
  try simp only [List.setIfInBounds_toArray]
  try simp only [List.set_cons_succ]
  try simp only [List.set_cons_zero]
  refine wpAnyH_take (i := 8) (v := undef) rfl (by kernel_rfl) (by kernel_rfl) (by kernel_rfl) (fun _ _ _ h => h) (Or.inr ⟨by kernel_rfl, rfl⟩) (by assumption) ?_
  try simp only [Act.put]
  try simp only [List.setIfInBounds_toArray]
  try simp only [List.set_cons_succ]
  try simp only [List.set_cons_zero]
  refine wpAnyH_take (i := 9) (v := ?_) rfl (by kernel_rfl) (by kernel_rfl) (by kernel_rfl) (fun _ _ _ h => h) (Or.inl ⟨by kernel_rfl, ?_⟩) (by assumption) ?_
  rotate_left
  · intro wx hSx
    go_simp
    try with_reducible rfl
  try simp only [Act.put]
  try simp only [List.setIfInBounds_toArray]
  try simp only [List.set_cons_succ]
  try simp only [List.set_cons_zero]
  refine wpAnyH_ready (rs := [11]) (by kernel_rfl) (by simp) ?_
  refine AllReadyH.cons rfl (fun K hK => ?_) AllReadyH.nil
  go_simp
  refine (must_any _ (A 0) _).mono ?_
  rintro e wk2 ⟨v0, rfl, ⟨x0, y0, rfl, ma0, mb0⟩, hb2⟩
  have hm0 := MustAt.of ma0 mb0
  clear ma0 mb0
  try dsimp only
  refine hK.out _ _ (ext_trans hHeld hb2) (fun hHeld => ?_)
  clear hK K
  try simp only [Act.put]
  try simp only [List.setIfInBounds_toArray]
  try simp only [List.set_cons_succ]
  try simp only [List.set_cons_zero]
  refine wpAnyH_ready (rs := [13]) (by kernel_rfl) (by simp) ?_
  refine AllReadyH.cons rfl (fun K hK => ?_) AllReadyH.nil
  go_simp
  refine (has_any f 64 _).mono ?_
  rintro e wk3 ⟨rfl, hb3⟩
  have hm0 := MustAt.below hm0 hb3
  try dsimp only
  refine hK.out _ _ (ext_trans hHeld hb3) (fun hHeld => ?_)
  clear hK K
  try simp only [Act.put]
  try simp only [List.setIfInBounds_toArray]
  try simp only [List.set_cons_succ]
  try simp only [List.set_cons_zero]
  refine wpAnyH_ready (rs := [15]) (by kernel_rfl) (by simp) ?_
  refine AllReadyH.cons rfl (fun K hK => ?_) AllReadyH.nil
  go_simp
  refine (has_any f 475136 _).mono ?_
  rintro e wk4 ⟨rfl, hb4⟩
  have hm0 := MustAt.below hm0 hb4
  try dsimp only
  refine hK.out _ _ (ext_trans hHeld hb4) (fun hHeld => ?_)
  clear hK K
  try simp only [Act.put]
  try simp only [List.setIfInBounds_toArray]
  try simp only [List.set_cons_succ]
  try simp only [List.set_cons_zero]
  refine wpAnyH_take (i := 16) (v := ?_) rfl (by kernel_rfl) (by kernel_rfl) (by kernel_rfl) (fun _ _ _ h => h) (Or.inl ⟨by kernel_rfl, ?_⟩) (by assumption) ?_
  rotate_left
  · intro wx hSx
    go_simp
    try with_reducible rfl
  try simp only [Act.put]
  try simp only [List.setIfInBounds_toArray]
  try simp only [List.set_cons_succ]
  try simp only [List.set_cons_zero]
  refine wpAnyH_ready (rs := [18]) (by kernel_rfl) (by simp) ?_
  refine AllReadyH.cons rfl (fun K hK => ?_) AllReadyH.nil
  go_simp
  refine (must_any _ (A 4) _).mono ?_
  rintro e wk5 ⟨v1, rfl, ⟨x1, y1, rfl, ma1, mb1⟩, hb5⟩
  have hm1 := MustAt.of ma1 mb1
  clear ma1 mb1
  have hm0 := MustAt.below hm0 hb5
  try dsimp only
  refine hK.out _ _ (ext_trans hHeld hb5) (fun hHeld => ?_)
  clear hK K
  try simp only [Act.put]
  try simp only [List.setIfInBounds_toArray]
  try simp only [List.set_cons_succ]
  try simp only [List.set_cons_zero]
  refine wpAnyH_ready (rs := [19]) (by kernel_rfl) (by simp) ?_
  refine AllReadyH.cons rfl (fun K hK => ?_) AllReadyH.nil
  go_simp
  refine hK.out _ _ (ext_alloc hHeld _) (fun hHeld => ?_)
  clear hK K
  try simp only [Act.put]
  try simp only [List.setIfInBounds_toArray]
  try simp only [List.set_cons_succ]
  try simp only [List.set_cons_zero]
  refine wpAnyH_ready (rs := [20]) (by kernel_rfl) (by simp) ?_
  refine AllReadyH.cons rfl (fun K hK => ?_) AllReadyH.nil
  go_simp
  refine ((rules2_new A _ _ 0 4 _ _ _ hm0 hm1).mono (fun _ _ h => h.ret)).mono ?_
  rintro e wk6 ⟨rfl, hb6⟩
  try dsimp only
  refine hK.out _ _ (ext_trans hHeld hb6) (fun hHeld => ?_)
  clear hK K
  try simp only [Act.put]
  try simp only [List.setIfInBounds_toArray]
  try simp only [List.set_cons_succ]
  try simp only [List.set_cons_zero]
  refine wpAnyH_take (i := 21) (v := ?_) rfl (by kernel_rfl) (by kernel_rfl) (by kernel_rfl) (fun _ _ _ h => h) (Or.inl ⟨by kernel_rfl, ?_⟩) (by assumption) ?_
  rotate_left
  · intro wx hSx
    go_simp
    try with_reducible rfl
  try simp only [Act.put]
  try simp only [List.setIfInBounds_toArray]
  try simp only [List.set_cons_succ]
  try simp only [List.set_cons_zero]
  refine wpAnyH_done (by kernel_rfl) ?_ _
  rw [HE.out]
  have dX := cell_later hHeld d0
  go_wp2_with fail
  refine (only_both f _).mono ?_
  rintro e w7 ⟨rfl, hb7⟩
  have hH2 := ext_trans hHeld hb7
  have HV0 := Lib.hid (show dnV f p false = bits .or .i64 (bits .or .i64 (gat f) 16) (wrap64 (p * 128)) from rfl)
  have HV1 := Lib.hid (show dnV f p true = bits .or .i64 (bits .or .i64 (bits .or .i64 (gat f) 16) (wrap64 (p * 128))) 8 from rfl)
  generalize gat f = g at HV0 HV1
  cases cu
  · go_wp2_with fail
    refine (told_any _ (dnE f p) (dnE_lt f p) _ A (hI0.below hH2)).mono ?_
    rintro e w9 ⟨rfl, rfl⟩
    go_wp2_with fail
    go_ret2
    exact ⟨by rw [HV0.out]; rfl, ext_trans hE0 hH2⟩
  · go_wp2_with fail
    refine (told_any _ (dnE f p) (dnE_lt f p) _ A (hI0.below hH2)).mono ?_
    rintro e w9 ⟨rfl, rfl⟩
    go_wp2_with fail
    go_ret2
    exact ⟨by rw [HV1.out]; rfl, ext_trans hE0 hH2⟩

set_option maxHeartbeats 1000000 in
theorem Down_1 (f p : Int) (cu : Bool) (w : World) (A : Nat → Addr) (h : GInv w A) (hi : isInB f 475239 = true) (hp : p < 0) :
    Calls Tryd.prog 11 #[.int .i64 f, .int .i64 p, .bool cu] w (Ret (.tuple #[.int .i64 (toldV (dnV f p cu) (dnE f p)), .int .i64 (codeIx (dnE f p))]) w) := by
  have HE := Lib.hid (show firstIx [(false, 0), ((bits .and .i64 f 64 != 0) == (bits .and .i64 f 475136 != 0), 4)] = dnE f p by rw [dnE, hi, decide_eq_false (show ¬ 0 ≤ p by omega)]; rfl)
  have HI := Lib.hid hi
  clear hi
  have hpd : decide (0 ≤ p) = false := by simp; omega
  go_enter Tryd.func11, Tryd.ntmps11
  go_wp2_with fail
  have hI0 := h.below (ext_new w (.cells #[.int .i64 f] 33))
  have d0 : (w.alloc (.cells #[.int .i64 f] 33)).cell? ⟨w.heap.size, 0, none⟩ = some (.int .i64 f) := by simp
  have hE0 := ext_new w (.cells #[.int .i64 f] 33)
  generalize hW0 : w.alloc (.cells #[.int .i64 f] 33) = W0 at *
  have HW0 := Lib.hid hW0
  clear hW0 h
  refine wp_region_held_drew (S := fun w' => Below W0.heap.size W0 w') (by kernel_rfl) (Below.refl _ _).drew (fun hHeld => ?_)
  refine wpAnyH_take (i := 0) (v := ?_) rfl (by kernel_rfl) (by kernel_rfl) (by kernel_rfl) (fun _ _ _ h => h) (Or.inl ⟨by kernel_rfl, ?_⟩) (by assumption) ?_
  rotate_left
  · intro wx hSx
    have hx0 := cell_later hSx d0
    have hg0 := cell_later hSx hI0.c0
    unfold ErrV at hg0
    have hg4 := cell_later hSx hI0.c4
    unfold ErrV at hg4
    go_simp
    try with_reducible rfl
  try simp only [Act.put]
  try simp only [List.setIfInBounds_toArray]
  try simp only [List.set_cons_succ]
  try simp only [List.set_cons_zero]
  refine wpAnyH_take (i := 10) (v := ?_) rfl (by kernel_rfl) (by kernel_rfl) (by kernel_rfl) (fun _ _ _ h => h) (Or.inl ⟨by kernel_rfl, ?_⟩) (by assumption) ?_
  rotate_left
  · intro wx hSx
    have hx0 := cell_later hSx d0
    have hg0 := cell_later hSx hI0.c0
    unfold ErrV at hg0
    have hg4 := cell_later hSx hI0.c4
    unfold ErrV at hg4
    go_simp
    try with_reducible rfl
  try simp only [Act.put]
  try simp only [List.setIfInBounds_toArray]
  try simp only [List.set_cons_succ]
  try simp only [List.set_cons_zero]
  refine wpAnyH_take (i := 12) (v := ?_) rfl (by kernel_rfl) (by kernel_rfl) (by kernel_rfl) (fun _ _ _ h => h) (Or.inl ⟨by kernel_rfl, ?_⟩) (by assumption) ?_
  rotate_left
  · intro wx hSx
    have hx0 := cell_later hSx d0
    have hg0 := cell_later hSx hI0.c0
    unfold ErrV at hg0
    have hg4 := cell_later hSx hI0.c4
    unfold ErrV at hg4
    go_simp
    try with_reducible rfl
  try simp only [Act.put]
  try simp only [List.setIfInBounds_toArray]
  try simp only [List.set_cons_succ]
  try simp only [List.set_cons_zero]
  refine wpAnyH_take (i := 14) (v := ?_) rfl (by kernel_rfl) (by kernel_rfl) (by kernel_rfl) (fun _ _ _ h => h) (Or.inl ⟨by kernel_rfl, ?_⟩) (by assumption) ?_
  rotate_left
  · intro wx hSx
    have hx0 := cell_later hSx d0
    have hg0 := cell_later hSx hI0.c0
    unfold ErrV at hg0
    have hg4 := cell_later hSx hI0.c4
    unfold ErrV at hg4
    go_simp
    try with_reducible rfl
  try simp only [Act.put]
  try simp only [List.setIfInBounds_toArray]
  try simp only [List.set_cons_succ]
  try simp only [List.set_cons_zero]
  refine wpAnyH_take (i := 17) (v := ?_) rfl (by kernel_rfl) (by kernel_rfl) (by kernel_rfl) (fun _ _ _ h => h) (Or.inl ⟨by kernel_rfl, ?_⟩) (by assumption) ?_
  rotate_left
  · intro wx hSx
    have hx0 := cell_later hSx d0
    have hg0 := cell_later hSx hI0.c0
    unfold ErrV at hg0
    have hg4 := cell_later hSx hI0.c4
    unfold ErrV at hg4
    go_simp
    try with_reducible rfl
  try simp only [Act.put]
  try simp only [List.setIfInBounds_toArray]
  try simp only [List.set_cons_succ]
  try simp only [List.set_cons_zero]
  refine wpAnyH_ready (rs := [1]) (by kernel_rfl) (by simp) ?_
  refine AllReadyH.cons rfl (fun K hK => ?_) AllReadyH.nil
  go_simp
  refine (isIn_any f 475239 _).mono ?_
  rintro e wk1 ⟨rfl, hb1⟩
  rw [HI.out]
  try dsimp only
  refine hK.out _ _ (ext_trans hHeld hb1) (fun hHeld => ?_)
  clear hK K
  try simp only [Act.put]
  try simp only [List.setIfInBounds_toArray]
  try simp only [List.set_cons_succ]
  try simp only [List.set_cons_zero]
  refine wpAnyH_take (i := 2) (v := ?_) rfl (by kernel_rfl) (by kernel_rfl) (by kernel_rfl) (fun _ _ _ h => h) (Or.inl ⟨by kernel_rfl, ?_⟩) (by assumption) ?_
  rotate_left
  · intro wx hSx
    go_simp
    try with_reducible rfl
  try simp only [Act.put]
  try simp only [List.setIfInBounds_toArray]
  try simp only [List.set_cons_succ]
  try simp only [List.set_cons_zero]
  refine wpAnyH_take (i := 3) (v := ?_) rfl (by kernel_rfl) (by kernel_rfl) (by kernel_rfl) (fun _ _ _ h => h) (Or.inl ⟨by kernel_rfl, ?_⟩) (by assumption) ?_
  rotate_left
  · intro wx hSx
    go_simp
    try with_reducible rfl
  try simp only [Act.put]
  try simp only [List.setIfInBounds_toArray]
  try simp only [List.set_cons_succ]
  try simp only [List.set_cons_zero]
  refine wpAnyH_take (i := 4) (v := ?_) rfl (by kernel_rfl) (by kernel_rfl) (by kernel_rfl) (fun _ _ _ h => h) (Or.inl ⟨by kernel_rfl, ?_⟩) (by assumption) ?_
  rotate_left
  · intro wx hSx
    go_simp
    try with_reducible rfl
  try simp only [Act.put]
  try simp only [List.setIfInBounds_toArray]
  try simp only [List.set_cons_succ]
  try simp only [List.set_cons_zero]
  refine wpAnyH_take (i := 5) (v := ?_) rfl (by kernel_rfl) (by kernel_rfl) (by kernel_rfl) (fun _ _ _ h => h) (Or.inl ⟨by kernel_rfl, ?_⟩) (by assumption) ?_
  rotate_left
  · intro wx hSx
    go_simp
    try with_reducible rfl
  try simp only [Act.put]
  try simp only [List.setIfInBounds_toArray]
  try simp only [List.set_cons_succ]
  try simp only [List.set_cons_zero]
  refine wpAnyH_take (i := 6) (v := ?_) rfl (by kernel_rfl) (by kernel_rfl) (by kernel_rfl) (fun _ _ _ h => h) (Or.inl ⟨by kernel_rfl, ?_⟩) (by assumption) ?_
  rotate_left
  · intro wx hSx
    go_simp
    try with_reducible rfl
  try simp only [Act.put]
  try simp only [List.setIfInBounds_toArray]
  try simp only [List.set_cons_succ]
  try simp only [List.set_cons_zero]
  refine wpAnyH_take (i := 7) (v := undef) rfl (by kernel_rfl) (by kernel_rfl) (by kernel_rfl) (fun _ _ _ h => h) (Or.inr ⟨by kernel_rfl, rfl⟩) (by assumption) ?_
  try simp only [Act.put]
  try simp only [List.setIfInBounds_toArray]
  try simp only [List.set_cons_succ]
  try simp only [List.set_cons_zero]
  refine wpAnyH_take (i := 8) (v := undef) rfl (by kernel_rfl) (by kernel_rfl) (by kernel_rfl) (fun _ _ _ h => h) (Or.inr ⟨by kernel_rfl, rfl⟩) (by assumption) ?_
  try simp only [Act.put]
  try simp only [List.setIfInBounds_toArray]
  try simp only [List.set_cons_succ]
  try simp only [List.set_cons_zero]
  refine wpAnyH_take (i := 9) (v := ?_) rfl (by kernel_rfl) (by kernel_rfl) (by kernel_rfl) (fun _ _ _ h => h) (Or.inl ⟨by kernel_rfl, ?_⟩) (by assumption) ?_
  rotate_left
  · intro wx hSx
    go_simp
    try with_reducible rfl
  try simp only [Act.put]
  try simp only [List.setIfInBounds_toArray]
  try simp only [List.set_cons_succ]
  try simp only [List.set_cons_zero]
  refine wpAnyH_ready (rs := [11]) (by kernel_rfl) (by simp) ?_
  refine AllReadyH.cons rfl (fun K hK => ?_) AllReadyH.nil
  go_simp
  refine (must_any _ (A 0) _).mono ?_
  rintro e wk2 ⟨v0, rfl, ⟨x0, y0, rfl, ma0, mb0⟩, hb2⟩
  have hm0 := MustAt.of ma0 mb0
  clear ma0 mb0
  try dsimp only
  refine hK.out _ _ (ext_trans hHeld hb2) (fun hHeld => ?_)
  clear hK K
  try simp only [Act.put]
  try simp only [List.setIfInBounds_toArray]
  try simp only [List.set_cons_succ]
  try simp only [List.set_cons_zero]
  refine wpAnyH_ready (rs := [13]) (by kernel_rfl) (by simp) ?_
  refine AllReadyH.cons rfl (fun K hK => ?_) AllReadyH.nil
  go_simp
  refine (has_any f 64 _).mono ?_
  rintro e wk3 ⟨rfl, hb3⟩
  have hm0 := MustAt.below hm0 hb3
  try dsimp only
  refine hK.out _ _ (ext_trans hHeld hb3) (fun hHeld => ?_)
  clear hK K
  try simp only [Act.put]
  try simp only [List.setIfInBounds_toArray]
  try simp only [List.set_cons_succ]
  try simp only [List.set_cons_zero]
  refine wpAnyH_ready (rs := [15]) (by kernel_rfl) (by simp) ?_
  refine AllReadyH.cons rfl (fun K hK => ?_) AllReadyH.nil
  go_simp
  refine (has_any f 475136 _).mono ?_
  rintro e wk4 ⟨rfl, hb4⟩
  have hm0 := MustAt.below hm0 hb4
  try dsimp only
  refine hK.out _ _ (ext_trans hHeld hb4) (fun hHeld => ?_)
  clear hK K
  try simp only [Act.put]
  try simp only [List.setIfInBounds_toArray]
  try simp only [List.set_cons_succ]
  try simp only [List.set_cons_zero]
  refine wpAnyH_take (i := 16) (v := ?_) rfl (by kernel_rfl) (by kernel_rfl) (by kernel_rfl) (fun _ _ _ h => h) (Or.inl ⟨by kernel_rfl, ?_⟩) (by assumption) ?_
  rotate_left
  · intro wx hSx
    go_simp
    try with_reducible rfl
  try simp only [Act.put]
  try simp only [List.setIfInBounds_toArray]
  try simp only [List.set_cons_succ]
  try simp only [List.set_cons_zero]
  refine wpAnyH_ready (rs := [18]) (by kernel_rfl) (by simp) ?_
  refine AllReadyH.cons rfl (fun K hK => ?_) AllReadyH.nil
  go_simp
  refine (must_any _ (A 4) _).mono ?_
  rintro e wk5 ⟨v1, rfl, ⟨x1, y1, rfl, ma1, mb1⟩, hb5⟩
  have hm1 := MustAt.of ma1 mb1
  clear ma1 mb1
  have hm0 := MustAt.below hm0 hb5
  try dsimp only
  refine hK.out _ _ (ext_trans hHeld hb5) (fun hHeld => ?_)
  clear hK K
  try simp only [Act.put]
  try simp only [List.setIfInBounds_toArray]
  try simp only [List.set_cons_succ]
  try simp only [List.set_cons_zero]
  refine wpAnyH_ready (rs := [19]) (by kernel_rfl) (by simp) ?_
  refine AllReadyH.cons rfl (fun K hK => ?_) AllReadyH.nil
  go_simp
  refine hK.out _ _ (ext_alloc hHeld _) (fun hHeld => ?_)
  clear hK K
  try simp only [Act.put]
  try simp only [List.setIfInBounds_toArray]
  try simp only [List.set_cons_succ]
  try simp only [List.set_cons_zero]
  refine wpAnyH_ready (rs := [20]) (by kernel_rfl) (by simp) ?_
  refine AllReadyH.cons rfl (fun K hK => ?_) AllReadyH.nil
  go_simp
  refine ((rules2_new A _ _ 0 4 _ _ _ hm0 hm1).mono (fun _ _ h => h.ret)).mono ?_
  rintro e wk6 ⟨rfl, hb6⟩
  try dsimp only
  refine hK.out _ _ (ext_trans hHeld hb6) (fun hHeld => ?_)
  clear hK K
  try simp only [Act.put]
  try simp only [List.setIfInBounds_toArray]
  try simp only [List.set_cons_succ]
  try simp only [List.set_cons_zero]
  refine wpAnyH_take (i := 21) (v := ?_) rfl (by kernel_rfl) (by kernel_rfl) (by kernel_rfl) (fun _ _ _ h => h) (Or.inl ⟨by kernel_rfl, ?_⟩) (by assumption) ?_
  rotate_left
  · intro wx hSx
    go_simp
    try with_reducible rfl
  try simp only [Act.put]
  try simp only [List.setIfInBounds_toArray]
  try simp only [List.set_cons_succ]
  try simp only [List.set_cons_zero]
  refine wpAnyH_done (by kernel_rfl) ?_ _
  rw [HE.out]
  have dX := cell_later hHeld d0
  go_wp2_with fail
  refine (only_both f _).mono ?_
  rintro e w7 ⟨rfl, hb7⟩
  have hH2 := ext_trans hHeld hb7
  have HV0 := Lib.hid (show dnV f p false = bits .or .i64 (bits .or .i64 (gat f) 16) (wrap64 (p * 128)) from rfl)
  have HV1 := Lib.hid (show dnV f p true = bits .or .i64 (bits .or .i64 (bits .or .i64 (gat f) 16) (wrap64 (p * 128))) 8 from rfl)
  generalize gat f = g at HV0 HV1
  cases cu
  · go_wp2_with fail
    refine (told_any _ (dnE f p) (dnE_lt f p) _ A (hI0.below hH2)).mono ?_
    rintro e w9 ⟨rfl, rfl⟩
    go_wp2_with fail
    go_ret2
    exact ⟨by rw [HV0.out]; rfl, ext_trans hE0 hH2⟩
  · go_wp2_with fail
    refine (told_any _ (dnE f p) (dnE_lt f p) _ A (hI0.below hH2)).mono ?_
    rintro e w9 ⟨rfl, rfl⟩
    go_wp2_with fail
    go_ret2
    exact ⟨by rw [HV1.out]; rfl, ext_trans hE0 hH2⟩

set_option maxHeartbeats 1000000 in
theorem Down_2 (f p : Int) (cu : Bool) (w : World) (A : Nat → Addr) (h : GInv w A) (hi : isInB f 475239 = true) (hp : 0 ≤ p) :
    Calls Tryd.prog 11 #[.int .i64 f, .int .i64 p, .bool cu] w (Ret (.tuple #[.int .i64 (toldV (dnV f p cu) (dnE f p)), .int .i64 (codeIx (dnE f p))]) w) := by
  have HE := Lib.hid (show firstIx [(decide (p ≤ 2), 0), ((bits .and .i64 f 64 != 0) == (bits .and .i64 f 475136 != 0), 4)] = dnE f p by rw [dnE, hi, decide_eq_true hp]; rfl)
  have HI := Lib.hid hi
  clear hi
  have hpd : decide (0 ≤ p) = true := by simp; omega
  go_enter Tryd.func11, Tryd.ntmps11
  go_wp2_with fail
  have hI0 := h.below (ext_new w (.cells #[.int .i64 f] 33))
  have d0 : (w.alloc (.cells #[.int .i64 f] 33)).cell? ⟨w.heap.size, 0, none⟩ = some (.int .i64 f) := by simp
  have hE0 := ext_new w (.cells #[.int .i64 f] 33)
  generalize hW0 : w.alloc (.cells #[.int .i64 f] 33) = W0 at *
  have HW0 := Lib.hid hW0
  clear hW0 h
  refine wp_region_held_drew (S := fun w' => Below W0.heap.size W0 w') (by kernel_rfl) (Below.refl _ _).drew (fun hHeld => ?_)
  refine wpAnyH_take (i := 0) (v := ?_) rfl (by kernel_rfl) (by kernel_rfl) (by kernel_rfl) (fun _ _ _ h => h) (Or.inl ⟨by kernel_rfl, ?_⟩) (by assumption) ?_
  rotate_left
  · intro wx hSx
    have hx0 := cell_later hSx d0
    have hg0 := cell_later hSx hI0.c0
    unfold ErrV at hg0
    have hg4 := cell_later hSx hI0.c4
    unfold ErrV at hg4
    go_simp
    try with_reducible rfl
  try simp only [Act.put]
  try simp only [List.setIfInBounds_toArray]
  try simp only [List.set_cons_succ]
  try simp only [List.set_cons_zero]
  refine wpAnyH_take (i := 10) (v := ?_) rfl (by kernel_rfl) (by kernel_rfl) (by kernel_rfl) (fun _ _ _ h => h) (Or.inl ⟨by kernel_rfl, ?_⟩) (by assumption) ?_
  rotate_left
  · intro wx hSx
    have hx0 := cell_later hSx d0
    have hg0 := cell_later hSx hI0.c0
    unfold ErrV at hg0
    have hg4 := cell_later hSx hI0.c4
    unfold ErrV at hg4
    go_simp
    try with_reducible rfl
  try simp only [Act.put]
  try simp only [List.setIfInBounds_toArray]
  try simp only [List.set_cons_succ]
  try simp only [List.set_cons_zero]
  refine wpAnyH_take (i := 12) (v := ?_) rfl (by kernel_rfl) (by kernel_rfl) (by kernel_rfl) (fun _ _ _ h => h) (Or.inl ⟨by kernel_rfl, ?_⟩) (by assumption) ?_
  rotate_left
  · intro wx hSx
    have hx0 := cell_later hSx d0
    have hg0 := cell_later hSx hI0.c0
    unfold ErrV at hg0
    have hg4 := cell_later hSx hI0.c4
    unfold ErrV at hg4
    go_simp
    try with_reducible rfl
  try simp only [Act.put]
  try simp only [List.setIfInBounds_toArray]
  try simp only [List.set_cons_succ]
  try simp only [List.set_cons_zero]
  refine wpAnyH_take (i := 14) (v := ?_) rfl (by kernel_rfl) (by kernel_rfl) (by kernel_rfl) (fun _ _ _ h => h) (Or.inl ⟨by kernel_rfl, ?_⟩) (by assumption) ?_
  rotate_left
  · intro wx hSx
    have hx0 := cell_later hSx d0
    have hg0 := cell_later hSx hI0.c0
    unfold ErrV at hg0
    have hg4 := cell_later hSx hI0.c4
    unfold ErrV at hg4
    go_simp
    try with_reducible rfl
  try simp only [Act.put]
  try simp only [List.setIfInBounds_toArray]
  try simp only [List.set_cons_succ]
  try simp only [List.set_cons_zero]
  refine wpAnyH_take (i := 17) (v := ?_) rfl (by kernel_rfl) (by kernel_rfl) (by kernel_rfl) (fun _ _ _ h => h) (Or.inl ⟨by kernel_rfl, ?_⟩) (by assumption) ?_
  rotate_left
  · intro wx hSx
    have hx0 := cell_later hSx d0
    have hg0 := cell_later hSx hI0.c0
    unfold ErrV at hg0
    have hg4 := cell_later hSx hI0.c4
    unfold ErrV at hg4
    go_simp
    try with_reducible rfl
  try simp only [Act.put]
  try simp only [List.setIfInBounds_toArray]
  try simp only [List.set_cons_succ]
  try simp only [List.set_cons_zero]
  refine wpAnyH_ready (rs := [1]) (by kernel_rfl) (by simp) ?_
  refine AllReadyH.cons rfl (fun K hK => ?_) AllReadyH.nil
  go_simp
  refine (isIn_any f 475239 _).mono ?_
  rintro e wk1 ⟨rfl, hb1⟩
  rw [HI.out]
  try dsimp only
  refine hK.out _ _ (ext_trans hHeld hb1) (fun hHeld => ?_)
  clear hK K
  try simp only [Act.put]
  try simp only [List.setIfInBounds_toArray]
  try simp only [List.set_cons_succ]
  try simp only [List.set_cons_zero]
  refine wpAnyH_take (i := 2) (v := ?_) rfl (by kernel_rfl) (by kernel_rfl) (by kernel_rfl) (fun _ _ _ h => h) (Or.inl ⟨by kernel_rfl, ?_⟩) (by assumption) ?_
  rotate_left
  · intro wx hSx
    go_simp
    try with_reducible rfl
  try simp only [Act.put]
  try simp only [List.setIfInBounds_toArray]
  try simp only [List.set_cons_succ]
  try simp only [List.set_cons_zero]
  refine wpAnyH_take (i := 3) (v := ?_) rfl (by kernel_rfl) (by kernel_rfl) (by kernel_rfl) (fun _ _ _ h => h) (Or.inl ⟨by kernel_rfl, ?_⟩) (by assumption) ?_
  rotate_left
  · intro wx hSx
    go_simp
    try with_reducible rfl
  try simp only [Act.put]
  try simp only [List.setIfInBounds_toArray]
  try simp only [List.set_cons_succ]
  try simp only [List.set_cons_zero]
  refine wpAnyH_take (i := 4) (v := ?_) rfl (by kernel_rfl) (by kernel_rfl) (by kernel_rfl) (fun _ _ _ h => h) (Or.inl ⟨by kernel_rfl, ?_⟩) (by assumption) ?_
  rotate_left
  · intro wx hSx
    go_simp
    try with_reducible rfl
  try simp only [Act.put]
  try simp only [List.setIfInBounds_toArray]
  try simp only [List.set_cons_succ]
  try simp only [List.set_cons_zero]
  refine wpAnyH_take (i := 5) (v := ?_) rfl (by kernel_rfl) (by kernel_rfl) (by kernel_rfl) (fun _ _ _ h => h) (Or.inl ⟨by kernel_rfl, ?_⟩) (by assumption) ?_
  rotate_left
  · intro wx hSx
    go_simp
    try with_reducible rfl
  try simp only [Act.put]
  try simp only [List.setIfInBounds_toArray]
  try simp only [List.set_cons_succ]
  try simp only [List.set_cons_zero]
  refine wpAnyH_take (i := 6) (v := ?_) rfl (by kernel_rfl) (by kernel_rfl) (by kernel_rfl) (fun _ _ _ h => h) (Or.inl ⟨by kernel_rfl, ?_⟩) (by assumption) ?_
  rotate_left
  · intro wx hSx
    go_simp
    try with_reducible rfl
  try simp only [Act.put]
  try simp only [List.setIfInBounds_toArray]
  try simp only [List.set_cons_succ]
  try simp only [List.set_cons_zero]
  refine wpAnyH_take (i := 7) (v := ?_) rfl (by kernel_rfl) (by kernel_rfl) (by kernel_rfl) (fun _ _ _ h => h) (Or.inl ⟨by kernel_rfl, ?_⟩) (by assumption) ?_
  rotate_left
  · intro wx hSx
    go_simp
    try with_reducible rfl
  try simp only [Act.put]
  try simp only [List.setIfInBounds_toArray]
  try simp only [List.set_cons_succ]
  try simp only [List.set_cons_zero]
  refine wpAnyH_take (i := 8) (v := ?_) rfl (by kernel_rfl) (by kernel_rfl) (by kernel_rfl) (fun _ _ _ h => h) (Or.inl ⟨by kernel_rfl, ?_⟩) (by assumption) ?_
  rotate_left
  · intro wx hSx
    go_simp
    try with_reducible rfl
  try simp only [Act.put]
  try simp only [List.setIfInBounds_toArray]
  try simp only [List.set_cons_succ]
  try simp only [List.set_cons_zero]
  refine wpAnyH_take (i := 9) (v := ?_) rfl (by kernel_rfl) (by kernel_rfl) (by kernel_rfl) (fun _ _ _ h => h) (Or.inl ⟨by kernel_rfl, ?_⟩) (by assumption) ?_
  rotate_left
  · intro wx hSx
    go_simp
    try with_reducible rfl
  try simp only [Act.put]
  try simp only [List.setIfInBounds_toArray]
  try simp only [List.set_cons_succ]
  try simp only [List.set_cons_zero]
  refine wpAnyH_ready (rs := [11]) (by kernel_rfl) (by simp) ?_
  refine AllReadyH.cons rfl (fun K hK => ?_) AllReadyH.nil
  go_simp
  refine (must_any _ (A 0) _).mono ?_
  rintro e wk2 ⟨v0, rfl, ⟨x0, y0, rfl, ma0, mb0⟩, hb2⟩
  have hm0 := MustAt.of ma0 mb0
  clear ma0 mb0
  try dsimp only
  refine hK.out _ _ (ext_trans hHeld hb2) (fun hHeld => ?_)
  clear hK K
  try simp only [Act.put]
  try simp only [List.setIfInBounds_toArray]
  try simp only [List.set_cons_succ]
  try simp only [List.set_cons_zero]
  refine wpAnyH_ready (rs := [13]) (by kernel_rfl) (by simp) ?_
  refine AllReadyH.cons rfl (fun K hK => ?_) AllReadyH.nil
  go_simp
  refine (has_any f 64 _).mono ?_
  rintro e wk3 ⟨rfl, hb3⟩
  have hm0 := MustAt.below hm0 hb3
  try dsimp only
  refine hK.out _ _ (ext_trans hHeld hb3) (fun hHeld => ?_)
  clear hK K
  try simp only [Act.put]
  try simp only [List.setIfInBounds_toArray]
  try simp only [List.set_cons_succ]
  try simp only [List.set_cons_zero]
  refine wpAnyH_ready (rs := [15]) (by kernel_rfl) (by simp) ?_
  refine AllReadyH.cons rfl (fun K hK => ?_) AllReadyH.nil
  go_simp
  refine (has_any f 475136 _).mono ?_
  rintro e wk4 ⟨rfl, hb4⟩
  have hm0 := MustAt.below hm0 hb4
  try dsimp only
  refine hK.out _ _ (ext_trans hHeld hb4) (fun hHeld => ?_)
  clear hK K
  try simp only [Act.put]
  try simp only [List.setIfInBounds_toArray]
  try simp only [List.set_cons_succ]
  try simp only [List.set_cons_zero]
  refine wpAnyH_take (i := 16) (v := ?_) rfl (by kernel_rfl) (by kernel_rfl) (by kernel_rfl) (fun _ _ _ h => h) (Or.inl ⟨by kernel_rfl, ?_⟩) (by assumption) ?_
  rotate_left
  · intro wx hSx
    go_simp
    try with_reducible rfl
  try simp only [Act.put]
  try simp only [List.setIfInBounds_toArray]
  try simp only [List.set_cons_succ]
  try simp only [List.set_cons_zero]
  refine wpAnyH_ready (rs := [18]) (by kernel_rfl) (by simp) ?_
  refine AllReadyH.cons rfl (fun K hK => ?_) AllReadyH.nil
  go_simp
  refine (must_any _ (A 4) _).mono ?_
  rintro e wk5 ⟨v1, rfl, ⟨x1, y1, rfl, ma1, mb1⟩, hb5⟩
  have hm1 := MustAt.of ma1 mb1
  clear ma1 mb1
  have hm0 := MustAt.below hm0 hb5
  try dsimp only
  refine hK.out _ _ (ext_trans hHeld hb5) (fun hHeld => ?_)
  clear hK K
  try simp only [Act.put]
  try simp only [List.setIfInBounds_toArray]
  try simp only [List.set_cons_succ]
  try simp only [List.set_cons_zero]
  refine wpAnyH_ready (rs := [19]) (by kernel_rfl) (by simp) ?_
  refine AllReadyH.cons rfl (fun K hK => ?_) AllReadyH.nil
  go_simp
  refine hK.out _ _ (ext_alloc hHeld _) (fun hHeld => ?_)
  clear hK K
  try simp only [Act.put]
  try simp only [List.setIfInBounds_toArray]
  try simp only [List.set_cons_succ]
  try simp only [List.set_cons_zero]
  refine wpAnyH_ready (rs := [20]) (by kernel_rfl) (by simp) ?_
  refine AllReadyH.cons rfl (fun K hK => ?_) AllReadyH.nil
  go_simp
  refine ((rules2_new A _ _ 0 4 _ _ _ hm0 hm1).mono (fun _ _ h => h.ret)).mono ?_
  rintro e wk6 ⟨rfl, hb6⟩
  try dsimp only
  refine hK.out _ _ (ext_trans hHeld hb6) (fun hHeld => ?_)
  clear hK K
  try simp only [Act.put]
  try simp only [List.setIfInBounds_toArray]
  try simp only [List.set_cons_succ]
  try simp only [List.set_cons_zero]
  refine wpAnyH_take (i := 21) (v := ?_) rfl (by kernel_rfl) (by kernel_rfl) (by kernel_rfl) (fun _ _ _ h => h) (Or.inl ⟨by kernel_rfl, ?_⟩) (by assumption) ?_
  rotate_left
  · intro wx hSx
    go_simp
    try with_reducible rfl
  try simp only [Act.put]
  try simp only [List.setIfInBounds_toArray]
  try simp only [List.set_cons_succ]
  try simp only [List.set_cons_zero]
  refine wpAnyH_done (by kernel_rfl) ?_ _
  rw [HE.out]
  have dX := cell_later hHeld d0
  go_wp2_with fail
  refine (only_both f _).mono ?_
  rintro e w7 ⟨rfl, hb7⟩
  have hH2 := ext_trans hHeld hb7
  have HV0 := Lib.hid (show dnV f p false = bits .or .i64 (bits .or .i64 (gat f) 16) (wrap64 (p * 128)) from rfl)
  have HV1 := Lib.hid (show dnV f p true = bits .or .i64 (bits .or .i64 (bits .or .i64 (gat f) 16) (wrap64 (p * 128))) 8 from rfl)
  generalize gat f = g at HV0 HV1
  cases cu
  · go_wp2_with fail
    refine (told_any _ (dnE f p) (dnE_lt f p) _ A (hI0.below hH2)).mono ?_
    rintro e w9 ⟨rfl, rfl⟩
    go_wp2_with fail
    go_ret2
    exact ⟨by rw [HV0.out]; rfl, ext_trans hE0 hH2⟩
  · go_wp2_with fail
    refine (told_any _ (dnE f p) (dnE_lt f p) _ A (hI0.below hH2)).mono ?_
    rintro e w9 ⟨rfl, rfl⟩
    go_wp2_with fail
    go_ret2
    exact ⟨by rw [HV1.out]; rfl, ext_trans hE0 hH2⟩

theorem Down_any (f p : Int) (cu : Bool) (w : World) (A : Nat → Addr) (h : GInv w A) :
    Calls Tryd.prog 11 #[.int .i64 f, .int .i64 p, .bool cu] w (Ret (.tuple #[.int .i64 (toldV (dnV f p cu) (dnE f p)), .int .i64 (codeIx (dnE f p))]) w) := by
  rcases bool_cases (isInB f 475239) with hi | hi
  · exact Down_0 f p cu w A h hi
  · by_cases hp : p < 0
    · exact Down_1 f p cu w A h hi hp
    · exact Down_2 f p cu w A h hi (by omega)

end Go.Proofs.YtinflolpcemnhaaDoor
