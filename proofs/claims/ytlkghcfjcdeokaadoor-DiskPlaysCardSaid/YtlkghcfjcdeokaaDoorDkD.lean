/-
  Package disk: the closures of its calls, and the rule that a disk is not down (up). Conditions: as the theorems' own hypotheses say.
-/
import Derived.Test.YtlkghcfjcdeokaaDoorDkC
import Derived.Test.YtlkghcfjcdeokaaDoorRng4
import Derived.Shelf.Abstract
import Derived.Deep.RegionHeld3
namespace Go.Proofs.YtlkghcfjcdeokaaDoor
open Go.RowKit Go.Shelf

theorem up1_holds {w : World} {p g bx : Nat} {d : DN} (h : DAt w p g d) (hx : w.cell? ⟨bx, 0, none⟩ = some (.pointer (some ⟨p, 0, none⟩))) :
    HoldsAt w (.func (.func 43) #[] #[.pointer (some ⟨bx, 0, none⟩)]) (!d.down) := by
  refine ⟨_, _, rfl, enters_of Tryd.func43 (by kernel_rfl) rfl, fun w' hb => ?_⟩
  obtain ⟨c0, c1, c2, c3, c4, -⟩ := (h.below hb).disk.c5
  have hx := cell_later hb hx
  generalize d.down = b at *
  go_enter Tryd.func43, Tryd.ntmps43
  go_wp2_with fail
  go_ret
  exact ⟨by cases b <;> rfl, ext_refl _⟩
theorem up_any {w : World} {p g : Nat} {d : DN} (h : DAt w p g d) :
    Calls Tryd.prog 25 #[.pointer (some ⟨p, 0, none⟩)] w fun x w' => ∃ v, x = .returned v ∧ RuleAt w' v (!d.down) 180 ∧ Below w.heap.size w w' := by
  have hn := ext_new w (.cells #[.pointer (some ⟨p, 0, none⟩)] 25)
  have hh := up1_holds (h.below hn) (bx := w.heap.size) (by simp)
  go_enter Tryd.func25, Tryd.ntmps25
  go_wp2_with fail
  refine (must_any _ _ 180 _ hh ⟨_, _, rfl⟩).mono ?_
  rintro x w1 ⟨v, rfl, hr, hb⟩
  obtain ⟨a1, a2, a3, rfl, hr'⟩ := id hr
  go_wp2_with fail
  go_ret
  exact ⟨_, rfl, hr, ext_trans hn hb⟩
theorem up_nil (w : World) :
    Calls Tryd.prog 25 #[.pointer none] w fun x w' => ∃ hb he : Nat, x = .returned (.func (.func 44) #[] #[.pointer (some ⟨hb, 0, none⟩), .pointer (some ⟨he, 0, none⟩)]) ∧ Below w.heap.size w w' := by
  go_enter Tryd.func25, Tryd.ntmps25
  go_wp2_with (go_in)
  go_ret
  exact ⟨_, _, rfl, ext_alloc (ext_alloc (ext_new w _) _) _⟩

theorem read1_holds {w : World} {p g bx bi : Nat} {d : DN} {i : Int} (h : DAt w p g d) (hx : w.cell? ⟨bx, 0, none⟩ = some (.pointer (some ⟨p, 0, none⟩))) (hi : w.cell? ⟨bi, 0, none⟩ = some (.int .i64 i)) :
    HoldsAt w (.func (.func 27) #[] #[.pointer (some ⟨bx, 0, none⟩), .pointer (some ⟨bi, 0, none⟩)]) (d.has i) := by
  refine ⟨_, _, rfl, enters_of Tryd.func27 (by kernel_rfl) rfl, fun w' hb => ?_⟩
  obtain ⟨c0, -⟩ := (h.below hb).disk.c5
  have hx := cell_later hb hx
  have hi := cell_later hb hi
  have HH := fun w2 => has_any (some ⟨g, 0, none⟩) d.L.length d.L.length i w2
  unfold DN.has
  generalize d.L.length = n at *
  generalize (decide (0 ≤ i) && decide (i < (n : Int))) = b at *
  go_enter Tryd.func27, Tryd.ntmps27
  go_wp2_with fail
  go_region_held3 (fun W : World => W.cell? ⟨bx, 0, none⟩ = some (.pointer (some ⟨p, 0, none⟩)) ∧ W.cell? ⟨bi, 0, none⟩ = some (.int .i64 i) ∧ W.cell? ⟨p, 0, none⟩ = some (.slice (some ⟨g, 0, none⟩) n n)) (first | exact ⟨hx, hi, c0⟩ | exact ⟨cell_later hb2 hx, cell_later hb2 hi, cell_later hb2 c0⟩)
    (first | (go_at_call 28; refine (HH _).mono ?_; rintro x w2 ⟨rfl, hb2⟩))
  go_wp2_with fail
  go_ret
  exact ⟨rfl, ext_trans (ext_refl _).drew hb2⟩

theorem write1_holds {w : World} {p g bx bi bs : Nat} {d : DN} {i : Int} {s : ByteArray} (h : DAt w p g d) (hx : w.cell? ⟨bx, 0, none⟩ = some (.pointer (some ⟨p, 0, none⟩))) (hi : w.cell? ⟨bi, 0, none⟩ = some (.int .i64 i)) (hs : w.cell? ⟨bs, 0, none⟩ = some (.string s)) :
    HoldsAt w (.func (.func 35) #[] #[.pointer (some ⟨bx, 0, none⟩), .pointer (some ⟨bi, 0, none⟩), .pointer (some ⟨bs, 0, none⟩)]) (d.has i && decide (s.size = 64)) := by
  refine ⟨_, _, rfl, enters_of Tryd.func35 (by kernel_rfl) rfl, fun w' hb => ?_⟩
  obtain ⟨c0, -⟩ := (h.below hb).disk.c5
  have hx := cell_later hb hx
  have hi := cell_later hb hi
  have hs := cell_later hb hs
  have HH := fun w2 => has_any (some ⟨g, 0, none⟩) d.L.length d.L.length i w2
  unfold DN.has
  generalize d.L.length = n at *
  generalize (decide (0 ≤ i) && decide (i < (n : Int))) = b at *
  have hq : decide (s.size = 64) = ((s.size : Int) == 64) := by
    by_cases hh : s.size = 64
    · rw [hh]; rfl
    · have : ((s.size : Int) == 64) = false := by simp; omega
      rw [this]; simp [hh]
  rw [hq]
  generalize hz : ((s.size : Int) == 64) = z
  cases b
  · go_enter Tryd.func35, Tryd.ntmps35
    go_wp2_with fail
    refine wp_region_held_drew (S := (fun W => W.cell? ⟨bx, 0, none⟩ = some (.pointer (some ⟨p, 0, none⟩)) ∧ W.cell? ⟨bi, 0, none⟩ = some (.int .i64 i) ∧ W.cell? ⟨p, 0, none⟩ = some (.slice (some ⟨g, 0, none⟩) n n) ∧ W.cell? ⟨bs, 0, none⟩ = some (.string s))) (by kernel_rfl) ⟨hx, hi, c0, hs⟩ (fun hHeld => ?_)
    refine wpAnyH_take (i := 0) (v := ?_) rfl (by kernel_rfl) (by kernel_rfl) (by kernel_rfl) (fun _ _ _ h => h) (Or.inl ⟨by kernel_rfl, ?_⟩) (by assumption) ?_
    rotate_left
    · intro wx hSx
      obtain ⟨hS1, hS2, hS3, hS4⟩ := hSx
      go_simp
      try with_reducible rfl
    try simp only [Act.put]
    try simp only [List.setIfInBounds_toArray]
    try simp only [List.set_cons_succ]
    try simp only [List.set_cons_zero]
    refine wpAnyH_take (i := 1) (v := ?_) rfl (by kernel_rfl) (by kernel_rfl) (by kernel_rfl) (fun _ _ _ h => h) (Or.inl ⟨by kernel_rfl, ?_⟩) (by assumption) ?_
    rotate_left
    · intro wx hSx
      obtain ⟨hS1, hS2, hS3, hS4⟩ := hSx
      go_simp
      try with_reducible rfl
    try simp only [Act.put]
    try simp only [List.setIfInBounds_toArray]
    try simp only [List.set_cons_succ]
    try simp only [List.set_cons_zero]
    refine wpAnyH_take (i := 2) (v := ?_) rfl (by kernel_rfl) (by kernel_rfl) (by kernel_rfl) (fun _ _ _ h => h) (Or.inl ⟨by kernel_rfl, ?_⟩) (by assumption) ?_
    rotate_left
    · intro wx hSx
      obtain ⟨hS1, hS2, hS3, hS4⟩ := hSx
      go_simp
      try with_reducible rfl
    try simp only [Act.put]
    try simp only [List.setIfInBounds_toArray]
    try simp only [List.set_cons_succ]
    try simp only [List.set_cons_zero]
    refine wpAnyH_take (i := 3) (v := ?_) rfl (by kernel_rfl) (by kernel_rfl) (by kernel_rfl) (fun _ _ _ h => h) (Or.inl ⟨by kernel_rfl, ?_⟩) (by assumption) ?_
    rotate_left
    · intro wx hSx
      obtain ⟨hS1, hS2, hS3, hS4⟩ := hSx
      go_simp
      try with_reducible rfl
    try simp only [Act.put]
    try simp only [List.setIfInBounds_toArray]
    try simp only [List.set_cons_succ]
    try simp only [List.set_cons_zero]
    refine wpAnyH_take (i := 4) (v := ?_) rfl (by kernel_rfl) (by kernel_rfl) (by kernel_rfl) (fun _ _ _ h => h) (Or.inl ⟨by kernel_rfl, ?_⟩) (by assumption) ?_
    rotate_left
    · intro wx hSx
      obtain ⟨hS1, hS2, hS3, hS4⟩ := hSx
      go_simp
      try with_reducible rfl
    try simp only [Act.put]
    try simp only [List.setIfInBounds_toArray]
    try simp only [List.set_cons_succ]
    try simp only [List.set_cons_zero]
    refine wpAnyH_ready (rs := [5]) (by kernel_rfl) (by simp) ?_
    refine AllReadyH.cons rfl (fun K hK => ?_) AllReadyH.nil
    go_simp
    refine (HH _).mono ?_
    rintro x w2 ⟨rfl, hb2⟩
    try go_wp2_with fail
    refine hK.out _ _ ⟨cell_later hb2 hHeld.1, cell_later hb2 hHeld.2.1, cell_later hb2 hHeld.2.2.1, cell_later hb2 hHeld.2.2.2⟩ (fun hHeld => ?_)
    clear hK K
    try simp only [Act.put]
    try simp only [List.setIfInBounds_toArray]
    try simp only [List.set_cons_succ]
    try simp only [List.set_cons_zero]
    refine wpAnyH_take (i := 6) (v := ?_) rfl (by kernel_rfl) (by kernel_rfl) (by kernel_rfl) (fun _ _ _ h => h) (Or.inl ⟨by kernel_rfl, ?_⟩) (by assumption) ?_
    rotate_left
    · intro wx hSx
      obtain ⟨hS1, hS2, hS3, hS4⟩ := hSx
      go_simp
      try with_reducible rfl
    try simp only [Act.put]
    try simp only [List.setIfInBounds_toArray]
    try simp only [List.set_cons_succ]
    try simp only [List.set_cons_zero]
    refine wpAnyH_take (i := 7) (v := undef) rfl (by kernel_rfl) (by kernel_rfl) (by kernel_rfl) (fun _ _ _ h => h) (Or.inr ⟨by kernel_rfl, rfl⟩) (by assumption) ?_
    try simp only [Act.put]
    try simp only [List.setIfInBounds_toArray]
    try simp only [List.set_cons_succ]
    try simp only [List.set_cons_zero]
    refine wpAnyH_take (i := 8) (v := undef) rfl (by kernel_rfl) (by kernel_rfl) (by kernel_rfl) (fun _ _ _ h => h) (Or.inr ⟨by kernel_rfl, rfl⟩) (by assumption) ?_
    try simp only [Act.put]
    try simp only [List.setIfInBounds_toArray]
    try simp only [List.set_cons_succ]
    try simp only [List.set_cons_zero]
    refine wpAnyH_take (i := 9) (v := undef) rfl (by kernel_rfl) (by kernel_rfl) (by kernel_rfl) (fun _ _ _ h => h) (Or.inr ⟨by kernel_rfl, rfl⟩) (by assumption) ?_
    try simp only [Act.put]
    try simp only [List.setIfInBounds_toArray]
    try simp only [List.set_cons_succ]
    try simp only [List.set_cons_zero]
    refine wpAnyH_take (i := 10) (v := ?_) rfl (by kernel_rfl) (by kernel_rfl) (by kernel_rfl) (fun _ _ _ h => h) (Or.inl ⟨by kernel_rfl, ?_⟩) (by assumption) ?_
    rotate_left
    · intro wx hSx
      obtain ⟨hS1, hS2, hS3, hS4⟩ := hSx
      go_simp
      try with_reducible rfl
    try simp only [Act.put]
    try simp only [List.setIfInBounds_toArray]
    try simp only [List.set_cons_succ]
    try simp only [List.set_cons_zero]
    refine wpAnyH_take (i := 11) (v := ?_) rfl (by kernel_rfl) (by kernel_rfl) (by kernel_rfl) (fun _ _ _ h => h) (Or.inl ⟨by kernel_rfl, ?_⟩) (by assumption) ?_
    rotate_left
    · intro wx hSx
      obtain ⟨hS1, hS2, hS3, hS4⟩ := hSx
      go_simp
      try with_reducible rfl
    try simp only [Act.put]
    try simp only [List.setIfInBounds_toArray]
    try simp only [List.set_cons_succ]
    try simp only [List.set_cons_zero]
    refine wpAnyH_done (by kernel_rfl) ?_ _
    go_wp2_with fail
    all_goals
      rename_i dst1 d1 heq1 dst2 d2 heq2
      cases heq1
      cases heq2
      go_ret
      exact ⟨rfl, ext_trans (ext_refl _).drew hb2⟩
  · go_enter Tryd.func35, Tryd.ntmps35
    go_wp2_with fail
    refine wp_region_held_drew (S := (fun W => W.cell? ⟨bx, 0, none⟩ = some (.pointer (some ⟨p, 0, none⟩)) ∧ W.cell? ⟨bi, 0, none⟩ = some (.int .i64 i) ∧ W.cell? ⟨p, 0, none⟩ = some (.slice (some ⟨g, 0, none⟩) n n) ∧ W.cell? ⟨bs, 0, none⟩ = some (.string s))) (by kernel_rfl) ⟨hx, hi, c0, hs⟩ (fun hHeld => ?_)
    refine wpAnyH_take (i := 0) (v := ?_) rfl (by kernel_rfl) (by kernel_rfl) (by kernel_rfl) (fun _ _ _ h => h) (Or.inl ⟨by kernel_rfl, ?_⟩) (by assumption) ?_
    rotate_left
    · intro wx hSx
      obtain ⟨hS1, hS2, hS3, hS4⟩ := hSx
      go_simp
      try with_reducible rfl
    try simp only [Act.put]
    try simp only [List.setIfInBounds_toArray]
    try simp only [List.set_cons_succ]
    try simp only [List.set_cons_zero]
    refine wpAnyH_take (i := 1) (v := ?_) rfl (by kernel_rfl) (by kernel_rfl) (by kernel_rfl) (fun _ _ _ h => h) (Or.inl ⟨by kernel_rfl, ?_⟩) (by assumption) ?_
    rotate_left
    · intro wx hSx
      obtain ⟨hS1, hS2, hS3, hS4⟩ := hSx
      go_simp
      try with_reducible rfl
    try simp only [Act.put]
    try simp only [List.setIfInBounds_toArray]
    try simp only [List.set_cons_succ]
    try simp only [List.set_cons_zero]
    refine wpAnyH_take (i := 2) (v := ?_) rfl (by kernel_rfl) (by kernel_rfl) (by kernel_rfl) (fun _ _ _ h => h) (Or.inl ⟨by kernel_rfl, ?_⟩) (by assumption) ?_
    rotate_left
    · intro wx hSx
      obtain ⟨hS1, hS2, hS3, hS4⟩ := hSx
      go_simp
      try with_reducible rfl
    try simp only [Act.put]
    try simp only [List.setIfInBounds_toArray]
    try simp only [List.set_cons_succ]
    try simp only [List.set_cons_zero]
    refine wpAnyH_take (i := 3) (v := ?_) rfl (by kernel_rfl) (by kernel_rfl) (by kernel_rfl) (fun _ _ _ h => h) (Or.inl ⟨by kernel_rfl, ?_⟩) (by assumption) ?_
    rotate_left
    · intro wx hSx
      obtain ⟨hS1, hS2, hS3, hS4⟩ := hSx
      go_simp
      try with_reducible rfl
    try simp only [Act.put]
    try simp only [List.setIfInBounds_toArray]
    try simp only [List.set_cons_succ]
    try simp only [List.set_cons_zero]
    refine wpAnyH_take (i := 4) (v := ?_) rfl (by kernel_rfl) (by kernel_rfl) (by kernel_rfl) (fun _ _ _ h => h) (Or.inl ⟨by kernel_rfl, ?_⟩) (by assumption) ?_
    rotate_left
    · intro wx hSx
      obtain ⟨hS1, hS2, hS3, hS4⟩ := hSx
      go_simp
      try with_reducible rfl
    try simp only [Act.put]
    try simp only [List.setIfInBounds_toArray]
    try simp only [List.set_cons_succ]
    try simp only [List.set_cons_zero]
    refine wpAnyH_ready (rs := [5]) (by kernel_rfl) (by simp) ?_
    refine AllReadyH.cons rfl (fun K hK => ?_) AllReadyH.nil
    go_simp
    refine (HH _).mono ?_
    rintro x w2 ⟨rfl, hb2⟩
    try go_wp2_with fail
    refine hK.out _ _ ⟨cell_later hb2 hHeld.1, cell_later hb2 hHeld.2.1, cell_later hb2 hHeld.2.2.1, cell_later hb2 hHeld.2.2.2⟩ (fun hHeld => ?_)
    clear hK K
    try simp only [Act.put]
    try simp only [List.setIfInBounds_toArray]
    try simp only [List.set_cons_succ]
    try simp only [List.set_cons_zero]
    refine wpAnyH_take (i := 6) (v := ?_) rfl (by kernel_rfl) (by kernel_rfl) (by kernel_rfl) (fun _ _ _ h => h) (Or.inl ⟨by kernel_rfl, ?_⟩) (by assumption) ?_
    rotate_left
    · intro wx hSx
      obtain ⟨hS1, hS2, hS3, hS4⟩ := hSx
      go_simp
      try with_reducible rfl
    try simp only [Act.put]
    try simp only [List.setIfInBounds_toArray]
    try simp only [List.set_cons_succ]
    try simp only [List.set_cons_zero]
    refine wpAnyH_take (i := 7) (v := ?_) rfl (by kernel_rfl) (by kernel_rfl) (by kernel_rfl) (fun _ _ _ h => h) (Or.inl ⟨by kernel_rfl, ?_⟩) (by assumption) ?_
    rotate_left
    · intro wx hSx
      obtain ⟨hS1, hS2, hS3, hS4⟩ := hSx
      go_simp
      try with_reducible rfl
    try simp only [Act.put]
    try simp only [List.setIfInBounds_toArray]
    try simp only [List.set_cons_succ]
    try simp only [List.set_cons_zero]
    refine wpAnyH_take (i := 8) (v := ?_) rfl (by kernel_rfl) (by kernel_rfl) (by kernel_rfl) (fun _ _ _ h => h) (Or.inl ⟨by kernel_rfl, ?_⟩) (by assumption) ?_
    rotate_left
    · intro wx hSx
      obtain ⟨hS1, hS2, hS3, hS4⟩ := hSx
      go_simp
      try with_reducible rfl
    try simp only [Act.put]
    try simp only [List.setIfInBounds_toArray]
    try simp only [List.set_cons_succ]
    try simp only [List.set_cons_zero]
    refine wpAnyH_take (i := 9) (v := ?_) rfl (by kernel_rfl) (by kernel_rfl) (by kernel_rfl) (fun _ _ _ h => h) (Or.inl ⟨by kernel_rfl, ?_⟩) (by assumption) ?_
    rotate_left
    · intro wx hSx
      obtain ⟨hS1, hS2, hS3, hS4⟩ := hSx
      go_simp
      try with_reducible rfl
    try simp only [Act.put]
    try simp only [List.setIfInBounds_toArray]
    try simp only [List.set_cons_succ]
    try simp only [List.set_cons_zero]
    refine wpAnyH_take (i := 10) (v := ?_) rfl (by kernel_rfl) (by kernel_rfl) (by kernel_rfl) (fun _ _ _ h => h) (Or.inl ⟨by kernel_rfl, ?_⟩) (by assumption) ?_
    rotate_left
    · intro wx hSx
      obtain ⟨hS1, hS2, hS3, hS4⟩ := hSx
      go_simp
      try with_reducible rfl
    try simp only [Act.put]
    try simp only [List.setIfInBounds_toArray]
    try simp only [List.set_cons_succ]
    try simp only [List.set_cons_zero]
    refine wpAnyH_take (i := 11) (v := ?_) rfl (by kernel_rfl) (by kernel_rfl) (by kernel_rfl) (fun _ _ _ h => h) (Or.inl ⟨by kernel_rfl, ?_⟩) (by assumption) ?_
    rotate_left
    · intro wx hSx
      obtain ⟨hS1, hS2, hS3, hS4⟩ := hSx
      go_simp
      try with_reducible rfl
    try simp only [Act.put]
    try simp only [List.setIfInBounds_toArray]
    try simp only [List.set_cons_succ]
    try simp only [List.set_cons_zero]
    refine wpAnyH_done (by kernel_rfl) ?_ _
    go_wp2_with fail
    all_goals
      rename_i dst1 d1 heq1 dst2 d2 heq2
      cases heq1
      cases heq2
      go_ret
      exact ⟨rfl, ext_trans (ext_refl _).drew hb2⟩
theorem arm1_holds {w : World} {bk bc : Nat} {k c : Int} (hk : w.cell? ⟨bk, 0, none⟩ = some (.int .i64 k)) (hc : w.cell? ⟨bc, 0, none⟩ = some (.int .i64 c)) :
    HoldsAt w (.func (.func 42) #[] #[.pointer (some ⟨bk, 0, none⟩), .pointer (some ⟨bc, 0, none⟩)]) (decide (1 ≤ k) && (decide (0 ≤ c) && decide (c ≤ 64))) := by
  refine ⟨_, _, rfl, enters_of Tryd.func42 (by kernel_rfl) rfl, fun w' hb => ?_⟩
  have hk := cell_later hb hk
  have hc := cell_later hb hc
  by_cases h1 : 1 ≤ k
  · by_cases h2 : 0 ≤ c
    · by_cases h3 : c ≤ 64
      all_goals
        go_enter Tryd.func42, Tryd.ntmps42
        go_wp2_with fail
        go_ret
        exact ⟨by simp [h1, h2, h3], ext_refl _⟩
    · go_enter Tryd.func42, Tryd.ntmps42
      go_wp2_with fail
      go_ret
      exact ⟨by simp [h1]; omega, ext_refl _⟩
  · go_enter Tryd.func42, Tryd.ntmps42
    go_wp2_with fail
    go_ret
    exact ⟨by simp; omega, ext_refl _⟩

end Go.Proofs.YtlkghcfjcdeokaaDoor
