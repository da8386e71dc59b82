/-
  Package item: Whole. Conditions: head's and nums' listed variables hold what 'HInv' says, errors.errorType holds the handle of the type error ('SInv').
-/
import Derived.Test.YtmoghgmbpkpcfaaGreatDoorMgH
namespace Go.Proofs.YtmoghgmbpkpcfaaGreatDoor
open Go.RowKit Go.Shelf

set_option maxRecDepth 100000 in
set_option maxHeartbeats 16000000 in
theorem Whole_two {s : ByteArray} {c a' : Nat} {x : IN} {A : Nat → Addr} {aN aW aS : Addr} {w : World} (hs : s.size ≤ 9223372036854775807) (hI : HInv w A aN aW aS) (hS : SInv w) (hr : readA s 0 = .ok c a' x) (hq : (a' : Int) ≠ (s.size : Int)) :
    Calls Tryz.prog 11 #[.string s] w (Ret (.tuple #[.agg #[.int .i64 0, .int .i64 0, .string ByteArray.empty, .slice none 0 0], .int .i64 20]) w) := by
  have hb1 := ext_alloc (ext_new w (.cells #[.int .i64 0, .int .i64 0, .string ⟨#[]⟩, .slice none 0 0] 24)) (.cells #[.string s, .int .i64 0, .int .i64 0] 57)
  have hP := Blk.new_ (w.alloc (.cells #[.int .i64 0, .int .i64 0, .string ⟨#[]⟩, .slice none 0 0] 24)) 57 #[.string s, .int .i64 0, .int .i64 0]
  have hR := (Blk.new_ w 24 #[.int .i64 0, .int .i64 0, .string ⟨#[]⟩, .slice none 0 0]).alloc (.cells #[.string s, .int .i64 0, .int .i64 0] 57)
  simp only [World.size_alloc] at hP
  go_enter Tryz.func11, Tryz.ntmps11
  go_wp2_with fail
  generalize (w.alloc (.cells #[.int .i64 0, .int .i64 0, .string ⟨#[]⟩, .slice none 0 0] 24)).alloc (.cells #[.string s, .int .i64 0, .int .i64 0] 57) = w1 at *
  have hp := hP.lt
  have hIp : HIp (w.heap.size + 1) w1 A aN aW aS := ⟨w, hI, by omega, hb1⟩
  have hC := item_at hs hP hIp
  rw [hr] at hC
  refine hC.mono ?_
  rintro e w2 ⟨t, er', rfl, rfl, hx, r5, hIt, hOv, hFi⟩
  have b2 : Below w.heap.size w w2 := hb1.trans (r5.bes.below (by omega) hb1.size)
  have hR2 := hR.kept (r5.bes.block _ hR.lt (by omega))
  have hlt2 := r5.rd.lt
  have n1 : ¬ w.heap.size + 1 = w2.heap.size := by omega
  obtain ⟨-, x1, -, -, -, -⟩ := r5.rd.c3
  have hq2 : ((a' : Int) == (s.size : Int)) = false := beq_eq_false_iff_ne.2 hq
  go_wp2_with fail
  have hY3 := Blk.new_ w2 24 #[.int .i64 t.kind, .int .i64 t.num, .string t.txt, .slice t.at_ t.kids.length t.cap]
  have b3 : Below w.heap.size w _ := b2.alloc b2.size (.cells #[.int .i64 t.kind, .int .i64 t.num, .string t.txt, .slice t.at_ t.kids.length t.cap] 24)
  have hR3 := hR2.alloc (.cells #[.int .i64 t.kind, .int .i64 t.num, .string t.txt, .slice t.at_ t.kids.length t.cap] 24)
  have d3 : ∀ k, w.heap.size < k → k < w2.heap.size → (w2.alloc (.cells #[.int .i64 t.kind, .int .i64 t.num, .string t.txt, .slice t.at_ t.kids.length t.cap] 24)).heap[k]? = w2.heap[k]? := fun k _ h2 => Below.heap_alloc w2 _ k h2
  generalize w2.alloc (.cells #[.int .i64 t.kind, .int .i64 t.num, .string t.txt, .slice t.at_ t.kids.length t.cap] 24) = w3 at *
  have hW3 : WS w w2 t w3 := ⟨hY3, hR3, by omega, b3, d3⟩
  have hF := fun (g : Nat) (w : World) h => first_two (g := g) (t := 48) (er := 20) (w := w) h
  have hT := fun a0 a1 n a2 A l c w h => told_wr a0 a1 n 20 a2 A l c w h
  unfold WrV at *
  refine wp_region_held_drew (S := (WS w w2 t)) (by kernel_rfl) hW3.drew (fun hHeld => ?_)
  refine wpAnyH_take (i := 0) (v := ?_) rfl (by kernel_rfl) (by kernel_rfl) (by kernel_rfl) (fun _ _ _ h => h) (Or.inl ⟨by kernel_rfl, ?_⟩) (by assumption) ?_
  rotate_left
  · intro wx hSx
    obtain ⟨hy, hr, hb⟩ := hSx
    obtain ⟨y0, y1, y2, y3, -, -, -, -⟩ := hy.c4
    go_simp
    try with_reducible rfl
  try simp only [Act.put]
  try simp only [List.setIfInBounds_toArray]
  try simp only [List.set_cons_succ]
  try simp only [List.set_cons_zero]
  refine wpAnyH_take (i := 1) (v := ?_) rfl (by kernel_rfl) (by kernel_rfl) (by kernel_rfl) (fun _ _ _ h => h) (Or.inl ⟨by kernel_rfl, ?_⟩) (by assumption) ?_
  rotate_left
  · intro wx hSx
    obtain ⟨hy, hr, hb⟩ := hSx
    go_simp
    try with_reducible rfl
  try simp only [Act.put]
  try simp only [List.setIfInBounds_toArray]
  try simp only [List.set_cons_succ]
  try simp only [List.set_cons_zero]
  refine wpAnyH_take (i := 2) (v := ?_) rfl (by kernel_rfl) (by kernel_rfl) (by kernel_rfl) (fun _ _ _ h => h) (Or.inl ⟨by kernel_rfl, ?_⟩) (by assumption) ?_
  rotate_left
  · intro wx hSx
    obtain ⟨hy, hr, hb⟩ := hSx
    go_simp
    try with_reducible rfl
  try simp only [Act.put]
  try simp only [List.setIfInBounds_toArray]
  try simp only [List.set_cons_succ]
  try simp only [List.set_cons_zero]
  refine wpAnyH_take (i := 3) (v := ?_) rfl (by kernel_rfl) (by kernel_rfl) (by kernel_rfl) (fun _ _ _ h => h) (Or.inl ⟨by kernel_rfl, ?_⟩) (by assumption) ?_
  rotate_left
  · intro wx hSx
    obtain ⟨hy, hr, hb⟩ := hSx
    go_simp
    try with_reducible rfl
  try simp only [Act.put]
  try simp only [List.setIfInBounds_toArray]
  try simp only [List.set_cons_succ]
  try simp only [List.set_cons_zero]
  refine wpAnyH_ready (rs := [4, 11]) (by kernel_rfl) (by simp) ?_
  refine AllReadyH.cons rfl (fun K hK => ?_) (AllReadyH.cons rfl (fun K hK => ?_) AllReadyH.nil)
  · go_simp
    refine hK.out _ _ (hHeld.alloc _) (fun hHeld => ?_)
    clear hK K
    try simp only [Act.put]
    try simp only [List.setIfInBounds_toArray]
    try simp only [List.set_cons_succ]
    try simp only [List.set_cons_zero]
    refine wpAnyH_ready (rs := [5, 11]) (by kernel_rfl) (by simp) ?_
    refine AllReadyH.cons rfl (fun K hK => ?_) (AllReadyH.cons rfl (fun K hK => ?_) AllReadyH.nil)
    · go_simp
      with_reducible refine (hF _ _ ?_).mono ?_
      · exact Blk.new_ _ _ _
      rintro e w4 ⟨rfl, rfl⟩
      try go_wp2_with fail
      refine hK.out _ _ hHeld (fun hHeld => ?_)
      clear hK K
      try simp only [Act.put]
      try simp only [List.setIfInBounds_toArray]
      try simp only [List.set_cons_succ]
      try simp only [List.set_cons_zero]
      refine wpAnyH_ready (rs := [6, 11]) (by kernel_rfl) (by simp) ?_
      refine AllReadyH.cons rfl (fun K hK => ?_) (AllReadyH.cons rfl (fun K hK => ?_) AllReadyH.nil)
      · go_simp
        with_reducible refine (hT _ _ _ _ _ _ _ _ (hS.below hHeld.b)).mono ?_
        rintro e w5 ⟨rfl, hb5⟩
        try go_wp2_with fail
        refine hK.out _ _ (hHeld.later hb5) (fun hHeld => ?_)
        clear hK K
        try simp only [Act.put]
        try simp only [List.setIfInBounds_toArray]
        try simp only [List.set_cons_succ]
        try simp only [List.set_cons_zero]
        refine wpAnyH_take (i := 7) (v := ?_) rfl (by kernel_rfl) (by kernel_rfl) (by kernel_rfl) (fun _ _ _ h => h) (Or.inl ⟨by kernel_rfl, ?_⟩) (by assumption) ?_
        rotate_left
        · intro wx hSx
          obtain ⟨hy, hr, hb⟩ := hSx
          go_simp
          try with_reducible rfl
        try simp only [Act.put]
        try simp only [List.setIfInBounds_toArray]
        try simp only [List.set_cons_succ]
        try simp only [List.set_cons_zero]
        refine wpAnyH_take (i := 8) (v := ?_) rfl (by kernel_rfl) (by kernel_rfl) (by kernel_rfl) (fun _ _ _ h => h) (Or.inl ⟨by kernel_rfl, ?_⟩) (by assumption) ?_
        rotate_left
        · intro wx hSx
          obtain ⟨hy, hr, hb⟩ := hSx
          go_simp
          try with_reducible rfl
        try simp only [Act.put]
        try simp only [List.setIfInBounds_toArray]
        try simp only [List.set_cons_succ]
        try simp only [List.set_cons_zero]
        refine wpAnyH_take (i := 9) (v := ?_) rfl (by kernel_rfl) (by kernel_rfl) (by kernel_rfl) (fun _ _ _ h => h) (Or.inl ⟨by kernel_rfl, ?_⟩) (by assumption) ?_
        rotate_left
        · intro wx hSx
          obtain ⟨hy, hr, hb⟩ := hSx
          go_simp
          try with_reducible rfl
        try simp only [Act.put]
        try simp only [List.setIfInBounds_toArray]
        try simp only [List.set_cons_succ]
        try simp only [List.set_cons_zero]
        refine wpAnyH_take (i := 10) (v := ?_) rfl (by kernel_rfl) (by kernel_rfl) (by kernel_rfl) (fun _ _ _ h => h) (Or.inl ⟨by kernel_rfl, ?_⟩) (by assumption) ?_
        rotate_left
        · intro wx hSx
          obtain ⟨hy, hr, hb⟩ := hSx
          go_simp
          try with_reducible rfl
        try simp only [Act.put]
        try simp only [List.setIfInBounds_toArray]
        try simp only [List.set_cons_succ]
        try simp only [List.set_cons_zero]
        refine wpAnyH_ready (rs := [11]) (by kernel_rfl) (by simp) ?_
        refine AllReadyH.cons rfl (fun K hK => ?_) AllReadyH.nil
        have hH0 := hHeld
        obtain ⟨hB8, n8⟩ := hHeld.new8
        go_simp
        try simp only [World.size_drew] at hB8 n8
        try simp only [World.size_alloc] at hB8 n8
        refine hK.out _ _ (hHeld.alloc _) (fun hHeld => ?_)
        clear hK K
        try simp only [Act.put]
        try simp only [List.setIfInBounds_toArray]
        try simp only [List.set_cons_succ]
        try simp only [List.set_cons_zero]
        refine wpAnyH_ready (rs := [12]) (by kernel_rfl) (by simp) ?_
        refine AllReadyH.cons rfl (fun K hK => ?_) AllReadyH.nil
        go_simp
        have hB9 := hH0.last #[.int .i64 0, .int .i64 0, .string ByteArray.empty, .slice none 0 0]
        refine hK.out _ _ (hH0.alloc _) (fun hHeld => ?_)
        clear hK K
        try simp only [Act.put]
        try simp only [List.setIfInBounds_toArray]
        try simp only [List.set_cons_succ]
        try simp only [List.set_cons_zero]
        refine wpAnyH_take (i := 13) (v := ?_) rfl (by kernel_rfl) (by kernel_rfl) (by kernel_rfl) (fun _ _ _ h => h) (Or.inl ⟨by kernel_rfl, ?_⟩) (by assumption) ?_
        rotate_left
        · intro wx hSx
          obtain ⟨hy, hr, hb⟩ := hSx
          go_simp
          try with_reducible rfl
        try simp only [Act.put]
        try simp only [List.setIfInBounds_toArray]
        try simp only [List.set_cons_succ]
        try simp only [List.set_cons_zero]
        refine wpAnyH_take (i := 14) (v := ?_) rfl (by kernel_rfl) (by kernel_rfl) (by kernel_rfl) (fun _ _ _ h => h) (Or.inl ⟨by kernel_rfl, ?_⟩) (by assumption) ?_
        rotate_left
        · intro wx hSx
          obtain ⟨hy, hr, hb⟩ := hSx
          go_simp
          try with_reducible rfl
        try simp only [Act.put]
        try simp only [List.setIfInBounds_toArray]
        try simp only [List.set_cons_succ]
        try simp only [List.set_cons_zero]
        refine wpAnyH_done (by kernel_rfl) ?_ _
        obtain ⟨a0, a1, a2, a3, -, -, -, -⟩ := hB9.c4
        obtain ⟨b0, b1, b2, b3, bb0, bb1, bb2, bb3⟩ := hHeld.r.c4
        go_wp2_with fail
        exact bodyPost_ret (v := _) (ret_item (pt := 2) (u := 3) (by kernel_rfl) rfl (blk_set4 hHeld.r _ _ _ _)) rfl ⟨rfl, below_set4 hHeld.b (Nat.le_refl _) _ _ _ _⟩
      · have hH0 := hHeld
        obtain ⟨hB8, n8⟩ := hHeld.new8
        go_simp
        try simp only [World.size_drew] at hB8 n8
        try simp only [World.size_alloc] at hB8 n8
        refine hK.out _ _ (hHeld.alloc _) (fun hHeld => ?_)
        clear hK K
        try simp only [Act.put]
        try simp only [List.setIfInBounds_toArray]
        try simp only [List.set_cons_succ]
        try simp only [List.set_cons_zero]
        refine wpAnyH_ready (rs := [6]) (by kernel_rfl) (by simp) ?_
        refine AllReadyH.cons rfl (fun K hK => ?_) AllReadyH.nil
        go_simp
        with_reducible refine (hT _ _ _ _ _ _ _ _ (hS.below hHeld.b)).mono ?_
        rintro e w5 ⟨rfl, hb5⟩
        try go_wp2_with fail
        replace hB8 := hB8.below hb5
        refine hK.out _ _ (hHeld.later hb5) (fun hHeld => ?_)
        clear hK K
        try simp only [Act.put]
        try simp only [List.setIfInBounds_toArray]
        try simp only [List.set_cons_succ]
        try simp only [List.set_cons_zero]
        refine wpAnyH_take (i := 7) (v := ?_) rfl (by kernel_rfl) (by kernel_rfl) (by kernel_rfl) (fun _ _ _ h => h) (Or.inl ⟨by kernel_rfl, ?_⟩) (by assumption) ?_
        rotate_left
        · intro wx hSx
          obtain ⟨hy, hr, hb⟩ := hSx
          go_simp
          try with_reducible rfl
        try simp only [Act.put]
        try simp only [List.setIfInBounds_toArray]
        try simp only [List.set_cons_succ]
        try simp only [List.set_cons_zero]
        refine wpAnyH_take (i := 8) (v := ?_) rfl (by kernel_rfl) (by kernel_rfl) (by kernel_rfl) (fun _ _ _ h => h) (Or.inl ⟨by kernel_rfl, ?_⟩) (by assumption) ?_
        rotate_left
        · intro wx hSx
          obtain ⟨hy, hr, hb⟩ := hSx
          go_simp
          try with_reducible rfl
        try simp only [Act.put]
        try simp only [List.setIfInBounds_toArray]
        try simp only [List.set_cons_succ]
        try simp only [List.set_cons_zero]
        refine wpAnyH_take (i := 9) (v := ?_) rfl (by kernel_rfl) (by kernel_rfl) (by kernel_rfl) (fun _ _ _ h => h) (Or.inl ⟨by kernel_rfl, ?_⟩) (by assumption) ?_
        rotate_left
        · intro wx hSx
          obtain ⟨hy, hr, hb⟩ := hSx
          go_simp
          try with_reducible rfl
        try simp only [Act.put]
        try simp only [List.setIfInBounds_toArray]
        try simp only [List.set_cons_succ]
        try simp only [List.set_cons_zero]
        refine wpAnyH_take (i := 10) (v := ?_) rfl (by kernel_rfl) (by kernel_rfl) (by kernel_rfl) (fun _ _ _ h => h) (Or.inl ⟨by kernel_rfl, ?_⟩) (by assumption) ?_
        rotate_left
        · intro wx hSx
          obtain ⟨hy, hr, hb⟩ := hSx
          go_simp
          try with_reducible rfl
        try simp only [Act.put]
        try simp only [List.setIfInBounds_toArray]
        try simp only [List.set_cons_succ]
        try simp only [List.set_cons_zero]
        refine wpAnyH_ready (rs := [12]) (by kernel_rfl) (by simp) ?_
        refine AllReadyH.cons rfl (fun K hK => ?_) AllReadyH.nil
        obtain ⟨e0, e1, e2, e3, f0, f1, f2, f3⟩ := hB8.c4
        go_simp
        have hB9 := blk_set4 hB8 (.int .i64 0) (.int .i64 0) (.string ByteArray.empty) (.slice none 0 0)
        refine hK.out _ _ (hHeld.set4 n8 _ _ _ _) (fun hHeld => ?_)
        clear hK K
        try simp only [Act.put]
        try simp only [List.setIfInBounds_toArray]
        try simp only [List.set_cons_succ]
        try simp only [List.set_cons_zero]
        refine wpAnyH_take (i := 13) (v := ?_) rfl (by kernel_rfl) (by kernel_rfl) (by kernel_rfl) (fun _ _ _ h => h) (Or.inl ⟨by kernel_rfl, ?_⟩) (by assumption) ?_
        rotate_left
        · intro wx hSx
          obtain ⟨hy, hr, hb⟩ := hSx
          go_simp
          try with_reducible rfl
        try simp only [Act.put]
        try simp only [List.setIfInBounds_toArray]
        try simp only [List.set_cons_succ]
        try simp only [List.set_cons_zero]
        refine wpAnyH_take (i := 14) (v := ?_) rfl (by kernel_rfl) (by kernel_rfl) (by kernel_rfl) (fun _ _ _ h => h) (Or.inl ⟨by kernel_rfl, ?_⟩) (by assumption) ?_
        rotate_left
        · intro wx hSx
          obtain ⟨hy, hr, hb⟩ := hSx
          go_simp
          try with_reducible rfl
        try simp only [Act.put]
        try simp only [List.setIfInBounds_toArray]
        try simp only [List.set_cons_succ]
        try simp only [List.set_cons_zero]
        refine wpAnyH_done (by kernel_rfl) ?_ _
        obtain ⟨a0, a1, a2, a3, -, -, -, -⟩ := hB9.c4
        obtain ⟨b0, b1, b2, b3, bb0, bb1, bb2, bb3⟩ := hHeld.r.c4
        go_wp2_with fail
        exact bodyPost_ret (v := _) (ret_item (pt := 2) (u := 3) (by kernel_rfl) rfl (blk_set4 hHeld.r _ _ _ _)) rfl ⟨rfl, below_set4 hHeld.b (Nat.le_refl _) _ _ _ _⟩
    · have hH0 := hHeld
      obtain ⟨hB8, n8⟩ := hHeld.new8
      go_simp
      try simp only [World.size_drew] at hB8 n8
      try simp only [World.size_alloc] at hB8 n8
      refine hK.out _ _ (hHeld.alloc _) (fun hHeld => ?_)
      clear hK K
      try simp only [Act.put]
      try simp only [List.setIfInBounds_toArray]
      try simp only [List.set_cons_succ]
      try simp only [List.set_cons_zero]
      refine wpAnyH_ready (rs := [5]) (by kernel_rfl) (by simp) ?_
      refine AllReadyH.cons rfl (fun K hK => ?_) AllReadyH.nil
      go_simp
      with_reducible refine (hF _ _ ?_).mono ?_
      · exact (Blk.new_ _ _ _).alloc _
      rintro e w4 ⟨rfl, rfl⟩
      try go_wp2_with fail
      refine hK.out _ _ hHeld (fun hHeld => ?_)
      clear hK K
      try simp only [Act.put]
      try simp only [List.setIfInBounds_toArray]
      try simp only [List.set_cons_succ]
      try simp only [List.set_cons_zero]
      refine wpAnyH_ready (rs := [6]) (by kernel_rfl) (by simp) ?_
      refine AllReadyH.cons rfl (fun K hK => ?_) AllReadyH.nil
      go_simp
      with_reducible refine (hT _ _ _ _ _ _ _ _ (hS.below hHeld.b)).mono ?_
      rintro e w5 ⟨rfl, hb5⟩
      try go_wp2_with fail
      replace hB8 := hB8.below hb5
      refine hK.out _ _ (hHeld.later hb5) (fun hHeld => ?_)
      clear hK K
      try simp only [Act.put]
      try simp only [List.setIfInBounds_toArray]
      try simp only [List.set_cons_succ]
      try simp only [List.set_cons_zero]
      refine wpAnyH_take (i := 7) (v := ?_) rfl (by kernel_rfl) (by kernel_rfl) (by kernel_rfl) (fun _ _ _ h => h) (Or.inl ⟨by kernel_rfl, ?_⟩) (by assumption) ?_
      rotate_left
      · intro wx hSx
        obtain ⟨hy, hr, hb⟩ := hSx
        go_simp
        try with_reducible rfl
      try simp only [Act.put]
      try simp only [List.setIfInBounds_toArray]
      try simp only [List.set_cons_succ]
      try simp only [List.set_cons_zero]
      refine wpAnyH_take (i := 8) (v := ?_) rfl (by kernel_rfl) (by kernel_rfl) (by kernel_rfl) (fun _ _ _ h => h) (Or.inl ⟨by kernel_rfl, ?_⟩) (by assumption) ?_
      rotate_left
      · intro wx hSx
        obtain ⟨hy, hr, hb⟩ := hSx
        go_simp
        try with_reducible rfl
      try simp only [Act.put]
      try simp only [List.setIfInBounds_toArray]
      try simp only [List.set_cons_succ]
      try simp only [List.set_cons_zero]
      refine wpAnyH_take (i := 9) (v := ?_) rfl (by kernel_rfl) (by kernel_rfl) (by kernel_rfl) (fun _ _ _ h => h) (Or.inl ⟨by kernel_rfl, ?_⟩) (by assumption) ?_
      rotate_left
      · intro wx hSx
        obtain ⟨hy, hr, hb⟩ := hSx
        go_simp
        try with_reducible rfl
      try simp only [Act.put]
      try simp only [List.setIfInBounds_toArray]
      try simp only [List.set_cons_succ]
      try simp only [List.set_cons_zero]
      refine wpAnyH_take (i := 10) (v := ?_) rfl (by kernel_rfl) (by kernel_rfl) (by kernel_rfl) (fun _ _ _ h => h) (Or.inl ⟨by kernel_rfl, ?_⟩) (by assumption) ?_
      rotate_left
      · intro wx hSx
        obtain ⟨hy, hr, hb⟩ := hSx
        go_simp
        try with_reducible rfl
      try simp only [Act.put]
      try simp only [List.setIfInBounds_toArray]
      try simp only [List.set_cons_succ]
      try simp only [List.set_cons_zero]
      refine wpAnyH_ready (rs := [12]) (by kernel_rfl) (by simp) ?_
      refine AllReadyH.cons rfl (fun K hK => ?_) AllReadyH.nil
      obtain ⟨e0, e1, e2, e3, f0, f1, f2, f3⟩ := hB8.c4
      go_simp
      have hB9 := blk_set4 hB8 (.int .i64 0) (.int .i64 0) (.string ByteArray.empty) (.slice none 0 0)
      refine hK.out _ _ (hHeld.set4 n8 _ _ _ _) (fun hHeld => ?_)
      clear hK K
      try simp only [Act.put]
      try simp only [List.setIfInBounds_toArray]
      try simp only [List.set_cons_succ]
      try simp only [List.set_cons_zero]
      refine wpAnyH_take (i := 13) (v := ?_) rfl (by kernel_rfl) (by kernel_rfl) (by kernel_rfl) (fun _ _ _ h => h) (Or.inl ⟨by kernel_rfl, ?_⟩) (by assumption) ?_
      rotate_left
      · intro wx hSx
        obtain ⟨hy, hr, hb⟩ := hSx
        go_simp
        try with_reducible rfl
      try simp only [Act.put]
      try simp only [List.setIfInBounds_toArray]
      try simp only [List.set_cons_succ]
      try simp only [List.set_cons_zero]
      refine wpAnyH_take (i := 14) (v := ?_) rfl (by kernel_rfl) (by kernel_rfl) (by kernel_rfl) (fun _ _ _ h => h) (Or.inl ⟨by kernel_rfl, ?_⟩) (by assumption) ?_
      rotate_left
      · intro wx hSx
        obtain ⟨hy, hr, hb⟩ := hSx
        go_simp
        try with_reducible rfl
      try simp only [Act.put]
      try simp only [List.setIfInBounds_toArray]
      try simp only [List.set_cons_succ]
      try simp only [List.set_cons_zero]
      refine wpAnyH_done (by kernel_rfl) ?_ _
      obtain ⟨a0, a1, a2, a3, -, -, -, -⟩ := hB9.c4
      obtain ⟨b0, b1, b2, b3, bb0, bb1, bb2, bb3⟩ := hHeld.r.c4
      go_wp2_with fail
      exact bodyPost_ret (v := _) (ret_item (pt := 2) (u := 3) (by kernel_rfl) rfl (blk_set4 hHeld.r _ _ _ _)) rfl ⟨rfl, below_set4 hHeld.b (Nat.le_refl _) _ _ _ _⟩
  · have hH0 := hHeld
    obtain ⟨hB8, n8⟩ := hHeld.new8
    go_simp
    try simp only [World.size_drew] at hB8 n8
    try simp only [World.size_alloc] at hB8 n8
    refine hK.out _ _ (hHeld.alloc _) (fun hHeld => ?_)
    clear hK K
    try simp only [Act.put]
    try simp only [List.setIfInBounds_toArray]
    try simp only [List.set_cons_succ]
    try simp only [List.set_cons_zero]
    refine wpAnyH_ready (rs := [4]) (by kernel_rfl) (by simp) ?_
    refine AllReadyH.cons rfl (fun K hK => ?_) AllReadyH.nil
    go_simp
    replace hB8 := hB8.alloc (.cells #[.nilIface, .iface 68 (.agg #[.int .i64 20])] 48)
    refine hK.out _ _ (hHeld.alloc _) (fun hHeld => ?_)
    clear hK K
    try simp only [Act.put]
    try simp only [List.setIfInBounds_toArray]
    try simp only [List.set_cons_succ]
    try simp only [List.set_cons_zero]
    refine wpAnyH_ready (rs := [5]) (by kernel_rfl) (by simp) ?_
    refine AllReadyH.cons rfl (fun K hK => ?_) AllReadyH.nil
    go_simp
    with_reducible refine (hF _ _ ?_).mono ?_
    · exact Blk.at_ (by simp)
    rintro e w4 ⟨rfl, rfl⟩
    try go_wp2_with fail
    refine hK.out _ _ hHeld (fun hHeld => ?_)
    clear hK K
    try simp only [Act.put]
    try simp only [List.setIfInBounds_toArray]
    try simp only [List.set_cons_succ]
    try simp only [List.set_cons_zero]
    refine wpAnyH_ready (rs := [6]) (by kernel_rfl) (by simp) ?_
    refine AllReadyH.cons rfl (fun K hK => ?_) AllReadyH.nil
    go_simp
    with_reducible refine (hT _ _ _ _ _ _ _ _ (hS.below hHeld.b)).mono ?_
    rintro e w5 ⟨rfl, hb5⟩
    try go_wp2_with fail
    replace hB8 := hB8.below hb5
    refine hK.out _ _ (hHeld.later hb5) (fun hHeld => ?_)
    clear hK K
    try simp only [Act.put]
    try simp only [List.setIfInBounds_toArray]
    try simp only [List.set_cons_succ]
    try simp only [List.set_cons_zero]
    refine wpAnyH_take (i := 7) (v := ?_) rfl (by kernel_rfl) (by kernel_rfl) (by kernel_rfl) (fun _ _ _ h => h) (Or.inl ⟨by kernel_rfl, ?_⟩) (by assumption) ?_
    rotate_left
    · intro wx hSx
      obtain ⟨hy, hr, hb⟩ := hSx
      go_simp
      try with_reducible rfl
    try simp only [Act.put]
    try simp only [List.setIfInBounds_toArray]
    try simp only [List.set_cons_succ]
    try simp only [List.set_cons_zero]
    refine wpAnyH_take (i := 8) (v := ?_) rfl (by kernel_rfl) (by kernel_rfl) (by kernel_rfl) (fun _ _ _ h => h) (Or.inl ⟨by kernel_rfl, ?_⟩) (by assumption) ?_
    rotate_left
    · intro wx hSx
      obtain ⟨hy, hr, hb⟩ := hSx
      go_simp
      try with_reducible rfl
    try simp only [Act.put]
    try simp only [List.setIfInBounds_toArray]
    try simp only [List.set_cons_succ]
    try simp only [List.set_cons_zero]
    refine wpAnyH_take (i := 9) (v := ?_) rfl (by kernel_rfl) (by kernel_rfl) (by kernel_rfl) (fun _ _ _ h => h) (Or.inl ⟨by kernel_rfl, ?_⟩) (by assumption) ?_
    rotate_left
    · intro wx hSx
      obtain ⟨hy, hr, hb⟩ := hSx
      go_simp
      try with_reducible rfl
    try simp only [Act.put]
    try simp only [List.setIfInBounds_toArray]
    try simp only [List.set_cons_succ]
    try simp only [List.set_cons_zero]
    refine wpAnyH_take (i := 10) (v := ?_) rfl (by kernel_rfl) (by kernel_rfl) (by kernel_rfl) (fun _ _ _ h => h) (Or.inl ⟨by kernel_rfl, ?_⟩) (by assumption) ?_
    rotate_left
    · intro wx hSx
      obtain ⟨hy, hr, hb⟩ := hSx
      go_simp
      try with_reducible rfl
    try simp only [Act.put]
    try simp only [List.setIfInBounds_toArray]
    try simp only [List.set_cons_succ]
    try simp only [List.set_cons_zero]
    refine wpAnyH_ready (rs := [12]) (by kernel_rfl) (by simp) ?_
    refine AllReadyH.cons rfl (fun K hK => ?_) AllReadyH.nil
    obtain ⟨e0, e1, e2, e3, f0, f1, f2, f3⟩ := hB8.c4
    go_simp
    have hB9 := blk_set4 hB8 (.int .i64 0) (.int .i64 0) (.string ByteArray.empty) (.slice none 0 0)
    refine hK.out _ _ (hHeld.set4 n8 _ _ _ _) (fun hHeld => ?_)
    clear hK K
    try simp only [Act.put]
    try simp only [List.setIfInBounds_toArray]
    try simp only [List.set_cons_succ]
    try simp only [List.set_cons_zero]
    refine wpAnyH_take (i := 13) (v := ?_) rfl (by kernel_rfl) (by kernel_rfl) (by kernel_rfl) (fun _ _ _ h => h) (Or.inl ⟨by kernel_rfl, ?_⟩) (by assumption) ?_
    rotate_left
    · intro wx hSx
      obtain ⟨hy, hr, hb⟩ := hSx
      go_simp
      try with_reducible rfl
    try simp only [Act.put]
    try simp only [List.setIfInBounds_toArray]
    try simp only [List.set_cons_succ]
    try simp only [List.set_cons_zero]
    refine wpAnyH_take (i := 14) (v := ?_) rfl (by kernel_rfl) (by kernel_rfl) (by kernel_rfl) (fun _ _ _ h => h) (Or.inl ⟨by kernel_rfl, ?_⟩) (by assumption) ?_
    rotate_left
    · intro wx hSx
      obtain ⟨hy, hr, hb⟩ := hSx
      go_simp
      try with_reducible rfl
    try simp only [Act.put]
    try simp only [List.setIfInBounds_toArray]
    try simp only [List.set_cons_succ]
    try simp only [List.set_cons_zero]
    refine wpAnyH_done (by kernel_rfl) ?_ _
    obtain ⟨a0, a1, a2, a3, -, -, -, -⟩ := hB9.c4
    obtain ⟨b0, b1, b2, b3, bb0, bb1, bb2, bb3⟩ := hHeld.r.c4
    go_wp2_with fail
    exact bodyPost_ret (v := _) (ret_item (pt := 2) (u := 3) (by kernel_rfl) rfl (blk_set4 hHeld.r _ _ _ _)) rfl ⟨rfl, below_set4 hHeld.b (Nat.le_refl _) _ _ _ _⟩


end Go.Proofs.YtmoghgmbpkpcfaaGreatDoor
