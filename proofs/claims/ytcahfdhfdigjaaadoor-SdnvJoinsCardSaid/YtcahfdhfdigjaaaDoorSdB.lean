/-
  Package sdnv: the number that stands next (next). Conditions: as the theorems' own hypotheses say.
-/
import Derived.Test.YtcahfdhfdigjaaaDoorSdA
namespace Go.Proofs.YtcahfdhfdigjaaaDoor
open Go.RowKit

/-- A scope out of which the run jumps to one label, once. -/
theorem wp_scope_once {P : Program} {a : Act} {w : World} {Q : Exit → Act → World → Prop} {c rest : Code} (l : Nat) (hf : findLabel c l = some rest)
    (first : c.wp P (Exit.jump l (fun a w => rest.wp P (Exit.noGoto Q) a w) Q) a w) : (Code.scope c).wp P Q a w :=
  wp_scope_jumps l (fun a w => rest.wp P (Exit.noGoto Q) a w) (fun _ _ => 0) hf first (fun _ _ h => Code.wp_mono (fun e a w hq => by
    cases e with
    | goto l => exact (hq : False).elim
    | _ => exact hq) h)

/-- Memory grows, and of what was there only block g may turn. -/
structure Besides (g : Nat) (w w' : World) : Prop where
  os : w'.os = w.os
  tape : w'.tape = w.tape
  output : w'.output = w.output
  size : w.heap.size ≤ w'.heap.size
  block : ∀ k, k < w.heap.size → k ≠ g → w'.heap[k]? = w.heap[k]?
theorem Besides.refl (g : Nat) (w : World) : Besides g w w := ⟨rfl, rfl, rfl, Nat.le_refl _, fun _ _ _ => rfl⟩
theorem Besides.trans {g : Nat} {a b c : World} (h : Besides g a b) (k : Besides g b c) : Besides g a c :=
  ⟨k.os.trans h.os, k.tape.trans h.tape, k.output.trans h.output, Nat.le_trans h.size k.size, fun i hi hn => (k.block i (Nat.lt_of_lt_of_le hi h.size) hn).trans (h.block i hi hn)⟩
theorem Besides.of_below {g : Nat} {a b : World} (h : Below a.heap.size a b) : Besides g a b := ⟨h.os, h.tape, h.output, h.size, fun k hk _ => h.block k hk⟩
theorem Besides.drewN {g : Nat} {a b : World} (h : Besides g a b) (n : Nat) : Besides g a (b.drewN n) := ⟨h.os, h.tape, h.output, h.size, h.block⟩
theorem Besides.set_ {g : Nat} {a b : World} (h : Besides g a b) (i : Nat) (v : Value) : Besides g a (b.setCell ⟨g, i, none⟩ v) :=
  ⟨h.os, h.tape, h.output, by rw [World.size_setCell]; exact h.size, fun k hk hn => by
    rw [show (b.setCell ⟨g, i, none⟩ v).heap[k]? = b.heap[k]? by simp [World.setCell, Array.getElem?_modify, Ne.symm hn]]
    exact h.block k hk hn⟩
theorem Besides.below {g : Nat} {a b : World} {B : Nat} (h : Besides g a b) (h1 : B ≤ g) (h2 : B ≤ a.heap.size) : Below B a b := ⟨h.os, h.tape, h.output, h.size, fun k hk => h.block k (by omega) (by omega)⟩
theorem Besides.cell {g : Nat} {a b : World} {p : Addr} {v : Value} (h : Besides g a b) (hp : a.cell? p = some v) (hn : p.block ≠ g) : b.cell? p = some v := by
  rw [World.cell?_of_block (h.block _ (cell_lt hp) hn)]; exact hp
theorem SInv.besides {g : Nat} {w w' : World} (h : SInv w) (hb : Besides g w w') (hg : g ≠ 0) : SInv w' := by
  unfold SInv at h ⊢
  exact hb.cell h (fun e => hg e.symm)

set_option maxRecDepth 100000 in
theorem next_short (s : ByteArray) (a : Int) (out : Value) (g : Nat) (w : World) (hB : Blk w g 52 #[.string s, .int .i64 a, out]) (hs : s.size ≤ 9223372036854775807) (ha : a ≤ 9223372036854775807) (hV : endV s a = (0, false)) :
    Calls Tryd.prog 28 #[.pointer (some ⟨g, 0, none⟩)] w (Ret (.tuple #[.int .i64 0, WrV 11]) w) := by
  have HE := fun w' => end_any s a w' hs ha
  rw [hV] at HE
  dsimp only at HE
  unfold WrV
  go_enter Tryd.func28, Tryd.ntmps28
  go_wp2
  refine wp_scope_once 0 rfl ?_
  go_wp2_with fail
  refine wp_region_held_drew (S := (fun w' => Below w.heap.size w w')) (by kernel_rfl) (Below.refl _ _).drew (fun hHeld => ?_)
  refine wpAnyH_take (i := 0) (v := ?_) rfl (by kernel_rfl) (by kernel_rfl) (by kernel_rfl) (fun _ _ _ h => h) (Or.inl ⟨by kernel_rfl, ?_⟩) (by assumption) ?_
  rotate_left
  · intro wx hSx
    go_simp
    try with_reducible rfl
  try simp only [Act.put]
  try simp only [List.setIfInBounds_toArray]
  try simp only [List.set_cons_succ]
  try simp only [List.set_cons_zero]
  refine wpAnyH_take (i := 1) (v := ?_) rfl (by kernel_rfl) (by kernel_rfl) (by kernel_rfl) (fun _ _ _ h => h) (Or.inl ⟨by kernel_rfl, ?_⟩) (by assumption) ?_
  rotate_left
  · intro wx hSx
    go_simp
    try with_reducible rfl
  try simp only [Act.put]
  try simp only [List.setIfInBounds_toArray]
  try simp only [List.set_cons_succ]
  try simp only [List.set_cons_zero]
  refine wpAnyH_take (i := 2) (v := ?_) rfl (by kernel_rfl) (by kernel_rfl) (by kernel_rfl) (fun _ _ _ h => h) (Or.inl ⟨by kernel_rfl, ?_⟩) (by assumption) ?_
  rotate_left
  · intro wx hSx
    go_simp
    try with_reducible rfl
  try simp only [Act.put]
  try simp only [List.setIfInBounds_toArray]
  try simp only [List.set_cons_succ]
  try simp only [List.set_cons_zero]
  refine wpAnyH_take (i := 3) (v := ?_) rfl (by kernel_rfl) (by kernel_rfl) (by kernel_rfl) (fun _ _ _ h => h) (Or.inl ⟨by kernel_rfl, ?_⟩) (by assumption) ?_
  rotate_left
  · intro wx hSx
    have hx0 := (hB.below hSx).cell 0
    have hx1 := (hB.below hSx).cell 1
    simp only [List.getElem?_toArray, List.getElem?_cons_zero, List.getElem?_cons_succ] at hx0 hx1
    go_simp
    try with_reducible rfl
  try simp only [Act.put]
  try simp only [List.setIfInBounds_toArray]
  try simp only [List.set_cons_succ]
  try simp only [List.set_cons_zero]
  refine wpAnyH_take (i := 4) (v := ?_) rfl (by kernel_rfl) (by kernel_rfl) (by kernel_rfl) (fun _ _ _ h => h) (Or.inl ⟨by kernel_rfl, ?_⟩) (by assumption) ?_
  rotate_left
  · intro wx hSx
    go_simp
    try with_reducible rfl
  try simp only [Act.put]
  try simp only [List.setIfInBounds_toArray]
  try simp only [List.set_cons_succ]
  try simp only [List.set_cons_zero]
  refine wpAnyH_take (i := 5) (v := ?_) rfl (by kernel_rfl) (by kernel_rfl) (by kernel_rfl) (fun _ _ _ h => h) (Or.inl ⟨by kernel_rfl, ?_⟩) (by assumption) ?_
  rotate_left
  · intro wx hSx
    go_simp
    try with_reducible rfl
  try simp only [Act.put]
  try simp only [List.setIfInBounds_toArray]
  try simp only [List.set_cons_succ]
  try simp only [List.set_cons_zero]
  refine wpAnyH_take (i := 6) (v := ?_) rfl (by kernel_rfl) (by kernel_rfl) (by kernel_rfl) (fun _ _ _ h => h) (Or.inl ⟨by kernel_rfl, ?_⟩) (by assumption) ?_
  rotate_left
  · intro wx hSx
    go_simp
    try with_reducible rfl
  try simp only [Act.put]
  try simp only [List.setIfInBounds_toArray]
  try simp only [List.set_cons_succ]
  try simp only [List.set_cons_zero]
  refine wpAnyH_take (i := 7) (v := ?_) rfl (by kernel_rfl) (by kernel_rfl) (by kernel_rfl) (fun _ _ _ h => h) (Or.inl ⟨by kernel_rfl, ?_⟩) (by assumption) ?_
  rotate_left
  · intro wx hSx
    have hx0 := (hB.below hSx).cell 0
    have hx1 := (hB.below hSx).cell 1
    simp only [List.getElem?_toArray, List.getElem?_cons_zero, List.getElem?_cons_succ] at hx0 hx1
    go_simp
    try with_reducible rfl
  try simp only [Act.put]
  try simp only [List.setIfInBounds_toArray]
  try simp only [List.set_cons_succ]
  try simp only [List.set_cons_zero]
  refine wpAnyH_ready (rs := [8]) (by kernel_rfl) (by simp) ?_
  refine AllReadyH.cons rfl (fun K hK => ?_) AllReadyH.nil
  go_simp
  refine (HE _).mono ?_
  rintro e w1 ⟨rfl, hb1⟩
  try go_wp2_with fail
  refine hK.out _ _ (ext_trans hHeld hb1) (fun hHeld => ?_)
  clear hK K
  try simp only [Act.put]
  try simp only [List.setIfInBounds_toArray]
  try simp only [List.set_cons_succ]
  try simp only [List.set_cons_zero]
  refine wpAnyH_take (i := 9) (v := ?_) rfl (by kernel_rfl) (by kernel_rfl) (by kernel_rfl) (fun _ _ _ h => h) (Or.inl ⟨by kernel_rfl, ?_⟩) (by assumption) ?_
  rotate_left
  · intro wx hSx
    go_simp
    try with_reducible rfl
  try simp only [Act.put]
  try simp only [List.setIfInBounds_toArray]
  try simp only [List.set_cons_succ]
  try simp only [List.set_cons_zero]
  refine wpAnyH_take (i := 10) (v := ?_) rfl (by kernel_rfl) (by kernel_rfl) (by kernel_rfl) (fun _ _ _ h => h) (Or.inl ⟨by kernel_rfl, ?_⟩) (by assumption) ?_
  rotate_left
  · intro wx hSx
    go_simp
    try with_reducible rfl
  try simp only [Act.put]
  try simp only [List.setIfInBounds_toArray]
  try simp only [List.set_cons_succ]
  try simp only [List.set_cons_zero]
  refine wpAnyH_take (i := 11) (v := ?_) rfl (by kernel_rfl) (by kernel_rfl) (by kernel_rfl) (fun _ _ _ h => h) (Or.inl ⟨by kernel_rfl, ?_⟩) (by assumption) ?_
  rotate_left
  · intro wx hSx
    go_simp
    try with_reducible rfl
  try simp only [Act.put]
  try simp only [List.setIfInBounds_toArray]
  try simp only [List.set_cons_succ]
  try simp only [List.set_cons_zero]
  refine wpAnyH_take (i := 12) (v := ?_) rfl (by kernel_rfl) (by kernel_rfl) (by kernel_rfl) (fun _ _ _ h => h) (Or.inl ⟨by kernel_rfl, ?_⟩) (by assumption) ?_
  rotate_left
  · intro wx hSx
    go_simp
    try with_reducible rfl
  try simp only [Act.put]
  try simp only [List.setIfInBounds_toArray]
  try simp only [List.set_cons_succ]
  try simp only [List.set_cons_zero]
  refine wpAnyH_take (i := 13) (v := ?_) rfl (by kernel_rfl) (by kernel_rfl) (by kernel_rfl) (fun _ _ _ h => h) (Or.inl ⟨by kernel_rfl, ?_⟩) (by assumption) ?_
  rotate_left
  · intro wx hSx
    go_simp
    try with_reducible rfl
  try simp only [Act.put]
  try simp only [List.setIfInBounds_toArray]
  try simp only [List.set_cons_succ]
  try simp only [List.set_cons_zero]
  refine wpAnyH_done (by kernel_rfl) ?_ _
  go_wp2_with fail
  go_step3
  refine ⟨rfl, ?_⟩
  go_wp2_with fail
  try simp only [Exit.noGoto_ret]
  go_ret2
  exact ⟨rfl, hHeld⟩

set_option maxRecDepth 100000 in
theorem next_form (s : ByteArray) (p k : Nat) (out : Value) (g : Nat) (w : World) (hB : Blk w g 52 #[.string s, .int .i64 (p : Int), out]) (hs : s.size ≤ 9223372036854775807) (hV : endV s (p : Int) = (((p + k : Nat) : Int), true)) (hp : p < s.size) (hb : s[p].toNat = 128) :
    Calls Tryd.prog 28 #[.pointer (some ⟨g, 0, none⟩)] w (Ret (.tuple #[.int .i64 0, WrV 20]) w) := by
  have HE := fun w' => end_any s (p : Int) w' hs (by omega)
  rw [hV] at HE
  dsimp only at HE
  unfold WrV
  go_enter Tryd.func28, Tryd.ntmps28
  go_wp2
  refine wp_scope_once 0 rfl ?_
  go_wp2_with fail
  refine wp_region_held_drew (S := (fun w' => Below w.heap.size w w')) (by kernel_rfl) (Below.refl _ _).drew (fun hHeld => ?_)
  refine wpAnyH_take (i := 0) (v := ?_) rfl (by kernel_rfl) (by kernel_rfl) (by kernel_rfl) (fun _ _ _ h => h) (Or.inl ⟨by kernel_rfl, ?_⟩) (by assumption) ?_
  rotate_left
  · intro wx hSx
    go_simp
    try with_reducible rfl
  try simp only [Act.put]
  try simp only [List.setIfInBounds_toArray]
  try simp only [List.set_cons_succ]
  try simp only [List.set_cons_zero]
  refine wpAnyH_take (i := 1) (v := ?_) rfl (by kernel_rfl) (by kernel_rfl) (by kernel_rfl) (fun _ _ _ h => h) (Or.inl ⟨by kernel_rfl, ?_⟩) (by assumption) ?_
  rotate_left
  · intro wx hSx
    go_simp
    try with_reducible rfl
  try simp only [Act.put]
  try simp only [List.setIfInBounds_toArray]
  try simp only [List.set_cons_succ]
  try simp only [List.set_cons_zero]
  refine wpAnyH_take (i := 2) (v := ?_) rfl (by kernel_rfl) (by kernel_rfl) (by kernel_rfl) (fun _ _ _ h => h) (Or.inl ⟨by kernel_rfl, ?_⟩) (by assumption) ?_
  rotate_left
  · intro wx hSx
    go_simp
    try with_reducible rfl
  try simp only [Act.put]
  try simp only [List.setIfInBounds_toArray]
  try simp only [List.set_cons_succ]
  try simp only [List.set_cons_zero]
  refine wpAnyH_take (i := 3) (v := ?_) rfl (by kernel_rfl) (by kernel_rfl) (by kernel_rfl) (fun _ _ _ h => h) (Or.inl ⟨by kernel_rfl, ?_⟩) (by assumption) ?_
  rotate_left
  · intro wx hSx
    have hx0 := (hB.below hSx).cell 0
    have hx1 := (hB.below hSx).cell 1
    simp only [List.getElem?_toArray, List.getElem?_cons_zero, List.getElem?_cons_succ] at hx0 hx1
    go_simp
    try with_reducible rfl
  try simp only [Act.put]
  try simp only [List.setIfInBounds_toArray]
  try simp only [List.set_cons_succ]
  try simp only [List.set_cons_zero]
  refine wpAnyH_take (i := 4) (v := ?_) rfl (by kernel_rfl) (by kernel_rfl) (by kernel_rfl) (fun _ _ _ h => h) (Or.inl ⟨by kernel_rfl, ?_⟩) (by assumption) ?_
  rotate_left
  · intro wx hSx
    go_simp
    try with_reducible rfl
  try simp only [Act.put]
  try simp only [List.setIfInBounds_toArray]
  try simp only [List.set_cons_succ]
  try simp only [List.set_cons_zero]
  refine wpAnyH_take (i := 5) (v := ?_) rfl (by kernel_rfl) (by kernel_rfl) (by kernel_rfl) (fun _ _ _ h => h) (Or.inl ⟨by kernel_rfl, ?_⟩) (by assumption) ?_
  rotate_left
  · intro wx hSx
    go_simp
    try with_reducible rfl
  try simp only [Act.put]
  try simp only [List.setIfInBounds_toArray]
  try simp only [List.set_cons_succ]
  try simp only [List.set_cons_zero]
  refine wpAnyH_take (i := 6) (v := ?_) rfl (by kernel_rfl) (by kernel_rfl) (by kernel_rfl) (fun _ _ _ h => h) (Or.inl ⟨by kernel_rfl, ?_⟩) (by assumption) ?_
  rotate_left
  · intro wx hSx
    go_simp
    try with_reducible rfl
  try simp only [Act.put]
  try simp only [List.setIfInBounds_toArray]
  try simp only [List.set_cons_succ]
  try simp only [List.set_cons_zero]
  refine wpAnyH_take (i := 7) (v := ?_) rfl (by kernel_rfl) (by kernel_rfl) (by kernel_rfl) (fun _ _ _ h => h) (Or.inl ⟨by kernel_rfl, ?_⟩) (by assumption) ?_
  rotate_left
  · intro wx hSx
    have hx0 := (hB.below hSx).cell 0
    have hx1 := (hB.below hSx).cell 1
    simp only [List.getElem?_toArray, List.getElem?_cons_zero, List.getElem?_cons_succ] at hx0 hx1
    go_simp
    try with_reducible rfl
  try simp only [Act.put]
  try simp only [List.setIfInBounds_toArray]
  try simp only [List.set_cons_succ]
  try simp only [List.set_cons_zero]
  refine wpAnyH_ready (rs := [8]) (by kernel_rfl) (by simp) ?_
  refine AllReadyH.cons rfl (fun K hK => ?_) AllReadyH.nil
  go_simp
  refine (HE _).mono ?_
  rintro e w1 ⟨rfl, hb1⟩
  try go_wp2_with fail
  refine hK.out _ _ (ext_trans hHeld hb1) (fun hHeld => ?_)
  clear hK K
  try simp only [Act.put]
  try simp only [List.setIfInBounds_toArray]
  try simp only [List.set_cons_succ]
  try simp only [List.set_cons_zero]
  refine wpAnyH_take (i := 9) (v := ?_) rfl (by kernel_rfl) (by kernel_rfl) (by kernel_rfl) (fun _ _ _ h => h) (Or.inl ⟨by kernel_rfl, ?_⟩) (by assumption) ?_
  rotate_left
  · intro wx hSx
    go_simp
    try with_reducible rfl
  try simp only [Act.put]
  try simp only [List.setIfInBounds_toArray]
  try simp only [List.set_cons_succ]
  try simp only [List.set_cons_zero]
  refine wpAnyH_take (i := 10) (v := ?_) rfl (by kernel_rfl) (by kernel_rfl) (by kernel_rfl) (fun _ _ _ h => h) (Or.inl ⟨by kernel_rfl, ?_⟩) (by assumption) ?_
  rotate_left
  · intro wx hSx
    go_simp
    try with_reducible rfl
  try simp only [Act.put]
  try simp only [List.setIfInBounds_toArray]
  try simp only [List.set_cons_succ]
  try simp only [List.set_cons_zero]
  refine wpAnyH_take (i := 11) (v := ?_) rfl (by kernel_rfl) (by kernel_rfl) (by kernel_rfl) (fun _ _ _ h => h) (Or.inl ⟨by kernel_rfl, ?_⟩) (by assumption) ?_
  rotate_left
  · intro wx hSx
    go_simp
    try with_reducible rfl
  try simp only [Act.put]
  try simp only [List.setIfInBounds_toArray]
  try simp only [List.set_cons_succ]
  try simp only [List.set_cons_zero]
  refine wpAnyH_take (i := 12) (v := ?_) rfl (by kernel_rfl) (by kernel_rfl) (by kernel_rfl) (fun _ _ _ h => h) (Or.inl ⟨by kernel_rfl, ?_⟩) (by assumption) ?_
  rotate_left
  · intro wx hSx
    go_simp
    try with_reducible rfl
  try simp only [Act.put]
  try simp only [List.setIfInBounds_toArray]
  try simp only [List.set_cons_succ]
  try simp only [List.set_cons_zero]
  refine wpAnyH_take (i := 13) (v := ?_) rfl (by kernel_rfl) (by kernel_rfl) (by kernel_rfl) (fun _ _ _ h => h) (Or.inl ⟨by kernel_rfl, ?_⟩) (by assumption) ?_
  rotate_left
  · intro wx hSx
    go_simp
    try with_reducible rfl
  try simp only [Act.put]
  try simp only [List.setIfInBounds_toArray]
  try simp only [List.set_cons_succ]
  try simp only [List.set_cons_zero]
  refine wpAnyH_done (by kernel_rfl) ?_ _
  have hx0 := (hB.below hHeld).cell 0
  have hx1 := (hB.below hHeld).cell 1
  simp only [List.getElem?_toArray, List.getElem?_cons_zero, List.getElem?_cons_succ] at hx0 hx1
  go_wp2_with fail
  go_quiet (fail)
  go_wp2_with fail
  go_step3
  refine ⟨rfl, ?_⟩
  go_wp2_with fail
  try simp only [Exit.noGoto_ret]
  go_ret2
  exact ⟨rfl, below_drewN' hHeld _⟩

/-- What next hands back, at groups that tell v. -/
def nextR (v : Nat) : Value := if v ≤ 281474976710655 then .tuple #[.int .i64 (v : Int), .nilIface] else .tuple #[.int .i64 0, WrV 10]
theorem v7_step (s : ByteArray) (p j : Nat) (h : p + j < s.size) : v7 ((s.data.toList.drop p).take (j + 1)) = v7 ((s.data.toList.drop p).take j) * 128 + s[p + j].toNat % 128 := by
  rw [List.take_succ_eq_append_getElem (by rw [List.length_drop, list_size]; omega), v7_snoc]
  simp
  rfl
theorem v7_take_mono (l : List UInt8) {j k : Nat} (h : j ≤ k) : v7 (l.take j) ≤ v7 (l.take k) := by
  have := v7_take_le (l.take k) j
  rwa [List.take_take, Nat.min_eq_left h] at this

set_option maxRecDepth 100000 in
set_option maxHeartbeats 2000000 in
theorem next_num (s : ByteArray) (p k : Nat) (out : Value) (g : Nat) (w : World) (hB : Blk w g 52 #[.string s, .int .i64 (p : Int), out]) (hs : s.size ≤ 9223372036854775806) (hV : endV s (p : Int) = (((p + k : Nat) : Int), true)) (hp : p + k < s.size) (hb : ¬ s[p].toNat = 128) :
    Calls Tryd.prog 28 #[.pointer (some ⟨g, 0, none⟩)] w (fun e w' => e = .returned (nextR (v7 ((s.data.toList.drop p).take (k + 1)))) ∧ Besides g w w' ∧ (∃ q : Int, Blk w' g 52 #[.string s, .int .i64 q, out]) ∧
      (v7 ((s.data.toList.drop p).take (k + 1)) ≤ 281474976710655 → Blk w' g 52 #[.string s, .int .i64 ((p + (k + 1) : Nat) : Int), out])) := by
  have HE := fun w' => end_any s (p : Int) w' (by omega) (by omega)
  rw [hV] at HE
  dsimp only at HE
  go_enter Tryd.func28, Tryd.ntmps28
  go_wp2
  refine wp_scope_once 0 rfl ?_
  go_wp2_with fail
  refine wp_region_held_drew (S := (fun w' => Below w.heap.size w w')) (by kernel_rfl) (Below.refl _ _).drew (fun hHeld => ?_)
  refine wpAnyH_take (i := 0) (v := ?_) rfl (by kernel_rfl) (by kernel_rfl) (by kernel_rfl) (fun _ _ _ h => h) (Or.inl ⟨by kernel_rfl, ?_⟩) (by assumption) ?_
  rotate_left
  · intro wx hSx
    go_simp
    try with_reducible rfl
  try simp only [Act.put]
  try simp only [List.setIfInBounds_toArray]
  try simp only [List.set_cons_succ]
  try simp only [List.set_cons_zero]
  refine wpAnyH_take (i := 1) (v := ?_) rfl (by kernel_rfl) (by kernel_rfl) (by kernel_rfl) (fun _ _ _ h => h) (Or.inl ⟨by kernel_rfl, ?_⟩) (by assumption) ?_
  rotate_left
  · intro wx hSx
    go_simp
    try with_reducible rfl
  try simp only [Act.put]
  try simp only [List.setIfInBounds_toArray]
  try simp only [List.set_cons_succ]
  try simp only [List.set_cons_zero]
  refine wpAnyH_take (i := 2) (v := ?_) rfl (by kernel_rfl) (by kernel_rfl) (by kernel_rfl) (fun _ _ _ h => h) (Or.inl ⟨by kernel_rfl, ?_⟩) (by assumption) ?_
  rotate_left
  · intro wx hSx
    go_simp
    try with_reducible rfl
  try simp only [Act.put]
  try simp only [List.setIfInBounds_toArray]
  try simp only [List.set_cons_succ]
  try simp only [List.set_cons_zero]
  refine wpAnyH_take (i := 3) (v := ?_) rfl (by kernel_rfl) (by kernel_rfl) (by kernel_rfl) (fun _ _ _ h => h) (Or.inl ⟨by kernel_rfl, ?_⟩) (by assumption) ?_
  rotate_left
  · intro wx hSx
    have hx0 := (hB.below hSx).cell 0
    have hx1 := (hB.below hSx).cell 1
    simp only [List.getElem?_toArray, List.getElem?_cons_zero, List.getElem?_cons_succ] at hx0 hx1
    go_simp
    try with_reducible rfl
  try simp only [Act.put]
  try simp only [List.setIfInBounds_toArray]
  try simp only [List.set_cons_succ]
  try simp only [List.set_cons_zero]
  refine wpAnyH_take (i := 4) (v := ?_) rfl (by kernel_rfl) (by kernel_rfl) (by kernel_rfl) (fun _ _ _ h => h) (Or.inl ⟨by kernel_rfl, ?_⟩) (by assumption) ?_
  rotate_left
  · intro wx hSx
    go_simp
    try with_reducible rfl
  try simp only [Act.put]
  try simp only [List.setIfInBounds_toArray]
  try simp only [List.set_cons_succ]
  try simp only [List.set_cons_zero]
  refine wpAnyH_take (i := 5) (v := ?_) rfl (by kernel_rfl) (by kernel_rfl) (by kernel_rfl) (fun _ _ _ h => h) (Or.inl ⟨by kernel_rfl, ?_⟩) (by assumption) ?_
  rotate_left
  · intro wx hSx
    go_simp
    try with_reducible rfl
  try simp only [Act.put]
  try simp only [List.setIfInBounds_toArray]
  try simp only [List.set_cons_succ]
  try simp only [List.set_cons_zero]
  refine wpAnyH_take (i := 6) (v := ?_) rfl (by kernel_rfl) (by kernel_rfl) (by kernel_rfl) (fun _ _ _ h => h) (Or.inl ⟨by kernel_rfl, ?_⟩) (by assumption) ?_
  rotate_left
  · intro wx hSx
    go_simp
    try with_reducible rfl
  try simp only [Act.put]
  try simp only [List.setIfInBounds_toArray]
  try simp only [List.set_cons_succ]
  try simp only [List.set_cons_zero]
  refine wpAnyH_take (i := 7) (v := ?_) rfl (by kernel_rfl) (by kernel_rfl) (by kernel_rfl) (fun _ _ _ h => h) (Or.inl ⟨by kernel_rfl, ?_⟩) (by assumption) ?_
  rotate_left
  · intro wx hSx
    have hx0 := (hB.below hSx).cell 0
    have hx1 := (hB.below hSx).cell 1
    simp only [List.getElem?_toArray, List.getElem?_cons_zero, List.getElem?_cons_succ] at hx0 hx1
    go_simp
    try with_reducible rfl
  try simp only [Act.put]
  try simp only [List.setIfInBounds_toArray]
  try simp only [List.set_cons_succ]
  try simp only [List.set_cons_zero]
  refine wpAnyH_ready (rs := [8]) (by kernel_rfl) (by simp) ?_
  refine AllReadyH.cons rfl (fun K hK => ?_) AllReadyH.nil
  go_simp
  refine (HE _).mono ?_
  rintro e w1 ⟨rfl, hb1⟩
  try go_wp2_with fail
  refine hK.out _ _ (ext_trans hHeld hb1) (fun hHeld => ?_)
  clear hK K
  try simp only [Act.put]
  try simp only [List.setIfInBounds_toArray]
  try simp only [List.set_cons_succ]
  try simp only [List.set_cons_zero]
  refine wpAnyH_take (i := 9) (v := ?_) rfl (by kernel_rfl) (by kernel_rfl) (by kernel_rfl) (fun _ _ _ h => h) (Or.inl ⟨by kernel_rfl, ?_⟩) (by assumption) ?_
  rotate_left
  · intro wx hSx
    go_simp
    try with_reducible rfl
  try simp only [Act.put]
  try simp only [List.setIfInBounds_toArray]
  try simp only [List.set_cons_succ]
  try simp only [List.set_cons_zero]
  refine wpAnyH_take (i := 10) (v := ?_) rfl (by kernel_rfl) (by kernel_rfl) (by kernel_rfl) (fun _ _ _ h => h) (Or.inl ⟨by kernel_rfl, ?_⟩) (by assumption) ?_
  rotate_left
  · intro wx hSx
    go_simp
    try with_reducible rfl
  try simp only [Act.put]
  try simp only [List.setIfInBounds_toArray]
  try simp only [List.set_cons_succ]
  try simp only [List.set_cons_zero]
  refine wpAnyH_take (i := 11) (v := ?_) rfl (by kernel_rfl) (by kernel_rfl) (by kernel_rfl) (fun _ _ _ h => h) (Or.inl ⟨by kernel_rfl, ?_⟩) (by assumption) ?_
  rotate_left
  · intro wx hSx
    go_simp
    try with_reducible rfl
  try simp only [Act.put]
  try simp only [List.setIfInBounds_toArray]
  try simp only [List.set_cons_succ]
  try simp only [List.set_cons_zero]
  refine wpAnyH_take (i := 12) (v := ?_) rfl (by kernel_rfl) (by kernel_rfl) (by kernel_rfl) (fun _ _ _ h => h) (Or.inl ⟨by kernel_rfl, ?_⟩) (by assumption) ?_
  rotate_left
  · intro wx hSx
    go_simp
    try with_reducible rfl
  try simp only [Act.put]
  try simp only [List.setIfInBounds_toArray]
  try simp only [List.set_cons_succ]
  try simp only [List.set_cons_zero]
  refine wpAnyH_take (i := 13) (v := ?_) rfl (by kernel_rfl) (by kernel_rfl) (by kernel_rfl) (fun _ _ _ h => h) (Or.inl ⟨by kernel_rfl, ?_⟩) (by assumption) ?_
  rotate_left
  · intro wx hSx
    go_simp
    try with_reducible rfl
  try simp only [Act.put]
  try simp only [List.setIfInBounds_toArray]
  try simp only [List.set_cons_succ]
  try simp only [List.set_cons_zero]
  refine wpAnyH_done (by kernel_rfl) ?_ _
  have hB1 := hB.below hHeld
  have hx0 := hB1.cell 0
  have hx1 := hB1.cell 1
  simp only [List.getElem?_toArray, List.getElem?_cons_zero, List.getElem?_cons_succ] at hx0 hx1
  have hpl : p < s.size := by omega
  go_wp2_with fail
  go_quiet (fail)
  have hW1 : Besides g w (w1.drewN nq) := (Besides.of_below hHeld).drewN nq
  have hB2 : Blk (w1.drewN nq) g 52 #[.string s, .int .i64 (p : Int), out] := hB1
  generalize w1.drewN nq = W at *
  clear hx0 hx1
  have hbb : ((s[p].toNat : Int) == 128) = false := by simp; omega
  go_wp2_with fail
  try simp only [hbb]
  go_loopw [4] (fun n wr => ∃ j : Nat, n = .int .i64 ((v7 ((s.data.toList.drop p).take j) : Nat) : Int) ∧ j ≤ k + 1 ∧ v7 ((s.data.toList.drop p).take j) ≤ 281474976710655 ∧ Besides g w wr ∧ Blk wr g 52 #[.string s, .int .i64 ((p + j : Nat) : Int), out]) (fun n wr => p + k + 1 - (intOf ((wr.cell? ⟨g, 1, none⟩).getD .nilIface)).toNat)
  case atStart => exact ⟨0, by simp [v7], by omega, by simp [v7], hW1, by simpa using hB2⟩
  case round =>
    obtain ⟨j, rfl, hj, hv, hbe, hbl⟩ := hrel
    have hx0 := hbl.cell 0
    have hx1 := hbl.cell 1
    have hf1 := hbl.frozen 1
    simp only [List.getElem?_toArray, List.getElem?_cons_zero, List.getElem?_cons_succ] at hx0 hx1
    by_cases hjk : j < k + 1
    · have hw := v7_step s p j (by omega)
      have hq1 : ((p + j : Nat) : Int) ≤ ((p + k : Nat) : Int) := by omega
      have hq2 : p + j < s.size := by omega
      have hq3 : (0 : Int) ≤ (p : Int) + (j : Int) := by omega
      have hq4 : (p : Int) + (j : Int) < (s.size : Int) := by omega
      generalize hv1 : v7 ((s.data.toList.drop p).take (j + 1)) = v1 at hw
      generalize hv0 : v7 ((s.data.toList.drop p).take j) = v0 at hw hv
      have H1 := Lib.hid hv1
      have H0 := Lib.hid hv0
      clear hv1 hv0
      go_wp2_with fail
      go_quiet (fail)
      go_wp2_with fail
      rw [show (v0 : Int) * 128 + (s[p + j].toNat : Int) % 128 = (v1 : Int) by omega]
      have hW2 : Besides g w (wr.drewN nq) := hbe.drewN nq
      have hB3 : Blk (wr.drewN nq) g 52 #[.string s, .int .i64 ((p + j : Nat) : Int), out] := hbl
      generalize wr.drewN nq = W2 at *
      clear hx0 hx1 hf1
      have hx1 := hB3.cell 1
      have hf1 := hB3.frozen 1
      simp only [List.getElem?_toArray, List.getElem?_cons_zero, List.getElem?_cons_succ] at hx1
      refine (Right_any (v1 : Int) _).mono ?_
      rintro e w4 ⟨rfl, rfl⟩
      by_cases hle : v1 ≤ 281474976710655
      · rw [okNum_iff.2 ⟨by omega, by omega⟩]
        go_wp2_with fail
        have hB4 := hB3.set_ 1 (.int .i64 ((p : Int) + (j : Int) + 1))
        simp only [List.setIfInBounds_toArray, List.set_cons_succ, List.set_cons_zero] at hB4
        have hx2 := hB4.cell 1
        simp only [List.getElem?_toArray, List.getElem?_cons_zero, List.getElem?_cons_succ] at hx2
        have hrel : ∃ j' : Nat, (Value.int .i64 ((v0 : Int) * 128 + (s[p + j].toNat : Int) % 128)) = .int .i64 ((v7 ((s.data.toList.drop p).take j') : Nat) : Int) ∧ j' ≤ k + 1 ∧ v7 ((s.data.toList.drop p).take j') ≤ 281474976710655 ∧ Besides g w (W2.setCell ⟨g, 1, none⟩ (.int .i64 ((p : Int) + (j : Int) + 1))) ∧ Blk (W2.setCell ⟨g, 1, none⟩ (.int .i64 ((p : Int) + (j : Int) + 1))) g 52 #[.string s, .int .i64 ((p + j' : Nat) : Int), out] :=
          ⟨j + 1, by rw [H1.out, show (v0 : Int) * 128 + (s[p + j].toNat : Int) % 128 = (v1 : Int) by omega], by omega, by rw [H1.out]; exact hle, hW2.set_ 1 _, by rw [show ((p + (j + 1) : Nat) : Int) = (p : Int) + (j : Int) + 1 by omega]; exact hB4⟩
        go_roundw
        case rel => exact hrel
        case measure =>
          rw [hx2, hbl.cell 1]
          simp [intOf]
          omega
      · rw [show okNum (v1 : Int) = false by rw [okNum, decide_eq_false (by omega : ¬ (v1 : Int) ≤ 281474976710655), Bool.and_false]]
        have hbig : ¬ v7 ((s.data.toList.drop p).take (k + 1)) ≤ 281474976710655 := by
          have := v7_take_mono (s.data.toList.drop p) (show j + 1 ≤ k + 1 by omega)
          rw [H1.out] at this
          omega
        have HB := Lib.hid hbig
        clear hbig
        go_wp2_with fail
        go_step3
        refine ⟨rfl, ?_⟩
        go_wp2_with fail
        try simp only [Exit.noGoto_ret]
        go_ret2
        exact ⟨by rw [nextR, if_neg HB.out]; rfl, hW2, ⟨_, hB3⟩, fun h => absurd h HB.out⟩
    · obtain rfl : j = k + 1 := by omega
      have hq1 : ¬ ((p + (k + 1) : Nat) : Int) ≤ ((p + k : Nat) : Int) := by omega
      have HV := Lib.hid hv
      clear hv
      generalize hv1 : v7 ((s.data.toList.drop p).take (k + 1)) = v1 at *
      have H1 := Lib.hid hv1
      clear hv1
      go_wp2_with fail
      try simp only [Exit.jump]
      go_ret2
      exact ⟨by rw [H1.out, nextR, if_pos HV.out]; rfl, hbe, ⟨_, hbl⟩, fun _ => hbl⟩

end Go.Proofs.YtcahfdhfdigjaaaDoor
