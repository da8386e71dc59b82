/-
  Package postriderref04 (the document's answer for items): read, but for lists. Conditions: as the theorems' own hypotheses say.
-/
import Derived.Test.YtmoghgmbpkpcfaaGreatDoorIrC
import Derived.Test.YtmoghgmbpkpcfaaGreatDoorHeadN
import Derived.Test.YtmoghgmbpkpcfaaGreatDoorItU
import Derived.Test.YtmoghgmbpkpcfaaGreatDoorMgH
namespace Go.Proofs.YtmoghgmbpkpcfaaGreatDoor
open Go.RowKit Go.Shelf

/-- The document's reader in memory: its text, how many items were begun. -/
abbrev RdD (w : World) (p : Nat) (s : ByteArray) (c : Int) : Prop := Blk w p 65 #[.string s, .int .i64 c]
/-- What its call leaves: all blocks but the reader stand. -/
structure RdF (p : Nat) (s : ByteArray) (c : Int) (w w' : World) : Prop where
  rd : RdD w' p s c
  bes : Besides p w w'
theorem RdF.refl {p : Nat} {s : ByteArray} {c : Int} {w : World} (h : RdD w p s c) : RdF p s c w w := ⟨h, .refl p w⟩
theorem RdF.ext {p : Nat} {s : ByteArray} {c : Int} {w w' w2 : World} (h : RdF p s c w w') (b : Below w'.heap.size w' w2) : RdF p s c w w2 := ⟨h.rd.below b, h.bes.trans (.of_below b)⟩
theorem RdF.trans {p : Nat} {s : ByteArray} {c c' : Int} {w w' w2 : World} (h : RdF p s c w w') (k : RdF p s c' w' w2) : RdF p s c' w w2 := ⟨k.rd, h.bes.trans k.bes⟩
theorem RdF.new_ {p g : Nat} {s : ByteArray} {c : Int} {w w' : World} (h : RdF p s c w w') (hp : p < w.heap.size) (hg : w.heap.size ≤ g) (i : Nat) (u : Value) : RdF p s c w (w'.setCell ⟨g, i, none⟩ u) :=
  ⟨h.rd.set_other (by omega) i u, h.bes.new_ hg i u⟩
theorem RdF.new4 {p g : Nat} {s : ByteArray} {c : Int} {w w' : World} (h : RdF p s c w w') (hp : p < w.heap.size) (hg : w.heap.size ≤ g) (u0 u1 u2 u3 : Value) :
    RdF p s c w ((((w'.setCell ⟨g, 0, none⟩ u0).setCell ⟨g, 1, none⟩ u1).setCell ⟨g, 2, none⟩ u2).setCell ⟨g, 3, none⟩ u3) :=
  (((h.new_ hp hg 0 u0).new_ hp hg 1 u1).new_ hp hg 2 u2).new_ hp hg 3 u3
theorem RdF.grown {p : Nat} {s : ByteArray} {c : Int} {w W W' : World} {b : Option Nat} (h : RdF p s c w W) (hg : W.grownBy W' b) (hp : p < w.heap.size) (hb : ∀ k, k < w.heap.size → some k ≠ b) : RdF p s c w W' :=
  ⟨h.rd.kept (hg.block _ h.rd.lt (hb _ hp)), ⟨hg.os.trans h.bes.os, hg.tape.trans h.bes.tape, hg.output.trans h.bes.output, Nat.le_trans h.bes.size hg.size,
    fun k hk hn => (hg.block k (Nat.lt_of_lt_of_le hk h.bes.size) (hb k hk)).trans (h.bes.block k hk hn)⟩⟩
/-- What it answers. -/
def RtG (f p : Nat) (s : ByteArray) (r : RR) (t : TV) (a er : Int) (w w' : World) : Prop := match r with
  | .bad e => er = e ∧ a = 0 ∧ t = TV.mk 0 0 ByteArray.empty none 0 [] ∧ ∃ c, RdF p s c w w'
  | .ok c a' x => er = 0 ∧ a = (a' : Int) ∧ t.item = x ∧ RdF p s (c : Int) w w' ∧ ItAt w'.heap.size w' t ∧ Over w.heap.size t ∧ Fits f t
def RtR (f p : Nat) (s : ByteArray) (r : RR) (w : World) (e : Ending) (w' : World) : Prop :=
  ∃ (t : TV) (a er : Int), e = .returned (.tuple #[.agg #[.int .i64 t.kind, .int .i64 t.num, .string t.txt, .slice t.at_ t.kids.length t.cap], .int .i64 a, .int .i64 er]) ∧ RtG f p s r t a er w w'
theorem leaf_at (D : Nat) (W : World) (k n : Int) (s : ByteArray) : ItAt D W (.mk k n s none 0 []) := .mk (fun h => absurd h (Nat.lt_irrefl 0)) (by simp)
theorem leaf_over (D : Nat) (k n : Int) (s : ByteArray) : Over D (.mk k n s none 0 []) := .mk (fun _ e => by cases e) (by simp)
theorem leaf_fits (f : Nat) (k n : Int) (s : ByteArray) (h : s.size ≤ 700) : Fits (f + 1) (.mk k n s none 0 []) := .mk (by simp) h (by simp)

set_option maxRecDepth 100000 in
set_option maxHeartbeats 4000000 in
theorem rread_over {f p c : Nat} {s : ByteArray} {a D : Int} {w : World} (h : RdD w p s (c : Int)) (hc : c ≤ 60) (ho : 60 ≤ c ∨ 6 < D) :
    Calls Tryz.prog 25 #[.pointer (some ⟨p, 0, none⟩), .int .i64 a, .int .i64 D] w (RtR f p s (.bad 40) w) := by
  have hp := h.lt
  have hA := h.alloc (.cells #[.int .i64 0, .int .i64 0, .string ⟨#[]⟩, .slice none 0 0] 24)
  obtain ⟨c0, c1, f0, f1⟩ := hA.c2
  have q0 := h.set_ 1 (.int .i64 ((c : Int) + 1))
  simp only [List.setIfInBounds_toArray, List.set_cons_succ, List.set_cons_zero] at q0
  have q := q0.alloc (.cells #[.int .i64 0, .int .i64 0, .string ⟨#[]⟩, .slice none 0 0] 24)
  have r0 : Blk ((w.setCell ⟨p, 1, none⟩ (.int .i64 ((c : Int) + 1))).alloc (.cells #[.int .i64 0, .int .i64 0, .string ⟨#[]⟩, .slice none 0 0] 24)) w.heap.size 24 #[.int .i64 0, .int .i64 0, .string ⟨#[]⟩, .slice none 0 0] := Blk.at_ (World.size_setCell _ _ _).symm
  have hR : RdF p s ((c : Int) + 1) w ((w.setCell ⟨p, 1, none⟩ (.int .i64 ((c : Int) + 1))).alloc (.cells #[.int .i64 0, .int .i64 0, .string ⟨#[]⟩, .slice none 0 0] 24)) := ⟨q, ((Besides.refl p w).set_ 1 _).trans (.of_below (ext_new _ _))⟩
  clear q0
  obtain ⟨d0, d1, -, -⟩ := q.c2
  obtain ⟨z0, z1, z2, z3, v0, v1, v2, v3⟩ := r0.c4
  by_cases h1 : 60 ≤ c
  · have i1 : (60 : Int) < (c : Int) + 1 := by omega
    go_enter Tryz.func25, Tryz.ntmps25
    go_wp2_with fail
    exact bodyPost_ret (v := _) (ret_item3 (pt := 6) (u := 7) (v := 8) (by kernel_rfl) rfl r0) rfl ⟨TV.mk 0 0 ByteArray.empty none 0 [], 0, 40, rfl, rfl, rfl, rfl, _, hR⟩
  · have i1 : ¬ (60 : Int) < (c : Int) + 1 := by omega
    have i2 : 6 < D := by omega
    go_enter Tryz.func25, Tryz.ntmps25
    go_wp2_with fail
    exact bodyPost_ret (v := _) (ret_item3 (pt := 6) (u := 7) (v := 8) (by kernel_rfl) rfl r0) rfl ⟨TV.mk 0 0 ByteArray.empty none 0 [], 0, 40, rfl, rfl, rfl, rfl, _, hR⟩
set_option maxRecDepth 100000 in
set_option maxHeartbeats 4000000 in
theorem rread_bad {f p c : Nat} {s : ByteArray} {a D : Int} {w : World} (h : RdD w p s (c : Int)) (hs : s.size ≤ 9223372036854775807) (hc : c < 60) (hd : D ≤ 6) {t : Int × Int × Int} {er : Int} (hD : decV s a = (t, er)) (he : er ≠ 0) :
    Calls Tryz.prog 25 #[.pointer (some ⟨p, 0, none⟩), .int .i64 a, .int .i64 D] w (RtR f p s (.bad er) w) := by
  have hp := h.lt
  have hA := h.alloc (.cells #[.int .i64 0, .int .i64 0, .string ⟨#[]⟩, .slice none 0 0] 24)
  obtain ⟨c0, c1, f0, f1⟩ := hA.c2
  have q0 := h.set_ 1 (.int .i64 ((c : Int) + 1))
  simp only [List.setIfInBounds_toArray, List.set_cons_succ, List.set_cons_zero] at q0
  have q := q0.alloc (.cells #[.int .i64 0, .int .i64 0, .string ⟨#[]⟩, .slice none 0 0] 24)
  have r0 : Blk ((w.setCell ⟨p, 1, none⟩ (.int .i64 ((c : Int) + 1))).alloc (.cells #[.int .i64 0, .int .i64 0, .string ⟨#[]⟩, .slice none 0 0] 24)) w.heap.size 24 #[.int .i64 0, .int .i64 0, .string ⟨#[]⟩, .slice none 0 0] := Blk.at_ (World.size_setCell _ _ _).symm
  have hR : RdF p s ((c : Int) + 1) w ((w.setCell ⟨p, 1, none⟩ (.int .i64 ((c : Int) + 1))).alloc (.cells #[.int .i64 0, .int .i64 0, .string ⟨#[]⟩, .slice none 0 0] 24)) := ⟨q, ((Besides.refl p w).set_ 1 _).trans (.of_below (ext_new _ _))⟩
  clear q0
  obtain ⟨d0, d1, -, -⟩ := q.c2
  obtain ⟨z0, z1, z2, z3, v0, v1, v2, v3⟩ := r0.c4
  have i1 : ¬ (60 : Int) < (c : Int) + 1 := by omega
  have i2 : ¬ 6 < D := by omega
  have hC := fun W => rDecode_any s a W hs
  rw [hD] at hC
  unfold decR at hC
  have e0 : (er == 0) = false := beq_eq_false_iff_ne.2 he
  go_enter Tryz.func25, Tryz.ntmps25
  go_wp2_with fail
  refine (hC _).mono ?_
  rintro e w3 ⟨rfl, hb3⟩
  replace hR := hR.ext hb3
  have r3 := r0.below hb3
  clear c0 c1 f0 f1 d0 d1 z0 z1 z2 z3 v0 v1 v2 v3 r0 q hA hC
  have hp3 := r3.lt
  obtain ⟨z0, z1, z2, z3, v0, v1, v2, v3⟩ := r3.c4
  go_wp2_with fail
  exact bodyPost_ret (v := _) (ret_item3 (pt := 6) (u := 7) (v := 8) (by kernel_rfl) rfl (blk_set4 r3 _ _ _ _)) rfl ⟨TV.mk 0 0 ByteArray.empty none 0 [], 0, er, rfl, rfl, rfl, rfl, _, hR.new4 hp (Nat.le_refl _) _ _ _ _⟩
set_option maxRecDepth 100000 in
set_option maxHeartbeats 4000000 in
theorem rread_num {f p c : Nat} {s : ByteArray} {a D : Int} {w : World} (h : RdD w p s (c : Int)) (hs : s.size ≤ 9223372036854775807) (hc : c < 60) (hd : D ≤ 6) {n : Int} {a2 : Nat} (hD : decV s a = ((0, n, (a2 : Int)), 0)) :
    Calls Tryz.prog 25 #[.pointer (some ⟨p, 0, none⟩), .int .i64 a, .int .i64 D] w (RtR (f + 1) p s (.ok (c + 1) a2 (.mk 0 n ByteArray.empty [])) w) := by
  have hp := h.lt
  have hA := h.alloc (.cells #[.int .i64 0, .int .i64 0, .string ⟨#[]⟩, .slice none 0 0] 24)
  obtain ⟨c0, c1, f0, f1⟩ := hA.c2
  have q0 := h.set_ 1 (.int .i64 ((c : Int) + 1))
  simp only [List.setIfInBounds_toArray, List.set_cons_succ, List.set_cons_zero] at q0
  have q := q0.alloc (.cells #[.int .i64 0, .int .i64 0, .string ⟨#[]⟩, .slice none 0 0] 24)
  have r0 : Blk ((w.setCell ⟨p, 1, none⟩ (.int .i64 ((c : Int) + 1))).alloc (.cells #[.int .i64 0, .int .i64 0, .string ⟨#[]⟩, .slice none 0 0] 24)) w.heap.size 24 #[.int .i64 0, .int .i64 0, .string ⟨#[]⟩, .slice none 0 0] := Blk.at_ (World.size_setCell _ _ _).symm
  have hR : RdF p s ((c : Int) + 1) w ((w.setCell ⟨p, 1, none⟩ (.int .i64 ((c : Int) + 1))).alloc (.cells #[.int .i64 0, .int .i64 0, .string ⟨#[]⟩, .slice none 0 0] 24)) := ⟨q, ((Besides.refl p w).set_ 1 _).trans (.of_below (ext_new _ _))⟩
  clear q0
  obtain ⟨d0, d1, -, -⟩ := q.c2
  obtain ⟨z0, z1, z2, z3, v0, v1, v2, v3⟩ := r0.c4
  have i1 : ¬ (60 : Int) < (c : Int) + 1 := by omega
  have i2 : ¬ 6 < D := by omega
  have hC := fun W => rDecode_any s a W hs
  rw [hD] at hC
  unfold decR at hC
  go_enter Tryz.func25, Tryz.ntmps25
  go_wp2_with fail
  refine (hC _).mono ?_
  rintro e w3 ⟨rfl, hb3⟩
  replace hR := hR.ext hb3
  have r3 := r0.below hb3
  clear c0 c1 f0 f1 d0 d1 z0 z1 z2 z3 v0 v1 v2 v3 r0 q hA hC
  have hp3 := r3.lt
  have hX := Blk.new_ w3 24 #[.int .i64 0, .int .i64 0, .string ⟨#[]⟩, .slice none 0 0]
  have hR4 := hR.ext (ext_new w3 (.cells #[.int .i64 0, .int .i64 0, .string ⟨#[]⟩, .slice none 0 0] 24))
  have n1 : ¬ w.heap.size = w3.heap.size := by omega
  have n2 : ¬ w3.heap.size = w.heap.size := by omega
  obtain ⟨z0, z1, z2, z3, v0, v1, v2, v3⟩ := r3.c4
  go_wp2_with fail
  exact bodyPost_ret (v := _) (ret_item3 (pt := 6) (u := 7) (v := 8) (by kernel_rfl) rfl ((blk_set4 r3 _ _ _ _).alloc _)) rfl ⟨TV.mk 0 n ByteArray.empty none 0 [], a2, 0, rfl, rfl, rfl, rfl, (hR.new4 hp (Nat.le_refl _) _ _ _ _).ext (ext_new _ _), leaf_at _ _ _ _ _, leaf_over _ _ _ _, leaf_fits _ _ _ _ (by decide)⟩
set_option maxRecDepth 100000 in
set_option maxHeartbeats 4000000 in
theorem rread_long2 {f p c : Nat} {s : ByteArray} {a D : Int} {w : World} (h : RdD w p s (c : Int)) (hs : s.size ≤ 9223372036854775807) (hc : c < 60) (hd : D ≤ 6) {n : Int} {a2 : Nat} (hD : decV s a = ((2, n, (a2 : Int)), 0)) (hn : 600 < n) :
    Calls Tryz.prog 25 #[.pointer (some ⟨p, 0, none⟩), .int .i64 a, .int .i64 D] w (RtR f p s (.bad 40) w) := by
  have hp := h.lt
  have hA := h.alloc (.cells #[.int .i64 0, .int .i64 0, .string ⟨#[]⟩, .slice none 0 0] 24)
  obtain ⟨c0, c1, f0, f1⟩ := hA.c2
  have q0 := h.set_ 1 (.int .i64 ((c : Int) + 1))
  simp only [List.setIfInBounds_toArray, List.set_cons_succ, List.set_cons_zero] at q0
  have q := q0.alloc (.cells #[.int .i64 0, .int .i64 0, .string ⟨#[]⟩, .slice none 0 0] 24)
  have r0 : Blk ((w.setCell ⟨p, 1, none⟩ (.int .i64 ((c : Int) + 1))).alloc (.cells #[.int .i64 0, .int .i64 0, .string ⟨#[]⟩, .slice none 0 0] 24)) w.heap.size 24 #[.int .i64 0, .int .i64 0, .string ⟨#[]⟩, .slice none 0 0] := Blk.at_ (World.size_setCell _ _ _).symm
  have hR : RdF p s ((c : Int) + 1) w ((w.setCell ⟨p, 1, none⟩ (.int .i64 ((c : Int) + 1))).alloc (.cells #[.int .i64 0, .int .i64 0, .string ⟨#[]⟩, .slice none 0 0] 24)) := ⟨q, ((Besides.refl p w).set_ 1 _).trans (.of_below (ext_new _ _))⟩
  clear q0
  obtain ⟨d0, d1, -, -⟩ := q.c2
  obtain ⟨z0, z1, z2, z3, v0, v1, v2, v3⟩ := r0.c4
  have i1 : ¬ (60 : Int) < (c : Int) + 1 := by omega
  have i2 : ¬ 6 < D := by omega
  have hC := fun W => rDecode_any s a W hs
  rw [hD] at hC
  unfold decR at hC
  go_enter Tryz.func25, Tryz.ntmps25
  go_wp2_with fail
  refine (hC _).mono ?_
  rintro e w3 ⟨rfl, hb3⟩
  replace hR := hR.ext hb3
  have r3 := r0.below hb3
  clear c0 c1 f0 f1 d0 d1 z0 z1 z2 z3 v0 v1 v2 v3 r0 q hA hC
  have hp3 := r3.lt
  have hX := Blk.new_ w3 24 #[.int .i64 2, .int .i64 0, .string ⟨#[]⟩, .slice none 0 0]
  have hR4 := hR.ext (ext_new w3 (.cells #[.int .i64 2, .int .i64 0, .string ⟨#[]⟩, .slice none 0 0] 24))
  have n1 : ¬ w.heap.size = w3.heap.size := by omega
  have n2 : ¬ w3.heap.size = w.heap.size := by omega
  obtain ⟨z0, z1, z2, z3, v0, v1, v2, v3⟩ := r3.c4
  go_wp2_with fail
  exact bodyPost_ret (v := _) (ret_item3 (pt := 6) (u := 7) (v := 8) (by kernel_rfl) rfl ((blk_set4 r3 _ _ _ _).alloc _)) rfl ⟨TV.mk 0 0 ByteArray.empty none 0 [], 0, 40, rfl, rfl, rfl, rfl, _, (hR.new4 hp (Nat.le_refl _) _ _ _ _).ext (ext_new _ _)⟩
set_option maxRecDepth 100000 in
set_option maxHeartbeats 4000000 in
theorem rread_short2 {f p c : Nat} {s : ByteArray} {a D : Int} {w : World} (h : RdD w p s (c : Int)) (hs : s.size ≤ 9223372036854775807) (hc : c < 60) (hd : D ≤ 6) {n : Int} {a2 : Nat} (hD : decV s a = ((2, n, (a2 : Int)), 0)) (hn0 : 0 ≤ n) (hn : n ≤ 600) {t : ByteArray} {er : Int} (hT : cutV s (a2 : Int) n = (t, er)) (he : er ≠ 0) :
    Calls Tryz.prog 25 #[.pointer (some ⟨p, 0, none⟩), .int .i64 a, .int .i64 D] w (RtR f p s (.bad er) w) := by
  have hp := h.lt
  have hA := h.alloc (.cells #[.int .i64 0, .int .i64 0, .string ⟨#[]⟩, .slice none 0 0] 24)
  obtain ⟨c0, c1, f0, f1⟩ := hA.c2
  have q0 := h.set_ 1 (.int .i64 ((c : Int) + 1))
  simp only [List.setIfInBounds_toArray, List.set_cons_succ, List.set_cons_zero] at q0
  have q := q0.alloc (.cells #[.int .i64 0, .int .i64 0, .string ⟨#[]⟩, .slice none 0 0] 24)
  have r0 : Blk ((w.setCell ⟨p, 1, none⟩ (.int .i64 ((c : Int) + 1))).alloc (.cells #[.int .i64 0, .int .i64 0, .string ⟨#[]⟩, .slice none 0 0] 24)) w.heap.size 24 #[.int .i64 0, .int .i64 0, .string ⟨#[]⟩, .slice none 0 0] := Blk.at_ (World.size_setCell _ _ _).symm
  have hR : RdF p s ((c : Int) + 1) w ((w.setCell ⟨p, 1, none⟩ (.int .i64 ((c : Int) + 1))).alloc (.cells #[.int .i64 0, .int .i64 0, .string ⟨#[]⟩, .slice none 0 0] 24)) := ⟨q, ((Besides.refl p w).set_ 1 _).trans (.of_below (ext_new _ _))⟩
  clear q0
  obtain ⟨d0, d1, -, -⟩ := q.c2
  obtain ⟨z0, z1, z2, z3, v0, v1, v2, v3⟩ := r0.c4
  have i1 : ¬ (60 : Int) < (c : Int) + 1 := by omega
  have i2 : ¬ 6 < D := by omega
  have hC := fun W => rDecode_any s a W hs
  rw [hD] at hC
  unfold decR at hC
  have i3 : ¬ (600 : Int) < n := by omega
  have e0 : (er == 0) = false := beq_eq_false_iff_ne.2 he
  have hC2 := fun W => rCut_any s (a2 : Int) n W hs (by omega) (by omega)
  rw [hT] at hC2
  go_enter Tryz.func25, Tryz.ntmps25
  go_wp2_with fail
  refine (hC _).mono ?_
  rintro e w3 ⟨rfl, hb3⟩
  replace hR := hR.ext hb3
  have r3 := r0.below hb3
  clear c0 c1 f0 f1 d0 d1 z0 z1 z2 z3 v0 v1 v2 v3 r0 q hA hC
  have hp3 := r3.lt
  have hX := Blk.new_ w3 24 #[.int .i64 2, .int .i64 0, .string ⟨#[]⟩, .slice none 0 0]
  have hR4 := hR.ext (ext_new w3 (.cells #[.int .i64 2, .int .i64 0, .string ⟨#[]⟩, .slice none 0 0] 24))
  have n1 : ¬ w.heap.size = w3.heap.size := by omega
  have n2 : ¬ w3.heap.size = w.heap.size := by omega
  obtain ⟨z0, z1, z2, z3, v0, v1, v2, v3⟩ := r3.c4
  obtain ⟨b0, b1, -, -⟩ := hR4.rd.c2
  go_wp2_with fail
  refine (hC2 _).mono ?_
  rintro e w5 ⟨rfl, rfl⟩
  go_wp2_with fail
  exact bodyPost_ret (v := _) (ret_item3 (pt := 6) (u := 7) (v := 8) (by kernel_rfl) rfl ((blk_set4 r3 _ _ _ _).alloc _)) rfl ⟨TV.mk 0 0 ByteArray.empty none 0 [], 0, er, rfl, rfl, rfl, rfl, _, (hR.new4 hp (Nat.le_refl _) _ _ _ _).ext (ext_new _ _)⟩
set_option maxRecDepth 100000 in
set_option maxHeartbeats 4000000 in
theorem rread_bytes2 {f p c : Nat} {s : ByteArray} {a D : Int} {w : World} (h : RdD w p s (c : Int)) (hs : s.size ≤ 9223372036854775807) (hc : c < 60) (hd : D ≤ 6) {n : Nat} {a2 : Nat} (hD : decV s a = ((2, (n : Int), (a2 : Int)), 0)) (hn : n ≤ 600) (ha : a2 ≤ 9223372036854775000) {t : ByteArray} (hT : cutV s (a2 : Int) (n : Int) = (t, 0)) (ht : t.size ≤ 600) :
    Calls Tryz.prog 25 #[.pointer (some ⟨p, 0, none⟩), .int .i64 a, .int .i64 D] w (RtR (f + 1) p s (.ok (c + 1) (a2 + n) (.mk 2 0 t [])) w) := by
  have hp := h.lt
  have hA := h.alloc (.cells #[.int .i64 0, .int .i64 0, .string ⟨#[]⟩, .slice none 0 0] 24)
  obtain ⟨c0, c1, f0, f1⟩ := hA.c2
  have q0 := h.set_ 1 (.int .i64 ((c : Int) + 1))
  simp only [List.setIfInBounds_toArray, List.set_cons_succ, List.set_cons_zero] at q0
  have q := q0.alloc (.cells #[.int .i64 0, .int .i64 0, .string ⟨#[]⟩, .slice none 0 0] 24)
  have r0 : Blk ((w.setCell ⟨p, 1, none⟩ (.int .i64 ((c : Int) + 1))).alloc (.cells #[.int .i64 0, .int .i64 0, .string ⟨#[]⟩, .slice none 0 0] 24)) w.heap.size 24 #[.int .i64 0, .int .i64 0, .string ⟨#[]⟩, .slice none 0 0] := Blk.at_ (World.size_setCell _ _ _).symm
  have hR : RdF p s ((c : Int) + 1) w ((w.setCell ⟨p, 1, none⟩ (.int .i64 ((c : Int) + 1))).alloc (.cells #[.int .i64 0, .int .i64 0, .string ⟨#[]⟩, .slice none 0 0] 24)) := ⟨q, ((Besides.refl p w).set_ 1 _).trans (.of_below (ext_new _ _))⟩
  clear q0
  obtain ⟨d0, d1, -, -⟩ := q.c2
  obtain ⟨z0, z1, z2, z3, v0, v1, v2, v3⟩ := r0.c4
  have i1 : ¬ (60 : Int) < (c : Int) + 1 := by omega
  have i2 : ¬ 6 < D := by omega
  have hC := fun W => rDecode_any s a W hs
  rw [hD] at hC
  unfold decR at hC
  have i3 : ¬ (600 : Int) < (n : Int) := by omega
  have hC2 := fun W => rCut_any s (a2 : Int) (n : Int) W hs (by omega) (by omega)
  rw [hT] at hC2
  go_enter Tryz.func25, Tryz.ntmps25
  go_wp2_with fail
  refine (hC _).mono ?_
  rintro e w3 ⟨rfl, hb3⟩
  replace hR := hR.ext hb3
  have r3 := r0.below hb3
  clear c0 c1 f0 f1 d0 d1 z0 z1 z2 z3 v0 v1 v2 v3 r0 q hA hC
  have hp3 := r3.lt
  have hX := Blk.new_ w3 24 #[.int .i64 2, .int .i64 0, .string ⟨#[]⟩, .slice none 0 0]
  have hR4 := hR.ext (ext_new w3 (.cells #[.int .i64 2, .int .i64 0, .string ⟨#[]⟩, .slice none 0 0] 24))
  have n1 : ¬ w.heap.size = w3.heap.size := by omega
  have n2 : ¬ w3.heap.size = w.heap.size := by omega
  obtain ⟨z0, z1, z2, z3, v0, v1, v2, v3⟩ := r3.c4
  obtain ⟨b0, b1, -, -⟩ := hR4.rd.c2
  go_wp2_with fail
  refine (hC2 _).mono ?_
  rintro e w5 ⟨rfl, rfl⟩
  go_wp2_with fail
  exact bodyPost_ret (v := _) (ret_item3 (pt := 6) (u := 7) (v := 8) (by kernel_rfl) rfl ((blk_set4 r3 _ _ _ _).alloc _)) rfl ⟨TV.mk 2 0 t none 0 [], ((a2 + n : Nat) : Int), 0, rfl, rfl, rfl, rfl, (hR.new4 hp (Nat.le_refl _) _ _ _ _).ext (ext_new _ _), leaf_at _ _ _ _ _, leaf_over _ _ _ _, leaf_fits _ _ _ _ (by omega)⟩
set_option maxRecDepth 100000 in
set_option maxHeartbeats 4000000 in
theorem rread_long3 {f p c : Nat} {s : ByteArray} {a D : Int} {w : World} (h : RdD w p s (c : Int)) (hs : s.size ≤ 9223372036854775807) (hc : c < 60) (hd : D ≤ 6) {n : Int} {a2 : Nat} (hD : decV s a = ((3, n, (a2 : Int)), 0)) (hn : 600 < n) :
    Calls Tryz.prog 25 #[.pointer (some ⟨p, 0, none⟩), .int .i64 a, .int .i64 D] w (RtR f p s (.bad 40) w) := by
  have hp := h.lt
  have hA := h.alloc (.cells #[.int .i64 0, .int .i64 0, .string ⟨#[]⟩, .slice none 0 0] 24)
  obtain ⟨c0, c1, f0, f1⟩ := hA.c2
  have q0 := h.set_ 1 (.int .i64 ((c : Int) + 1))
  simp only [List.setIfInBounds_toArray, List.set_cons_succ, List.set_cons_zero] at q0
  have q := q0.alloc (.cells #[.int .i64 0, .int .i64 0, .string ⟨#[]⟩, .slice none 0 0] 24)
  have r0 : Blk ((w.setCell ⟨p, 1, none⟩ (.int .i64 ((c : Int) + 1))).alloc (.cells #[.int .i64 0, .int .i64 0, .string ⟨#[]⟩, .slice none 0 0] 24)) w.heap.size 24 #[.int .i64 0, .int .i64 0, .string ⟨#[]⟩, .slice none 0 0] := Blk.at_ (World.size_setCell _ _ _).symm
  have hR : RdF p s ((c : Int) + 1) w ((w.setCell ⟨p, 1, none⟩ (.int .i64 ((c : Int) + 1))).alloc (.cells #[.int .i64 0, .int .i64 0, .string ⟨#[]⟩, .slice none 0 0] 24)) := ⟨q, ((Besides.refl p w).set_ 1 _).trans (.of_below (ext_new _ _))⟩
  clear q0
  obtain ⟨d0, d1, -, -⟩ := q.c2
  obtain ⟨z0, z1, z2, z3, v0, v1, v2, v3⟩ := r0.c4
  have i1 : ¬ (60 : Int) < (c : Int) + 1 := by omega
  have i2 : ¬ 6 < D := by omega
  have hC := fun W => rDecode_any s a W hs
  rw [hD] at hC
  unfold decR at hC
  go_enter Tryz.func25, Tryz.ntmps25
  go_wp2_with fail
  refine (hC _).mono ?_
  rintro e w3 ⟨rfl, hb3⟩
  replace hR := hR.ext hb3
  have r3 := r0.below hb3
  clear c0 c1 f0 f1 d0 d1 z0 z1 z2 z3 v0 v1 v2 v3 r0 q hA hC
  have hp3 := r3.lt
  have hX := Blk.new_ w3 24 #[.int .i64 3, .int .i64 0, .string ⟨#[]⟩, .slice none 0 0]
  have hR4 := hR.ext (ext_new w3 (.cells #[.int .i64 3, .int .i64 0, .string ⟨#[]⟩, .slice none 0 0] 24))
  have n1 : ¬ w.heap.size = w3.heap.size := by omega
  have n2 : ¬ w3.heap.size = w.heap.size := by omega
  obtain ⟨z0, z1, z2, z3, v0, v1, v2, v3⟩ := r3.c4
  go_wp2_with fail
  exact bodyPost_ret (v := _) (ret_item3 (pt := 6) (u := 7) (v := 8) (by kernel_rfl) rfl ((blk_set4 r3 _ _ _ _).alloc _)) rfl ⟨TV.mk 0 0 ByteArray.empty none 0 [], 0, 40, rfl, rfl, rfl, rfl, _, (hR.new4 hp (Nat.le_refl _) _ _ _ _).ext (ext_new _ _)⟩
set_option maxRecDepth 100000 in
set_option maxHeartbeats 4000000 in
theorem rread_short3 {f p c : Nat} {s : ByteArray} {a D : Int} {w : World} (h : RdD w p s (c : Int)) (hs : s.size ≤ 9223372036854775807) (hc : c < 60) (hd : D ≤ 6) {n : Int} {a2 : Nat} (hD : decV s a = ((3, n, (a2 : Int)), 0)) (hn0 : 0 ≤ n) (hn : n ≤ 600) {t : ByteArray} {er : Int} (hT : cutV s (a2 : Int) n = (t, er)) (he : er ≠ 0) :
    Calls Tryz.prog 25 #[.pointer (some ⟨p, 0, none⟩), .int .i64 a, .int .i64 D] w (RtR f p s (.bad er) w) := by
  have hp := h.lt
  have hA := h.alloc (.cells #[.int .i64 0, .int .i64 0, .string ⟨#[]⟩, .slice none 0 0] 24)
  obtain ⟨c0, c1, f0, f1⟩ := hA.c2
  have q0 := h.set_ 1 (.int .i64 ((c : Int) + 1))
  simp only [List.setIfInBounds_toArray, List.set_cons_succ, List.set_cons_zero] at q0
  have q := q0.alloc (.cells #[.int .i64 0, .int .i64 0, .string ⟨#[]⟩, .slice none 0 0] 24)
  have r0 : Blk ((w.setCell ⟨p, 1, none⟩ (.int .i64 ((c : Int) + 1))).alloc (.cells #[.int .i64 0, .int .i64 0, .string ⟨#[]⟩, .slice none 0 0] 24)) w.heap.size 24 #[.int .i64 0, .int .i64 0, .string ⟨#[]⟩, .slice none 0 0] := Blk.at_ (World.size_setCell _ _ _).symm
  have hR : RdF p s ((c : Int) + 1) w ((w.setCell ⟨p, 1, none⟩ (.int .i64 ((c : Int) + 1))).alloc (.cells #[.int .i64 0, .int .i64 0, .string ⟨#[]⟩, .slice none 0 0] 24)) := ⟨q, ((Besides.refl p w).set_ 1 _).trans (.of_below (ext_new _ _))⟩
  clear q0
  obtain ⟨d0, d1, -, -⟩ := q.c2
  obtain ⟨z0, z1, z2, z3, v0, v1, v2, v3⟩ := r0.c4
  have i1 : ¬ (60 : Int) < (c : Int) + 1 := by omega
  have i2 : ¬ 6 < D := by omega
  have hC := fun W => rDecode_any s a W hs
  rw [hD] at hC
  unfold decR at hC
  have i3 : ¬ (600 : Int) < n := by omega
  have e0 : (er == 0) = false := beq_eq_false_iff_ne.2 he
  have hC2 := fun W => rCut_any s (a2 : Int) n W hs (by omega) (by omega)
  rw [hT] at hC2
  go_enter Tryz.func25, Tryz.ntmps25
  go_wp2_with fail
  refine (hC _).mono ?_
  rintro e w3 ⟨rfl, hb3⟩
  replace hR := hR.ext hb3
  have r3 := r0.below hb3
  clear c0 c1 f0 f1 d0 d1 z0 z1 z2 z3 v0 v1 v2 v3 r0 q hA hC
  have hp3 := r3.lt
  have hX := Blk.new_ w3 24 #[.int .i64 3, .int .i64 0, .string ⟨#[]⟩, .slice none 0 0]
  have hR4 := hR.ext (ext_new w3 (.cells #[.int .i64 3, .int .i64 0, .string ⟨#[]⟩, .slice none 0 0] 24))
  have n1 : ¬ w.heap.size = w3.heap.size := by omega
  have n2 : ¬ w3.heap.size = w.heap.size := by omega
  obtain ⟨z0, z1, z2, z3, v0, v1, v2, v3⟩ := r3.c4
  obtain ⟨b0, b1, -, -⟩ := hR4.rd.c2
  go_wp2_with fail
  refine (hC2 _).mono ?_
  rintro e w5 ⟨rfl, rfl⟩
  go_wp2_with fail
  exact bodyPost_ret (v := _) (ret_item3 (pt := 6) (u := 7) (v := 8) (by kernel_rfl) rfl ((blk_set4 r3 _ _ _ _).alloc _)) rfl ⟨TV.mk 0 0 ByteArray.empty none 0 [], 0, er, rfl, rfl, rfl, rfl, _, (hR.new4 hp (Nat.le_refl _) _ _ _ _).ext (ext_new _ _)⟩
set_option maxRecDepth 100000 in
set_option maxHeartbeats 4000000 in
theorem rread_form {f p c : Nat} {s : ByteArray} {a D : Int} {w : World} (h : RdD w p s (c : Int)) (hs : s.size ≤ 9223372036854775807) (hc : c < 60) (hd : D ≤ 6) {n : Int} {a2 : Nat} (hD : decV s a = ((3, n, (a2 : Int)), 0)) (hn0 : 0 ≤ n) (hn : n ≤ 600) {t : ByteArray} (hT : cutV s (a2 : Int) n = (t, 0)) (ht : t.size ≤ 600) (hb : textB t.data.toList = false) :
    Calls Tryz.prog 25 #[.pointer (some ⟨p, 0, none⟩), .int .i64 a, .int .i64 D] w (RtR f p s (.bad 20) w) := by
  have hp := h.lt
  have hA := h.alloc (.cells #[.int .i64 0, .int .i64 0, .string ⟨#[]⟩, .slice none 0 0] 24)
  obtain ⟨c0, c1, f0, f1⟩ := hA.c2
  have q0 := h.set_ 1 (.int .i64 ((c : Int) + 1))
  simp only [List.setIfInBounds_toArray, List.set_cons_succ, List.set_cons_zero] at q0
  have q := q0.alloc (.cells #[.int .i64 0, .int .i64 0, .string ⟨#[]⟩, .slice none 0 0] 24)
  have r0 : Blk ((w.setCell ⟨p, 1, none⟩ (.int .i64 ((c : Int) + 1))).alloc (.cells #[.int .i64 0, .int .i64 0, .string ⟨#[]⟩, .slice none 0 0] 24)) w.heap.size 24 #[.int .i64 0, .int .i64 0, .string ⟨#[]⟩, .slice none 0 0] := Blk.at_ (World.size_setCell _ _ _).symm
  have hR : RdF p s ((c : Int) + 1) w ((w.setCell ⟨p, 1, none⟩ (.int .i64 ((c : Int) + 1))).alloc (.cells #[.int .i64 0, .int .i64 0, .string ⟨#[]⟩, .slice none 0 0] 24)) := ⟨q, ((Besides.refl p w).set_ 1 _).trans (.of_below (ext_new _ _))⟩
  clear q0
  obtain ⟨d0, d1, -, -⟩ := q.c2
  obtain ⟨z0, z1, z2, z3, v0, v1, v2, v3⟩ := r0.c4
  have i1 : ¬ (60 : Int) < (c : Int) + 1 := by omega
  have i2 : ¬ 6 < D := by omega
  have hC := fun W => rDecode_any s a W hs
  rw [hD] at hC
  unfold decR at hC
  have i3 : ¬ (600 : Int) < n := by omega
  have hC2 := fun W => rCut_any s (a2 : Int) n W hs (by omega) (by omega)
  rw [hT] at hC2
  have hC3 := fun W => rtext_any t W (by omega)
  rw [hb] at hC3
  go_enter Tryz.func25, Tryz.ntmps25
  go_wp2_with fail
  refine (hC _).mono ?_
  rintro e w3 ⟨rfl, hb3⟩
  replace hR := hR.ext hb3
  have r3 := r0.below hb3
  clear c0 c1 f0 f1 d0 d1 z0 z1 z2 z3 v0 v1 v2 v3 r0 q hA hC
  have hp3 := r3.lt
  have hX := Blk.new_ w3 24 #[.int .i64 3, .int .i64 0, .string ⟨#[]⟩, .slice none 0 0]
  have hR4 := hR.ext (ext_new w3 (.cells #[.int .i64 3, .int .i64 0, .string ⟨#[]⟩, .slice none 0 0] 24))
  have n1 : ¬ w.heap.size = w3.heap.size := by omega
  have n2 : ¬ w3.heap.size = w.heap.size := by omega
  obtain ⟨z0, z1, z2, z3, v0, v1, v2, v3⟩ := r3.c4
  obtain ⟨b0, b1, -, -⟩ := hR4.rd.c2
  go_wp2_with fail
  refine (hC2 _).mono ?_
  rintro e w5 ⟨rfl, rfl⟩
  go_wp2_with fail
  refine (hC3 _).mono ?_
  rintro e w6 ⟨rfl, rfl⟩
  go_wp2_with fail
  exact bodyPost_ret (v := _) (ret_item3 (pt := 6) (u := 7) (v := 8) (by kernel_rfl) rfl ((blk_set4 r3 _ _ _ _).alloc _)) rfl ⟨TV.mk 0 0 ByteArray.empty none 0 [], 0, 20, rfl, rfl, rfl, rfl, _, (hR.new4 hp (Nat.le_refl _) _ _ _ _).ext (ext_new _ _)⟩
set_option maxRecDepth 100000 in
set_option maxHeartbeats 4000000 in
theorem rread_bytes3 {f p c : Nat} {s : ByteArray} {a D : Int} {w : World} (h : RdD w p s (c : Int)) (hs : s.size ≤ 9223372036854775807) (hc : c < 60) (hd : D ≤ 6) {n : Nat} {a2 : Nat} (hD : decV s a = ((3, (n : Int), (a2 : Int)), 0)) (hn : n ≤ 600) (ha : a2 ≤ 9223372036854775000) {t : ByteArray} (hT : cutV s (a2 : Int) (n : Int) = (t, 0)) (ht : t.size ≤ 600) (hb : textB t.data.toList = true) :
    Calls Tryz.prog 25 #[.pointer (some ⟨p, 0, none⟩), .int .i64 a, .int .i64 D] w (RtR (f + 1) p s (.ok (c + 1) (a2 + n) (.mk 3 0 t [])) w) := by
  have hp := h.lt
  have hA := h.alloc (.cells #[.int .i64 0, .int .i64 0, .string ⟨#[]⟩, .slice none 0 0] 24)
  obtain ⟨c0, c1, f0, f1⟩ := hA.c2
  have q0 := h.set_ 1 (.int .i64 ((c : Int) + 1))
  simp only [List.setIfInBounds_toArray, List.set_cons_succ, List.set_cons_zero] at q0
  have q := q0.alloc (.cells #[.int .i64 0, .int .i64 0, .string ⟨#[]⟩, .slice none 0 0] 24)
  have r0 : Blk ((w.setCell ⟨p, 1, none⟩ (.int .i64 ((c : Int) + 1))).alloc (.cells #[.int .i64 0, .int .i64 0, .string ⟨#[]⟩, .slice none 0 0] 24)) w.heap.size 24 #[.int .i64 0, .int .i64 0, .string ⟨#[]⟩, .slice none 0 0] := Blk.at_ (World.size_setCell _ _ _).symm
  have hR : RdF p s ((c : Int) + 1) w ((w.setCell ⟨p, 1, none⟩ (.int .i64 ((c : Int) + 1))).alloc (.cells #[.int .i64 0, .int .i64 0, .string ⟨#[]⟩, .slice none 0 0] 24)) := ⟨q, ((Besides.refl p w).set_ 1 _).trans (.of_below (ext_new _ _))⟩
  clear q0
  obtain ⟨d0, d1, -, -⟩ := q.c2
  obtain ⟨z0, z1, z2, z3, v0, v1, v2, v3⟩ := r0.c4
  have i1 : ¬ (60 : Int) < (c : Int) + 1 := by omega
  have i2 : ¬ 6 < D := by omega
  have hC := fun W => rDecode_any s a W hs
  rw [hD] at hC
  unfold decR at hC
  have i3 : ¬ (600 : Int) < (n : Int) := by omega
  have hC2 := fun W => rCut_any s (a2 : Int) (n : Int) W hs (by omega) (by omega)
  rw [hT] at hC2
  have hC3 := fun W => rtext_any t W (by omega)
  rw [hb] at hC3
  go_enter Tryz.func25, Tryz.ntmps25
  go_wp2_with fail
  refine (hC _).mono ?_
  rintro e w3 ⟨rfl, hb3⟩
  replace hR := hR.ext hb3
  have r3 := r0.below hb3
  clear c0 c1 f0 f1 d0 d1 z0 z1 z2 z3 v0 v1 v2 v3 r0 q hA hC
  have hp3 := r3.lt
  have hX := Blk.new_ w3 24 #[.int .i64 3, .int .i64 0, .string ⟨#[]⟩, .slice none 0 0]
  have hR4 := hR.ext (ext_new w3 (.cells #[.int .i64 3, .int .i64 0, .string ⟨#[]⟩, .slice none 0 0] 24))
  have n1 : ¬ w.heap.size = w3.heap.size := by omega
  have n2 : ¬ w3.heap.size = w.heap.size := by omega
  obtain ⟨z0, z1, z2, z3, v0, v1, v2, v3⟩ := r3.c4
  obtain ⟨b0, b1, -, -⟩ := hR4.rd.c2
  go_wp2_with fail
  refine (hC2 _).mono ?_
  rintro e w5 ⟨rfl, rfl⟩
  go_wp2_with fail
  refine (hC3 _).mono ?_
  rintro e w6 ⟨rfl, rfl⟩
  go_wp2_with fail
  exact bodyPost_ret (v := _) (ret_item3 (pt := 6) (u := 7) (v := 8) (by kernel_rfl) rfl ((blk_set4 r3 _ _ _ _).alloc _)) rfl ⟨TV.mk 3 0 t none 0 [], ((a2 + n : Nat) : Int), 0, rfl, rfl, rfl, rfl, (hR.new4 hp (Nat.le_refl _) _ _ _ _).ext (ext_new _ _), leaf_at _ _ _ _ _, leaf_over _ _ _ _, leaf_fits _ _ _ _ (by omega)⟩
end Go.Proofs.YtmoghgmbpkpcfaaGreatDoor
