/-
  Package disk: Arm, New, and more of the kind. Conditions: as the theorems' own hypotheses say.
-/
import Derived.Test.YtmebjdbkngehiaaGreatDoorQgL
import Derived.Lib.LazyBuf
import Derived.IntWalk
namespace Go.Proofs.YtmebjdbkngehiaaGreatDoor
open Go.RowKit Go.Shelf
set_option maxHeartbeats 4000000
variable {k c : Int} {w : World} {p g : Nat} {d : DN}
def armB (k c : Int) : Bool := decide (1 ≤ k) && (decide (0 ≤ c) && decide (c ≤ 64))
theorem armB_iff : armB k c = true ↔ 1 ≤ k ∧ 0 ≤ c ∧ c ≤ 64 := by simp [armB]
theorem arm_end {v : World} (_h : DAt w p g d) (hD : DAt v p g d) (hW : Below w.heap.size w v) (hx : armB k c = true) (hk64 : k ≤ 9223372036854775807) :
  Turned (.int .i64 0) p g { d with left := k.toNat, cut := c.toNat } w (.returned (.int .i64 0)) ((v.drew.setCell ⟨p, 1, none⟩ (.int .i64 k)).setCell ⟨p, 2, none⟩ (.int .i64 c)) := by
 obtain ⟨h1, h2, h3⟩ := armB_iff.1 hx
 have q := (Blk.set_ (w := v.drew) hD.disk 1 (.int .i64 k)).set_ 2 (.int .i64 c)
 simp only [List.setIfInBounds_toArray, List.set_cons_succ, List.set_cons_zero] at q
 have e1 : ((k.toNat : Nat) : Int) = k := by omega
 have e2 : ((c.toNat : Nat) : Int) = c := by omega
 refine ⟨rfl, ⟨?_, ?_, hD.ne, ⟨hD.fit.sec, by show c.toNat ≤ 64; omega⟩, hD.len, by show k.toNat ≤ _; omega, hD.n⟩, ?_⟩
 ·show Blk _ p _ #[_, .int .i64 ((k.toNat : Nat) : Int), .int .i64 ((c.toNat : Nat) : Int), _, _]
  rw [e1, e2]
  exact q
 ·exact (Blk.set_other (w := v.drew) hD.secs hD.ne.symm 1 _).set_other hD.ne.symm 2 _
 ·exact ((But2.of_below hW.drew).set1 1 _).set1 2 _
theorem arm_eq : d.arm k c = if armB k c then ({ d with left := k.toNat, cut := c.toNat }, 2 - 2) else (d, 2) := by
 by_cases h : armB k c = true
 ·rw [if_pos h, DN.arm, if_pos (armB_iff.1 h)]; rfl
 ·rw [if_neg h, DN.arm, if_neg (fun e => h (armB_iff.2 e))]
set_option maxRecDepth 100000 in
theorem Arm_wr (p : Nat) (k c : Int) (hI : SInv w) (hx : armB k c = false) :
  Calls Tryz.prog 35 #[.pointer (some ⟨p, 0, none⟩), .int .i64 k, .int .i64 c] w (Ret (.int .i64 2) w) := by
 have hn1 := ext_alloc (ext_new w (.cells #[.int .i64 k] 3)) (.cells #[.int .i64 c] 3)
 have hh := arm1_holds (w := (w.alloc (.cells #[.int .i64 k] 3)).alloc (.cells #[.int .i64 c] 3)) (bk := w.heap.size) (bc := w.heap.size + 1) (k := k) (c := c) ((Blk.new_ w 3 #[.int .i64 k]).alloc _).c1.1 (Blk.at_ (w := w.alloc (.cells #[.int .i64 k] 3)) (by simp)).c1.1
 change HoldsAt _ _ (armB k c) at hh
 rw [hx] at hh
 go_enter Tryz.func35, Tryz.ntmps35
 go_wp2_with fail
 refine (must_any _ false 2 _ hh ⟨_, _, rfl⟩).mono ?_
 rintro y v1 ⟨u1, rfl, hr1, hb1⟩
 obtain ⟨a1, a2, a3, rfl, -⟩ := id hr1
 go_wp2_with fail
 refine (check_any p _ [(false, 2)] _ (rules1 (by simp) (hr1.below (ext_new _ _))) (by simp)).mono ?_
 rw [show firstE [(false, 2)] = WrV 2 from rfl]
 unfold WrV
 rintro y v2 ⟨rfl, hb2⟩
 have hW := ext_trans (ext_alloc (ext_trans hn1 hb1) _) hb2
 have hT := toldi_wr 0 2 _ (hI.below hW)
 unfold WrV at hT
 go_wp2_with fail
 refine hT.mono ?_
 rintro y v4 ⟨rfl, hb4⟩
 go_wp2_with fail
 go_ret
 exact ⟨rfl, ext_trans hW hb4⟩
set_option maxRecDepth 100000 in
theorem Arm_ok (h : DAt w p g d) (hx : armB k c = true) (hk64 : k ≤ 9223372036854775807) :
  Calls Tryz.prog 35 #[.pointer (some ⟨p, 0, none⟩), .int .i64 k, .int .i64 c] w (Turned (.int .i64 0) p g { d with left := k.toNat, cut := c.toNat } w) := by
 have hn1 := ext_alloc (ext_new w (.cells #[.int .i64 k] 3)) (.cells #[.int .i64 c] 3)
 have hh := arm1_holds (w := (w.alloc (.cells #[.int .i64 k] 3)).alloc (.cells #[.int .i64 c] 3)) (bk := w.heap.size) (bc := w.heap.size + 1) (k := k) (c := c) ((Blk.new_ w 3 #[.int .i64 k]).alloc _).c1.1 (Blk.at_ (w := w.alloc (.cells #[.int .i64 k] 3)) (by simp)).c1.1
 change HoldsAt _ _ (armB k c) at hh
 rw [hx] at hh
 go_enter Tryz.func35, Tryz.ntmps35
 go_wp2_with fail
 refine (must_any _ true 2 _ hh ⟨_, _, rfl⟩).mono ?_
 rintro y v1 ⟨u1, rfl, hr1, hb1⟩
 obtain ⟨a1, a2, a3, rfl, -⟩ := id hr1
 go_wp2_with fail
 refine (check_any p _ [(true, 2)] _ (rules1 (by simp) (hr1.below (ext_new _ _))) (by simp)).mono ?_
 rw [show firstE [(true, 2)] = .nilIface from rfl]
 rintro y v2 ⟨rfl, hb2⟩
 have hW := ext_trans (ext_alloc (ext_trans hn1 hb1) _) hb2
 have hbx := ext_trans (ext_alloc hb1 (.cells #[.func (.func 79) #[] #[.pointer (some ⟨a1, 0, none⟩), .pointer (some ⟨a2, 0, none⟩)]] 98)) hb2
 have k4 : Blk v2 w.heap.size 3 #[.int .i64 k] := ((Blk.new_ w 3 #[.int .i64 k]).alloc _).below hbx
 have k5 : Blk v2 (w.heap.size + 1) 3 #[.int .i64 c] := (Blk.at_ (w := w.alloc (.cells #[.int .i64 k] 3)) (by simp)).below hbx
 have hD := h.below hW
 have hpl := h.disk.lt
 have hgl := h.secs.lt
 obtain ⟨c0, c1, c2, c3, c4, g0, g1, g2, g3, g4⟩ := hD.disk.c5
 go_wp2_with fail
 refine wp_region_held_drew (S := (fun W => W.cell? ⟨w.heap.size, 0, none⟩ = some (.int .i64 k) ∧ W.cell? ⟨w.heap.size + 1, 0, none⟩ = some (.int .i64 c))) (by kernel_rfl) ⟨k4.c1.1, k5.c1.1⟩ (fun hHeld => ?_)
 refine wt_ 0 rfl ?_ (fun wx hSx => by obtain ⟨hS1, hS2⟩ := hSx; go_simp; try with_reducible rfl)
 refine wt_ 1 rfl ?_ (fun wx hSx => by obtain ⟨hS1, hS2⟩ := hSx; go_simp; try with_reducible rfl)
 refine wt_ 2 rfl ?_ (fun wx hSx => by obtain ⟨hS1, hS2⟩ := hSx; go_simp; try with_reducible rfl)
 refine wt_ 3 rfl ?_ (fun wx hSx => by obtain ⟨hS1, hS2⟩ := hSx; go_simp; try with_reducible rfl)
 refine wt_ 4 rfl ?_ (fun wx hSx => by obtain ⟨hS1, hS2⟩ := hSx; go_simp; try with_reducible rfl)
 refine wt_ 5 rfl ?_ (fun wx hSx => by obtain ⟨hS1, hS2⟩ := hSx; go_simp; try with_reducible rfl)
 refine wt_ 6 rfl ?_ (fun wx hSx => by obtain ⟨hS1, hS2⟩ := hSx; go_simp; try with_reducible rfl)
 try simp only [Act.put, List.setIfInBounds_toArray]
 refine wpAnyH_ready (rs := [7]) (by kernel_rfl) (by simp) ?_
 refine AllReadyH.cons rfl (fun K hK => ?_) AllReadyH.nil
 go_simp
 refine hK.out _ _ ⟨(Blk.set_other (w := v2.drew) k4 (by omega) 1 (.int .i64 k)).c1.1, (Blk.set_other (w := v2.drew) k5 (by omega) 1 (.int .i64 k)).c1.1⟩ (fun hHeld => ?_)
 clear hK K
 refine wt_ 8 rfl ?_ (fun wx hSx => by obtain ⟨hS1, hS2⟩ := hSx; go_simp; try with_reducible rfl)
 refine wt_ 9 rfl ?_ (fun wx hSx => by obtain ⟨hS1, hS2⟩ := hSx; go_simp; try with_reducible rfl)
 refine wt_ 10 rfl ?_ (fun wx hSx => by obtain ⟨hS1, hS2⟩ := hSx; go_simp; try with_reducible rfl)
 try simp only [Act.put, List.setIfInBounds_toArray]
 refine wpAnyH_ready (rs := [11]) (by kernel_rfl) (by simp) ?_
 refine AllReadyH.cons rfl (fun K hK => ?_) AllReadyH.nil
 go_simp
 refine hK.out _ _ ⟨(Blk.set_other (Blk.set_other (w := v2.drew) k4 (by omega) 1 (.int .i64 k)) (by omega) 2 (.int .i64 c)).c1.1, (Blk.set_other (Blk.set_other (w := v2.drew) k5 (by omega) 1 (.int .i64 k)) (by omega) 2 (.int .i64 c)).c1.1⟩ (fun hHeld => ?_)
 clear hK K
 try simp only [Act.put, List.setIfInBounds_toArray, List.set_cons_succ, List.set_cons_zero]
 refine wpAnyH_done (by kernel_rfl) ?_ _
 go_wp2_with fail
 go_ret
 exact arm_end h hD hW hx hk64
theorem Arm_any (k c : Int) (h : DAt w p g d) (hI : SInv w) (hk64 : k ≤ 9223372036854775807) :
  Calls Tryz.prog 35 #[.pointer (some ⟨p, 0, none⟩), .int .i64 k, .int .i64 c] w (Turned (.int .i64 (d.arm k c).2) p g (d.arm k c).1 w) := by
 rcases bool_cases (armB k c) with hb | hb
 ·rw [arm_eq, hb]
  refine (Arm_wr p k c hI hb).mono ?_
  rintro e w' ⟨rfl, hw⟩
  exact ⟨rfl, h.below hw, But2.of_below hw⟩
 ·rw [arm_eq, hb]
  exact Arm_ok h hb hk64
theorem run_max_int2 (ts : Array TypeId) (t : TypeId) (x y : Int) (w : World) : (Builtin.max_ ts t #[.int .i64 x, .int .i64 y]).run Tryz.prog w = .ok (.int .i64 (if x < y then y else x)) w := by
 simp [Builtin.max_, Builtin.max2]
set_option maxRecDepth 100000 in
theorem goes_any {S C N : Value} (l : Nat) (b : Bool) (hB : Blk w p 93 #[S, .int .i64 (l : Int), C, .bool b, N]) (hl : l ≤ 9223372036854775807) :
  Calls Tryz.prog 50 #[.pointer (some ⟨p, 1, none⟩)] w fun e w' => e = .returned (.bool (decide (l = 1))) ∧ Blk w' p 93 #[S, .int .i64 ((l - 1 : Nat) : Int), C, .bool (decide (l = 1)), N] ∧ But2 p p w w' := by
 obtain ⟨c0, c1, c2, c3, c4, g0, g1, g2, g3, g4⟩ := hB.c5
 have hmax := fun w' => run_max_int2 #[3, 3] 3 (((l - 1 : Nat) : Int)) 0 w'
 rw [if_neg (by omega)] at hmax
 have fin : ∀ (u v : Value), Blk (((w.setCell ⟨p, 1, none⟩ u).setCell ⟨p, 3, none⟩ (.bool (decide (l = 1)))).setCell ⟨p, 1, none⟩ v) p 93 #[S, v, C, .bool (decide (l = 1)), N] ∧ But2 p p w (((w.setCell ⟨p, 1, none⟩ u).setCell ⟨p, 3, none⟩ (.bool (decide (l = 1)))).setCell ⟨p, 1, none⟩ v) := fun u v => by
  have q := ((hB.set_ 1 u).set_ 3 (.bool (decide (l = 1)))).set_ 1 v
  simp only [List.setIfInBounds_toArray, List.set_cons_succ, List.set_cons_zero] at q
  exact ⟨q, (((But2.refl p p w).set1 1 _).set1 3 _).set1 1 _⟩
 by_cases h0 : l = 0
 ·subst h0
  go_enter Tryz.func50, Tryz.ntmps50
  go_wp2_with fail
  go_ret
  exact ⟨rfl, fin _ _⟩
 ·by_cases h1 : l = 1
  ·subst h1
   go_enter Tryz.func50, Tryz.ntmps50
   go_wp2_with fail
   go_ret
   exact ⟨rfl, fin _ _⟩
  ·obtain ⟨q, hq⟩ : ∃ q, l - 1 = q := ⟨_, rfl⟩
   have e1 : wrap64 ((l : Int) - 1) = (q : Int) := by rw [IntWalk.wrap64_in _ ⟨by omega, by omega⟩]; omega
   have e1' : IntKind.i64.wrap ((l : Int) - 1) = (q : Int) := by rw [IntWalk.i64_in _ ⟨by omega, by omega⟩]; omega
   have e2 : ((q : Int) == 0) = false := by simp; omega
   have e3 : decide (l = 1) = false := by simp [h1]
   rw [hq] at hmax
   rw [e3] at fin
   rw [hq, e3]
   clear h0 h1 hq e3 hl
   generalize (l : Int) = L at *
   go_enter Tryz.func50, Tryz.ntmps50
   go_wp2_with fail
   go_ret
   exact ⟨rfl, fin _ _⟩
end Go.Proofs.YtmebjdbkngehiaaGreatDoor
