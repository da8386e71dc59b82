/-
  Package disk: the closures of its calls, and the rule that a disk is not down (up), and more of the kind. Conditions: as the theorems' own hypotheses say.
-/
import Derived.Test.YtmebjdbkngehiaaGreatDoorQgK
import Derived.Test.YtmebjdbkngehiaaGreatDoorQgB
import Derived.Shelf.Abstract
import Derived.Deep.RegionHeld3
namespace Go.Proofs.YtmebjdbkngehiaaGreatDoor
open Go.RowKit Go.Shelf
set_option maxHeartbeats 4000000
variable {w W : World} {p g bx bi k r : Nat} {d : DN} {i e1 : Int} {v1 : Value} {b1 : Bool} {l : List UInt8}
theorem up1_holds (h : DAt w p g d) (hx : w.cell? ⟨bx, 0, none⟩ = some (.pointer (some ⟨p, 0, none⟩))) :
  HoldsAt w (.func (.func 78) #[] #[.pointer (some ⟨bx, 0, none⟩)]) (!d.down) := by
 refine ⟨_, _, rfl, enters_of Tryz.func78 (by kernel_rfl) rfl, fun w' hb => ?_⟩
 obtain ⟨c0, c1, c2, c3, c4, -⟩ := (h.below hb).disk.c5
 have hx := cell_later hb hx
 generalize d.down = b at *
 go_enter Tryz.func78, Tryz.ntmps78
 go_wp2_with fail
 go_ret
 exact ⟨by cases b <;> rfl, ext_refl _⟩
theorem up_any (h : DAt w p g d) :
  Calls Tryz.prog 45 #[.pointer (some ⟨p, 0, none⟩)] w fun x w' => ∃ v, x = .returned v ∧ RuleAt w' v (!d.down) 180 ∧ Below w.heap.size w w' := by
 have hn := ext_new w (.cells #[.pointer (some ⟨p, 0, none⟩)] 29)
 have hh := up1_holds (h.below hn) (bx := w.heap.size) (by simp)
 go_enter Tryz.func45, Tryz.ntmps45
 go_wp2_with fail
 refine (must_any _ _ 180 _ hh ⟨_, _, rfl⟩).mono ?_
 rintro x w1 ⟨v, rfl, hr, hb⟩
 obtain ⟨a1, a2, a3, rfl, hr'⟩ := id hr
 go_wp2_with fail
 go_ret
 exact ⟨_, rfl, hr, ext_trans hn hb⟩
theorem read1_holds (h : DAt w p g d) (hx : w.cell? ⟨bx, 0, none⟩ = some (.pointer (some ⟨p, 0, none⟩))) (hi : w.cell? ⟨bi, 0, none⟩ = some (.int .i64 i)) :
  HoldsAt w (.func (.func 125) #[] #[.pointer (some ⟨bx, 0, none⟩), .pointer (some ⟨bi, 0, none⟩)]) (d.has i) := by
 refine ⟨_, _, rfl, enters_of Tryz.func125 (by kernel_rfl) rfl, fun w' hb => ?_⟩
 obtain ⟨c0, -⟩ := (h.below hb).disk.c5
 have hx := cell_later hb hx
 have hi := cell_later hb hi
 have HH := fun w2 => has_any (some ⟨g, 0, none⟩) d.L.length d.L.length i w2
 unfold DN.has
 generalize d.L.length = n at *
 generalize (decide (0 ≤ i) && decide (i < (n : Int))) = b at *
 go_enter Tryz.func125, Tryz.ntmps125
 go_wp2_with fail
 go_region_held3 (fun W : World => W.cell? ⟨bx, 0, none⟩ = some (.pointer (some ⟨p, 0, none⟩)) ∧ W.cell? ⟨bi, 0, none⟩ = some (.int .i64 i) ∧ W.cell? ⟨p, 0, none⟩ = some (.slice (some ⟨g, 0, none⟩) n n)) (first | exact ⟨hx, hi, c0⟩ | exact ⟨cell_later hb2 hx, cell_later hb2 hi, cell_later hb2 c0⟩)
  (first | (go_at_call 48; refine (HH _).mono ?_; rintro x w2 ⟨rfl, hb2⟩))
 go_wp2_with fail
 go_ret
 exact ⟨rfl, ext_trans (ext_refl _).drew hb2⟩
theorem write1_holds {bs : Nat} {s : ByteArray} (h : DAt w p g d) (hx : w.cell? ⟨bx, 0, none⟩ = some (.pointer (some ⟨p, 0, none⟩))) (hi : w.cell? ⟨bi, 0, none⟩ = some (.int .i64 i)) (hs : w.cell? ⟨bs, 0, none⟩ = some (.string s)) :
  HoldsAt w (.func (.func 47) #[] #[.pointer (some ⟨bx, 0, none⟩), .pointer (some ⟨bi, 0, none⟩), .pointer (some ⟨bs, 0, none⟩)]) (d.has i && decide (s.size = 64)) := by
 refine ⟨_, _, rfl, enters_of Tryz.func47 (by kernel_rfl) rfl, fun w' hb => ?_⟩
 obtain ⟨c0, -⟩ := (h.below hb).disk.c5
 have hx := cell_later hb hx
 have hi := cell_later hb hi
 have hs := cell_later hb hs
 have HH := fun w2 => has_any (some ⟨g, 0, none⟩) d.L.length d.L.length i w2
 unfold DN.has
 generalize d.L.length = n at *
 generalize (decide (0 ≤ i) && decide (i < (n : Int))) = b at *
 have hq : decide (s.size = 64) = ((s.size : Int) == 64) := by
  by_cases hh : s.size = 64
  ·rw [hh]; rfl
  ·have : ((s.size : Int) == 64) = false := by simp; omega
   rw [this]; simp [hh]
 rw [hq]
 generalize hz : ((s.size : Int) == 64) = z
 cases b
 ·go_enter Tryz.func47, Tryz.ntmps47
  go_wp2_with fail
  refine wp_region_held_drew (S := (fun W => W.cell? ⟨bx, 0, none⟩ = some (.pointer (some ⟨p, 0, none⟩)) ∧ W.cell? ⟨bi, 0, none⟩ = some (.int .i64 i) ∧ W.cell? ⟨p, 0, none⟩ = some (.slice (some ⟨g, 0, none⟩) n n) ∧ W.cell? ⟨bs, 0, none⟩ = some (.string s))) (by kernel_rfl) ⟨hx, hi, c0, hs⟩ (fun hHeld => ?_)
  refine wt_ 0 rfl ?_ (fun wx hSx => by obtain ⟨hS1, hS2, hS3, hS4⟩ := hSx; go_simp; try with_reducible rfl)
  refine wt_ 1 rfl ?_ (fun wx hSx => by obtain ⟨hS1, hS2, hS3, hS4⟩ := hSx; go_simp; try with_reducible rfl)
  refine wt_ 2 rfl ?_ (fun wx hSx => by obtain ⟨hS1, hS2, hS3, hS4⟩ := hSx; go_simp; try with_reducible rfl)
  refine wt_ 3 rfl ?_ (fun wx hSx => by obtain ⟨hS1, hS2, hS3, hS4⟩ := hSx; go_simp; try with_reducible rfl)
  refine wt_ 4 rfl ?_ (fun wx hSx => by obtain ⟨hS1, hS2, hS3, hS4⟩ := hSx; go_simp; try with_reducible rfl)
  try simp only [Act.put, List.setIfInBounds_toArray]
  refine wpAnyH_ready (rs := [5]) (by kernel_rfl) (by simp) ?_
  refine AllReadyH.cons rfl (fun K hK => ?_) AllReadyH.nil
  go_simp
  refine (HH _).mono ?_
  rintro x w2 ⟨rfl, hb2⟩
  try go_wp2_with fail
  refine hK.out _ _ ⟨cell_later hb2 hHeld.1, cell_later hb2 hHeld.2.1, cell_later hb2 hHeld.2.2.1, cell_later hb2 hHeld.2.2.2⟩ (fun hHeld => ?_)
  clear hK K
  refine wt_ 6 rfl ?_ (fun wx hSx => by obtain ⟨hS1, hS2, hS3, hS4⟩ := hSx; go_simp; try with_reducible rfl)
  refine wn_ 7 rfl ?_
  refine wn_ 8 rfl ?_
  refine wn_ 9 rfl ?_
  refine wt_ 10 rfl ?_ (fun wx hSx => by obtain ⟨hS1, hS2, hS3, hS4⟩ := hSx; go_simp; try with_reducible rfl)
  refine wt_ 11 rfl ?_ (fun wx hSx => by obtain ⟨hS1, hS2, hS3, hS4⟩ := hSx; go_simp; try with_reducible rfl)
  try simp only [Act.put, List.setIfInBounds_toArray]
  refine wpAnyH_done (by kernel_rfl) ?_ _
  go_wp2_with fail
  all_goals
   rename_i dst1 d1 heq1 dst2 d2 heq2
   cases heq1
   cases heq2
   go_ret
   exact ⟨rfl, ext_trans (ext_refl _).drew hb2⟩
 ·go_enter Tryz.func47, Tryz.ntmps47
  go_wp2_with fail
  refine wp_region_held_drew (S := (fun W => W.cell? ⟨bx, 0, none⟩ = some (.pointer (some ⟨p, 0, none⟩)) ∧ W.cell? ⟨bi, 0, none⟩ = some (.int .i64 i) ∧ W.cell? ⟨p, 0, none⟩ = some (.slice (some ⟨g, 0, none⟩) n n) ∧ W.cell? ⟨bs, 0, none⟩ = some (.string s))) (by kernel_rfl) ⟨hx, hi, c0, hs⟩ (fun hHeld => ?_)
  refine wt_ 0 rfl ?_ (fun wx hSx => by obtain ⟨hS1, hS2, hS3, hS4⟩ := hSx; go_simp; try with_reducible rfl)
  refine wt_ 1 rfl ?_ (fun wx hSx => by obtain ⟨hS1, hS2, hS3, hS4⟩ := hSx; go_simp; try with_reducible rfl)
  refine wt_ 2 rfl ?_ (fun wx hSx => by obtain ⟨hS1, hS2, hS3, hS4⟩ := hSx; go_simp; try with_reducible rfl)
  refine wt_ 3 rfl ?_ (fun wx hSx => by obtain ⟨hS1, hS2, hS3, hS4⟩ := hSx; go_simp; try with_reducible rfl)
  refine wt_ 4 rfl ?_ (fun wx hSx => by obtain ⟨hS1, hS2, hS3, hS4⟩ := hSx; go_simp; try with_reducible rfl)
  try simp only [Act.put, List.setIfInBounds_toArray]
  refine wpAnyH_ready (rs := [5]) (by kernel_rfl) (by simp) ?_
  refine AllReadyH.cons rfl (fun K hK => ?_) AllReadyH.nil
  go_simp
  refine (HH _).mono ?_
  rintro x w2 ⟨rfl, hb2⟩
  try go_wp2_with fail
  refine hK.out _ _ ⟨cell_later hb2 hHeld.1, cell_later hb2 hHeld.2.1, cell_later hb2 hHeld.2.2.1, cell_later hb2 hHeld.2.2.2⟩ (fun hHeld => ?_)
  clear hK K
  refine wt_ 6 rfl ?_ (fun wx hSx => by obtain ⟨hS1, hS2, hS3, hS4⟩ := hSx; go_simp; try with_reducible rfl)
  refine wt_ 7 rfl ?_ (fun wx hSx => by obtain ⟨hS1, hS2, hS3, hS4⟩ := hSx; go_simp; try with_reducible rfl)
  refine wt_ 8 rfl ?_ (fun wx hSx => by obtain ⟨hS1, hS2, hS3, hS4⟩ := hSx; go_simp; try with_reducible rfl)
  refine wt_ 9 rfl ?_ (fun wx hSx => by obtain ⟨hS1, hS2, hS3, hS4⟩ := hSx; go_simp; try with_reducible rfl)
  refine wt_ 10 rfl ?_ (fun wx hSx => by obtain ⟨hS1, hS2, hS3, hS4⟩ := hSx; go_simp; try with_reducible rfl)
  refine wt_ 11 rfl ?_ (fun wx hSx => by obtain ⟨hS1, hS2, hS3, hS4⟩ := hSx; go_simp; try with_reducible rfl)
  try simp only [Act.put, List.setIfInBounds_toArray]
  refine wpAnyH_done (by kernel_rfl) ?_ _
  go_wp2_with fail
  all_goals
   rename_i dst1 d1 heq1 dst2 d2 heq2
   cases heq1
   cases heq2
   go_ret
   exact ⟨rfl, ext_trans (ext_refl _).drew hb2⟩
theorem arm1_holds {bk bc : Nat} {k c : Int} (hk : w.cell? ⟨bk, 0, none⟩ = some (.int .i64 k)) (hc : w.cell? ⟨bc, 0, none⟩ = some (.int .i64 c)) :
  HoldsAt w (.func (.func 66) #[] #[.pointer (some ⟨bk, 0, none⟩), .pointer (some ⟨bc, 0, none⟩)]) (decide (1 ≤ k) && (decide (0 ≤ c) && decide (c ≤ 64))) := by
 refine ⟨_, _, rfl, enters_of Tryz.func66 (by kernel_rfl) rfl, fun w' hb => ?_⟩
 have hk := cell_later hb hk
 have hc := cell_later hb hc
 by_cases h1 : 1 ≤ k
 ·by_cases h2 : 0 ≤ c
  ·by_cases h3 : c ≤ 64
   all_goals
    go_enter Tryz.func66, Tryz.ntmps66
    go_wp2_with fail
    go_ret
    exact ⟨by simp [h1, h2, h3], ext_refl _⟩
  ·go_enter Tryz.func66, Tryz.ntmps66
   go_wp2_with fail
   go_ret
   exact ⟨by simp []; omega, ext_refl _⟩
 ·go_enter Tryz.func66, Tryz.ntmps66
  go_wp2_with fail
  go_ret
  exact ⟨by simp; omega, ext_refl _⟩
theorem rules2 {v2 : Value} {b2 : Bool} {e2 : Int} (c1 : W.cell? ⟨r, 0, none⟩ = some v1) (c2 : W.cell? ⟨r, 1, none⟩ = some v2) (h1 : RuleAt W v1 b1 e1) (h2 : RuleAt W v2 b2 e2) : RulesAt W r [(b1, e1), (b2, e2)] := fun i hi => by
 match i, hi with
 | 0, _ => exact ⟨v1, c1, h1⟩
 | 1, _ => exact ⟨v2, c2, h2⟩
theorem rules1 (c1 : W.cell? ⟨r, 0, none⟩ = some v1) (h1 : RuleAt W v1 b1 e1) : RulesAt W r [(b1, e1)] := fun i hi => by
 match i, hi with
 | 0, _ => exact ⟨v1, c1, h1⟩
theorem flat_at {L : List (List UInt8)} (h : ∀ s ∈ L, s.length = 64) {k : Nat} {l : List UInt8} (hl : L[k]? = some l) (j : Nat) (hj : j < l.length) : L.flatten[k * 64 + j]? = some l[j] := by
 obtain ⟨hk, e⟩ := List.getElem?_eq_some_iff.1 hl
 have h1 := flat_sector h k hk
 rw [e] at h1
 have h2 : l[j]? = some l[j] := List.getElem?_eq_getElem hj
 have h3 := h _ (List.mem_of_getElem? hl)
 have h4 : ((L.flatten.drop (64 * k)).take 64)[j]? = l[j]? := by rw [h1]
 rw [List.getElem?_take_of_lt (by omega), List.getElem?_drop, Nat.mul_comm, h2] at h4
 exact h4
theorem secs_at (h : DAt W p g d) (hl : d.L[k]? = some l) (j : Nat) (hj : j < l.length) : W.cell? ⟨g, k * 64 + j, none⟩ = some (.int .u8 (l[j].toNat : Int)) := by
 rw [h.secs.cell]
 have := flat_at h.fit.sec hl j hj
 rw [List.getElem?_toArray, cellsB, List.getElem?_map, this]
 rfl
theorem read_conv (h : DAt W p g d) (hl : d.L[k]? = some l) :
  (convert 36 9 (.slice (some ⟨g, k * 64, none⟩) 64 64)).run Tryz.prog W.drew = .ok (.string ⟨l.toArray⟩) W.drew := by
 have hs := h.fit.sec _ (List.mem_of_getElem? hl)
 have := run_convert_bytes_back (P := Tryz.prog) W.drew 36 9 5 ⟨g, k * 64, none⟩ 64 l Tryz.underlying36 Tryz.underlying5 Tryz.underlying9 (fun j hj => by
  rw [Addr.add_mid]
  exact secs_at h hl j hj)
 rwa [hs] at this
set_option maxRecDepth 100000 in
theorem Read_wr {x : Int} (h : DAt w p g d) (hI : SInv w) (hx : firstE [(!d.down, 180), (d.has i, 181)] = WrV x) :
  Calls Tryz.prog 93 #[.pointer (some ⟨p, 0, none⟩), .int .i64 i] w (Ret (.tuple #[.string ByteArray.empty, .int .i64 x]) w) := by
 have hn1 := ext_alloc (ext_new w (.cells #[.pointer (some ⟨p, 0, none⟩)] 29)) (.cells #[.int .i64 i] 3)
 have k2 : Blk (((w.alloc (.cells #[.pointer (some ⟨p, 0, none⟩)] 29)).alloc (.cells #[.int .i64 i] 3)).drew) w.heap.size 29 #[.pointer (some ⟨p, 0, none⟩)] := (Blk.new_ w _ _).alloc _
 have k3 : Blk (((w.alloc (.cells #[.pointer (some ⟨p, 0, none⟩)] 29)).alloc (.cells #[.int .i64 i] 3)).drew) (w.heap.size + 1) 3 #[.int .i64 i] := Blk.at_ (w := w.alloc (.cells #[.pointer (some ⟨p, 0, none⟩)] 29)) (by simp)
 have hD0 := h.below hn1.drew
 have hb0 : Below w.heap.size w (((w.alloc (.cells #[.pointer (some ⟨p, 0, none⟩)] 29)).alloc (.cells #[.int .i64 i] 3)).drew) := hn1.drew
 go_enter Tryz.func93, Tryz.ntmps93
 go_wp2_with fail
 obtain ⟨x2, -⟩ := k2.c1
 go_region_held3 (fun W : World => W.cell? ⟨w.heap.size, 0, none⟩ = some (.pointer (some ⟨p, 0, none⟩))) (first | exact x2 | exact (k2.below hb1).c1.1 | exact (k2.below (ext_trans hb1 hb2)).c1.1 | exact (k2.below (ext_alloc (ext_trans hb1 hb2) _)).c1.1 | exact (k2.below (ext_trans (ext_alloc (ext_trans hb1 hb2) _) hb3)).c1.1)
  (first
   | (go_at_call 45; refine (up_any hD0).mono ?_; rintro y v1 ⟨u1, rfl, hr1, hb1⟩; obtain ⟨a1, a2, a3, rfl, -⟩ := id hr1)
   | (go_at_call 46; refine (must_any _ (d.has i) 181 _ (read1_holds (hD0.below hb1) (k2.below hb1).c1.1 (k3.below hb1).c1.1) ⟨_, _, rfl⟩).mono ?_; rintro y v2 ⟨u2, rfl, hr2, hb2⟩; obtain ⟨d1, d2, d3, rfl, -⟩ := id hr2)
   | (go_at_call 44; refine (check_any p _ [(!d.down, 180), (d.has i, 181)] _ (rules2 (by simp) (by simp) (hr1.below (ext_alloc hb2 _)) (hr2.below (ext_new _ _))) (by simp)).mono ?_; rw [hx]; unfold WrV; rintro y v3 ⟨rfl, hb3⟩))
 all_goals
  have hW := ext_trans hb0 (ext_trans (ext_alloc (ext_trans hb1 hb2) (.cells #[.func (.func 79) #[] #[.pointer (some ⟨a1, 0, none⟩), .pointer (some ⟨a2, 0, none⟩)], .func (.func 79) #[] #[.pointer (some ⟨d1, 0, none⟩), .pointer (some ⟨d2, 0, none⟩)]] 98)) hb3)
  have hT := tolds_wr ByteArray.empty x _ (hI.below hW)
  unfold WrV at hT
  go_wp2_with fail
  refine hT.mono ?_
  rintro y v4 ⟨rfl, hb4⟩
  go_wp2_with fail
  go_ret2
  exact ⟨rfl, ext_trans hW hb4⟩
set_option maxRecDepth 100000 in
theorem Read_ok (h : DAt w p g d) {l : List UInt8} (hd : d.down = false) (hl : d.L[k]? = some l) :
  Calls Tryz.prog 93 #[.pointer (some ⟨p, 0, none⟩), .int .i64 (k : Int)] w (Ret (.tuple #[.string ⟨l.toArray⟩, .int .i64 0]) w) := by
 obtain ⟨hk, -⟩ := List.getElem?_eq_some_iff.1 hl
 have hx : firstE [(!d.down, 180), (d.has (k : Int), 181)] = .nilIface := by rw [hd, DN.has_iff.2 ⟨k, rfl, hk⟩]; rfl
 have hn1 := ext_alloc (ext_new w (.cells #[.pointer (some ⟨p, 0, none⟩)] 29)) (.cells #[.int .i64 (k : Int)] 3)
 have k2 : Blk (((w.alloc (.cells #[.pointer (some ⟨p, 0, none⟩)] 29)).alloc (.cells #[.int .i64 (k : Int)] 3)).drew) w.heap.size 29 #[.pointer (some ⟨p, 0, none⟩)] := (Blk.new_ w _ _).alloc _
 have k3 : Blk (((w.alloc (.cells #[.pointer (some ⟨p, 0, none⟩)] 29)).alloc (.cells #[.int .i64 (k : Int)] 3)).drew) (w.heap.size + 1) 3 #[.int .i64 (k : Int)] := Blk.at_ (w := w.alloc (.cells #[.pointer (some ⟨p, 0, none⟩)] 29)) (by simp)
 have hD0 := h.below hn1.drew
 have hb0 : Below w.heap.size w (((w.alloc (.cells #[.pointer (some ⟨p, 0, none⟩)] 29)).alloc (.cells #[.int .i64 (k : Int)] 3)).drew) := hn1.drew
 go_enter Tryz.func93, Tryz.ntmps93
 go_wp2_with fail
 obtain ⟨x2, -⟩ := k2.c1
 go_region_held3 (fun W : World => W.cell? ⟨w.heap.size, 0, none⟩ = some (.pointer (some ⟨p, 0, none⟩))) (first | exact x2 | exact (k2.below hb1).c1.1 | exact (k2.below (ext_trans hb1 hb2)).c1.1 | exact (k2.below (ext_alloc (ext_trans hb1 hb2) _)).c1.1 | exact (k2.below (ext_trans (ext_alloc (ext_trans hb1 hb2) _) hb3)).c1.1)
  (first
   | (go_at_call 45; refine (up_any hD0).mono ?_; rintro y v1 ⟨u1, rfl, hr1, hb1⟩; obtain ⟨a1, a2, a3, rfl, -⟩ := id hr1)
   | (go_at_call 46; refine (must_any _ (d.has (k : Int)) 181 _ (read1_holds (hD0.below hb1) (k2.below hb1).c1.1 (k3.below hb1).c1.1) ⟨_, _, rfl⟩).mono ?_; rintro y v2 ⟨u2, rfl, hr2, hb2⟩; obtain ⟨d1, d2, d3, rfl, -⟩ := id hr2)
   | (go_at_call 44; refine (check_any p _ [(!d.down, 180), (d.has (k : Int), 181)] _ (rules2 (by simp) (by simp) (hr1.below (ext_alloc hb2 _)) (hr2.below (ext_new _ _))) (by simp)).mono ?_; rw [hx]; rintro y v3 ⟨rfl, hb3⟩))
 all_goals
  have hW := ext_trans hb0 (ext_trans (ext_alloc (ext_trans hb1 hb2) (.cells #[.func (.func 79) #[] #[.pointer (some ⟨a1, 0, none⟩), .pointer (some ⟨a2, 0, none⟩)], .func (.func 79) #[] #[.pointer (some ⟨d1, 0, none⟩), .pointer (some ⟨d2, 0, none⟩)]] 98)) hb3)
  have k4 := k2.below (ext_trans (ext_alloc (ext_trans hb1 hb2) (.cells #[.func (.func 79) #[] #[.pointer (some ⟨a1, 0, none⟩), .pointer (some ⟨a2, 0, none⟩)], .func (.func 79) #[] #[.pointer (some ⟨d1, 0, none⟩), .pointer (some ⟨d2, 0, none⟩)]] 98)) hb3)
  have k5 := k3.below (ext_trans (ext_alloc (ext_trans hb1 hb2) (.cells #[.func (.func 79) #[] #[.pointer (some ⟨a1, 0, none⟩), .pointer (some ⟨a2, 0, none⟩)], .func (.func 79) #[] #[.pointer (some ⟨d1, 0, none⟩), .pointer (some ⟨d2, 0, none⟩)]] 98)) hb3)
  have hD3 := h.below hW
  have hcv := read_conv hD3 hl
  obtain ⟨x2, -⟩ := k4.c1
  obtain ⟨x3, -⟩ := k5.c1
  obtain ⟨c0, -⟩ := hD3.disk.c5
  have i1 : (0 : Int) ≤ (k : Int) := by omega
  have i2 : (k : Int) < (d.L.length : Int) := by omega
  go_wp2_with fail
  refine wp_region_held_drew (S := (fun W => W.cell? ⟨w.heap.size, 0, none⟩ = some (.pointer (some ⟨p, 0, none⟩)) ∧ W.cell? ⟨w.heap.size + 1, 0, none⟩ = some (.int .i64 (k : Int)) ∧ W.cell? ⟨p, 0, none⟩ = some (.slice (some ⟨g, 0, none⟩) d.L.length d.L.length))) (by kernel_rfl) ⟨x2, x3, c0⟩ (fun hHeld => ?_)
  refine wt_ 0 rfl ?_ (fun wx hSx => by obtain ⟨hS1, hS2, hS3⟩ := hSx; go_simp; try with_reducible rfl)
  refine wt_ 1 rfl ?_ (fun wx hSx => by obtain ⟨hS1, hS2, hS3⟩ := hSx; go_simp; try with_reducible rfl)
  refine wt_ 2 rfl ?_ (fun wx hSx => by obtain ⟨hS1, hS2, hS3⟩ := hSx; go_simp; try with_reducible rfl)
  refine wt_ 3 rfl ?_ (fun wx hSx => by obtain ⟨hS1, hS2, hS3⟩ := hSx; go_simp; try with_reducible rfl)
  refine wt_ 4 rfl ?_ (fun wx hSx => by obtain ⟨hS1, hS2, hS3⟩ := hSx; go_simp; try with_reducible rfl)
  refine wt_ 5 rfl ?_ (fun wx hSx => by obtain ⟨hS1, hS2, hS3⟩ := hSx; go_simp; try with_reducible rfl)
  refine wt_ 6 rfl ?_ (fun wx hSx => by obtain ⟨hS1, hS2, hS3⟩ := hSx; go_simp; try with_reducible rfl)
  refine wt_ 7 rfl ?_ (fun wx hSx => by obtain ⟨hS1, hS2, hS3⟩ := hSx; go_simp; try with_reducible rfl)
  try simp only [Act.put, List.setIfInBounds_toArray]
  refine wpAnyH_ready (rs := [8]) (by kernel_rfl) (by simp) ?_
  refine AllReadyH.cons rfl (fun K hK => ?_) AllReadyH.nil
  go_simp
  refine hK.out _ _ hHeld (fun hHeld => ?_)
  clear hK K
  refine wt_ 9 rfl ?_ (fun wx hSx => by obtain ⟨hS1, hS2, hS3⟩ := hSx; go_simp; try with_reducible rfl)
  refine wt_ 10 rfl ?_ (fun wx hSx => by obtain ⟨hS1, hS2, hS3⟩ := hSx; go_simp; try with_reducible rfl)
  try simp only [Act.put, List.setIfInBounds_toArray]
  refine wpAnyH_done (by kernel_rfl) ?_ _
  go_wp2_with fail
  rename_i dst1 dd1 heq1 dst2 dd2 heq2
  cases heq1
  cases heq2
  go_ret2
  exact ⟨rfl, hW.drew⟩
theorem Read_any (i : Int) (h : DAt w p g d) (hI : SInv w) :
  Calls Tryz.prog 93 #[.pointer (some ⟨p, 0, none⟩), .int .i64 i] w (Ret (.tuple #[.string ⟨(d.read i).1.toArray⟩, .int .i64 (d.read i).2]) w) := by
 cases hd : d.down with
 | true =>
  rw [DN.read_down hd]
  exact Read_wr h hI (by rw [hd]; rfl)
 | false =>
  rcases has_cases d i with hi | ⟨k, rfl, hk⟩
  ·rw [DN.read_no hd hi]
   exact Read_wr h hI (by rw [hd, hi]; rfl)
  ·rw [DN.read_ok hd hk]
   exact Read_ok h hd (List.getElem?_eq_getElem hk)
end Go.Proofs.YtmebjdbkngehiaaGreatDoor
