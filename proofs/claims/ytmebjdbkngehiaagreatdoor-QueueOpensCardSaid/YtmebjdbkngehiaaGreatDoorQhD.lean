/-
  A queue's state in memory: key, and more of the kind. Conditions: as the theorems' own hypotheses say.
-/
import Derived.Test.YtmebjdbkngehiaaGreatDoorQhC
import Derived.Laws.CopyRow
import Derived.Test.YtmebjdbkngehiaaGreatDoorQgA
namespace Go.Proofs.YtmebjdbkngehiaaGreatDoor
open Go.RowKit
set_option maxHeartbeats 40000000
variable {w W w' : World} {c : QC} {v : QV} {s : SN} {base n g size c1 i : Nat} {t : TypeId} {xs : List Value} {vi vl : Value} {l : List EI} {P : Program} {ops : Array Oper} {o : Oper} {a : Act} {Q : Exit → Act → World → Prop}
def SN.keyR (s : SN) (r : RI) : SN := if 1 ≤ r.id ∧ 1 ≤ r.d.size ∧ r.d.size ≤ 120 ∧ s.free r.id r.d = true then ⟨s.L, s.K ++ [⟨r.id, r.d⟩]⟩ else s
set_option maxRecDepth 100000 in
theorem key_any (r : RI) (h : SAt w c v s) (hl : s.K.length ≤ 1000) (hz : r.d.size ≤ 1000000) :
  Calls Tryz.prog 128 #[.pointer (some ⟨c.b, 0, none⟩), r.val] w fun e w' => e = .returned (.tuple #[]) ∧ SWent w c v (s.keyR r) w' := by
 have HKEY := Lib.hid (show s.keyR r = if 1 ≤ r.id ∧ 1 ≤ r.d.size ∧ r.d.size ≤ 120 ∧ s.free r.id r.d = true then ⟨s.L, s.K ++ [⟨r.id, r.d⟩]⟩ else s from rfl)
 have hb2 := ext_new w (.cells #[.int .i64 r.op, .int .i64 r.id, .string r.d] 128)
 have hR := Blk.new_ w 128 #[.int .i64 r.op, .int .i64 r.id, .string r.d]
 have hlt2 := fun (k : Nat) (q : QF c v k) => h.lt q
 have hS2 := h.below hb2
 unfold RI.val
 go_enter Tryz.func128, Tryz.ntmps128
 go_wp2_with fail
 generalize w.alloc (.cells #[.int .i64 r.op, .int .i64 r.id, .string r.d] 128) = W at *
 have HLR := Lib.hid (fun (V : World) (hV : Below W.heap.size W V) => (show V.cell? ⟨w.heap.size, 0, none⟩ = some (.int .i64 r.op) ∧ V.cell? ⟨w.heap.size, 1, none⟩ = some (.int .i64 r.id) ∧ V.cell? ⟨w.heap.size, 2, none⟩ = some (.string r.d) from by
  obtain ⟨k0, k1, k2, -⟩ := (hR.below hV).c3
  exact ⟨k0, k1, k2⟩))
 have HFR := Lib.hid (fun (V : World) (hV : Below W.heap.size W V) => free_any r.id r.d (hS2.below hV) (by omega))
 have HAD := Lib.hid (fun (V : World) (hV : Below W.heap.size W V) => add_any r.id r.d (hS2.below hV) (by omega))
 have HLT := Lib.hid hlt2
 have HRR := Lib.hid hR
 clear hlt2 hR hS2
 by_cases k1 : 1 ≤ r.id
 ·by_cases k2 : (1 : Int) ≤ (r.d.size : Int)
  ·by_cases k3 : (r.d.size : Int) ≤ 120
   ·generalize hfr : s.free r.id r.d = fr at *
    refine wp_region_held_drew (S := (Below W.heap.size W)) (by kernel_rfl) (Below.refl _ _).drew (fun hHeld => ?_)
    refine tk_ 0 4 rfl rfl ?_
    refine tk_ 1 5 rfl rfl ?_ (fun wx hSx => by have g := HLR.out _ hSx; have g0 := g.1; have g1 := g.2.1; have g2 := g.2.2; clear g; go_simp; try with_reducible rfl)
    refine tk_ 2 6 rfl rfl ?_
    refine tk_ 3 7 rfl rfl ?_
    refine tk_ 4 8 rfl rfl ?_
    refine tk_ 5 9 rfl rfl ?_ (fun wx hSx => by have g := HLR.out _ hSx; have g0 := g.1; have g1 := g.2.1; have g2 := g.2.2; clear g; go_simp; try with_reducible rfl)
    refine tk_ 6 10 rfl rfl ?_
    refine tk_ 7 11 rfl rfl ?_
    refine tk_ 8 12 rfl rfl ?_
    refine tk_ 9 13 rfl rfl ?_
    refine tk_ 10 14 rfl rfl ?_
    refine tk_ 11 15 rfl rfl ?_ (fun wx hSx => by have g := HLR.out _ hSx; have g0 := g.1; have g1 := g.2.1; have g2 := g.2.2; clear g; go_simp; try with_reducible rfl)
    refine tk_ 12 16 rfl rfl ?_
    refine tk_ 13 17 rfl rfl ?_
    refine tk_ 14 18 rfl rfl ?_
    refine tk_ 15 19 rfl rfl ?_
    refine tk_ 16 20 rfl rfl ?_
    refine tk_ 17 21 rfl rfl ?_
    refine tk_ 18 22 rfl rfl ?_
    refine tk_ 19 23 rfl rfl ?_
    refine tk_ 20 24 rfl rfl ?_ (fun wx hSx => by have g := HLR.out _ hSx; have g0 := g.1; have g1 := g.2.1; have g2 := g.2.2; clear g; go_simp; try with_reducible rfl)
    refine tk_ 21 25 rfl rfl ?_
    refine tk_ 22 26 rfl rfl ?_ (fun wx hSx => by have g := HLR.out _ hSx; have g0 := g.1; have g1 := g.2.1; have g2 := g.2.2; clear g; go_simp; try with_reducible rfl)
    refine rdy1 23 rfl (fun K hK => ?_)
    go_simp
    with_reducible refine (HFR.out _ hHeld).mono ?_
    rintro e w3 ⟨rfl, rfl⟩
    try go_wp2_with fail
    refine hK.out _ _ hHeld (fun hHeld => ?_)
    clear hK K
    refine tk_ 24 28 rfl rfl ?_
    refine wpAnyH_done (by kernel_rfl) ?_ _
    try simp only [Act.put, List.setIfInBounds_toArray, List.set_cons_succ, List.set_cons_zero]
    have hH2 := hHeld
    cases fr with
    | false =>
     go_wp2_with fail
     exact bodyPost_end (v := .tuple #[]) (results_none (by kernel_rfl) _ _ _) rfl ⟨rfl, by rw [HKEY.out, if_neg (fun q => by cases q.2.2.2)]; exact .refl h (ext_trans hb2 hHeld)⟩
    | true =>
     go_wp2_with fail
     refine wp_region_held_drew (S := (fun V : World => V.cell? ⟨w.heap.size, 1, none⟩ = some (.int .i64 r.id) ∧ V.cell? ⟨w.heap.size, 2, none⟩ = some (.string r.d))) (by kernel_rfl) ⟨(HLR.out _ hH2.drew).2.1, (HLR.out _ hH2.drew).2.2⟩ (fun hHeld => ?_)
     refine tk_ 0 29 rfl rfl ?_
     refine tk_ 1 30 rfl rfl ?_
     refine tk_ 2 31 rfl rfl ?_
     refine tk_ 3 32 rfl rfl ?_
     refine tk_ 4 33 rfl rfl ?_ (fun wx hSx => by have g1 := hSx.1; have g2 := hSx.2; go_simp; try with_reducible rfl)
     refine tk_ 5 34 rfl rfl ?_
     refine tk_ 6 35 rfl rfl ?_ (fun wx hSx => by have g1 := hSx.1; have g2 := hSx.2; go_simp; try with_reducible rfl)
     refine rdy1 7 rfl (fun K hK => ?_)
     go_simp
     with_reducible refine (HAD.out _ hH2.drew).mono ?_
     rintro e w4 ⟨rfl, hW4⟩
     have hR4 : Blk w4 w.heap.size 128 #[.int .i64 r.op, .int .i64 r.id, .string r.d] := (HRR.out.below hH2.drew).kept (hW4.foot _ (HRR.out.below hH2.drew).lt (fun q => Nat.lt_irrefl _ (HLT.out _ q)))
     try go_wp2_with fail
     refine hK.out _ _ ⟨hR4.c3.2.1, hR4.c3.2.2.1⟩ (fun hHeld => ?_)
     clear hK K
     refine wpAnyH_done (by kernel_rfl) ?_ _
     try simp only [Act.put, List.setIfInBounds_toArray, List.set_cons_succ, List.set_cons_zero]
     have hw := ext_trans hb2 hH2.drew
     have hfin : SWent w c v (s.keyR r) w4 := by
      rw [HKEY.out, if_pos ⟨k1, by omega, by omega, by simp⟩]
      exact SWent.from hw hW4
     have HFI := Lib.hid hfin
     clear hfin hW4
     go_wp2_with fail
     exact bodyPost_end (v := .tuple #[]) (results_none (by kernel_rfl) _ _ _) rfl ⟨rfl, HFI.out⟩
   ·have HK3 := Lib.hid k3
    refine wp_region_held_drew (S := (Below W.heap.size W)) (by kernel_rfl) (Below.refl _ _).drew (fun hHeld => ?_)
    refine tk_ 0 4 rfl rfl ?_
    refine tk_ 1 5 rfl rfl ?_ (fun wx hSx => by have g := HLR.out _ hSx; have g0 := g.1; have g1 := g.2.1; have g2 := g.2.2; clear g; go_simp; try with_reducible rfl)
    refine tk_ 2 6 rfl rfl ?_
    refine tk_ 3 7 rfl rfl ?_
    refine tk_ 4 8 rfl rfl ?_
    refine tk_ 5 9 rfl rfl ?_ (fun wx hSx => by have g := HLR.out _ hSx; have g0 := g.1; have g1 := g.2.1; have g2 := g.2.2; clear g; go_simp; try with_reducible rfl)
    refine tk_ 6 10 rfl rfl ?_
    refine tk_ 7 11 rfl rfl ?_
    refine tk_ 8 12 rfl rfl ?_
    refine tk_ 9 13 rfl rfl ?_
    refine tk_ 10 14 rfl rfl ?_
    refine tk_ 11 15 rfl rfl ?_ (fun wx hSx => by have g := HLR.out _ hSx; have g0 := g.1; have g1 := g.2.1; have g2 := g.2.2; clear g; go_simp; try with_reducible rfl)
    refine tk_ 12 16 rfl rfl ?_
    refine tk_ 13 17 rfl rfl ?_
    refine tk_ 14 18 rfl rfl ?_
    refine tk_ 15 19 rfl rfl ?_
    refine wpAnyH_no (i := 16) (some 20) rfl rfl ?_
    refine wpAnyH_no (i := 17) (some 21) rfl rfl ?_
    refine wpAnyH_no (i := 18) (some 22) rfl rfl ?_
    refine wpAnyH_no (i := 19) (some 23) rfl rfl ?_
    refine wpAnyH_no (i := 20) (some 24) rfl rfl ?_
    refine wpAnyH_no (i := 21) (some 25) rfl rfl ?_
    refine wpAnyH_no (i := 22) (some 26) rfl rfl ?_
    refine wpAnyH_no (i := 23) (some 27) rfl rfl ?_
    refine tk_ 24 28 rfl rfl ?_
    refine wpAnyH_done (by kernel_rfl) ?_ _
    try simp only [Act.put, List.setIfInBounds_toArray, List.set_cons_succ, List.set_cons_zero]
    go_wp2_with fail
    exact bodyPost_end (v := .tuple #[]) (results_none (by kernel_rfl) _ _ _) rfl ⟨rfl, by rw [HKEY.out, if_neg (fun q => by have := HK3.out; omega)]; exact .refl h (ext_trans hb2 hHeld)⟩
  ·have HK2 := Lib.hid k2
   refine wp_region_held_drew (S := (Below W.heap.size W)) (by kernel_rfl) (Below.refl _ _).drew (fun hHeld => ?_)
   refine tk_ 0 4 rfl rfl ?_
   refine tk_ 1 5 rfl rfl ?_ (fun wx hSx => by have g := HLR.out _ hSx; have g0 := g.1; have g1 := g.2.1; have g2 := g.2.2; clear g; go_simp; try with_reducible rfl)
   refine tk_ 2 6 rfl rfl ?_
   refine tk_ 3 7 rfl rfl ?_
   refine tk_ 4 8 rfl rfl ?_
   refine tk_ 5 9 rfl rfl ?_ (fun wx hSx => by have g := HLR.out _ hSx; have g0 := g.1; have g1 := g.2.1; have g2 := g.2.2; clear g; go_simp; try with_reducible rfl)
   refine tk_ 6 10 rfl rfl ?_
   refine tk_ 7 11 rfl rfl ?_
   refine tk_ 8 12 rfl rfl ?_
   refine tk_ 9 13 rfl rfl ?_
   refine wpAnyH_no (i := 10) (some 14) rfl rfl ?_
   refine wpAnyH_no (i := 11) (some 15) rfl rfl ?_
   refine wpAnyH_no (i := 12) (some 16) rfl rfl ?_
   refine wpAnyH_no (i := 13) (some 17) rfl rfl ?_
   refine tk_ 14 18 rfl rfl ?_
   refine tk_ 15 19 rfl rfl ?_
   refine wpAnyH_no (i := 16) (some 20) rfl rfl ?_
   refine wpAnyH_no (i := 17) (some 21) rfl rfl ?_
   refine wpAnyH_no (i := 18) (some 22) rfl rfl ?_
   refine wpAnyH_no (i := 19) (some 23) rfl rfl ?_
   refine wpAnyH_no (i := 20) (some 24) rfl rfl ?_
   refine wpAnyH_no (i := 21) (some 25) rfl rfl ?_
   refine wpAnyH_no (i := 22) (some 26) rfl rfl ?_
   refine wpAnyH_no (i := 23) (some 27) rfl rfl ?_
   refine tk_ 24 28 rfl rfl ?_
   refine wpAnyH_done (by kernel_rfl) ?_ _
   try simp only [Act.put, List.setIfInBounds_toArray, List.set_cons_succ, List.set_cons_zero]
   go_wp2_with fail
   exact bodyPost_end (v := .tuple #[]) (results_none (by kernel_rfl) _ _ _) rfl ⟨rfl, by rw [HKEY.out, if_neg (fun q => by have := HK2.out; omega)]; exact .refl h (ext_trans hb2 hHeld)⟩
 ·have HK1 := Lib.hid k1
  refine wp_region_held_drew (S := (Below W.heap.size W)) (by kernel_rfl) (Below.refl _ _).drew (fun hHeld => ?_)
  refine tk_ 0 4 rfl rfl ?_
  refine tk_ 1 5 rfl rfl ?_ (fun wx hSx => by have g := HLR.out _ hSx; have g0 := g.1; have g1 := g.2.1; have g2 := g.2.2; clear g; go_simp; try with_reducible rfl)
  refine tk_ 2 6 rfl rfl ?_
  refine tk_ 3 7 rfl rfl ?_
  refine wpAnyH_no (i := 4) (some 8) rfl rfl ?_
  refine wpAnyH_no (i := 5) (some 9) rfl rfl ?_
  refine wpAnyH_no (i := 6) (some 10) rfl rfl ?_
  refine wpAnyH_no (i := 7) (some 11) rfl rfl ?_
  refine tk_ 8 12 rfl rfl ?_
  refine tk_ 9 13 rfl rfl ?_
  refine wpAnyH_no (i := 10) (some 14) rfl rfl ?_
  refine wpAnyH_no (i := 11) (some 15) rfl rfl ?_
  refine wpAnyH_no (i := 12) (some 16) rfl rfl ?_
  refine wpAnyH_no (i := 13) (some 17) rfl rfl ?_
  refine tk_ 14 18 rfl rfl ?_
  refine tk_ 15 19 rfl rfl ?_
  refine wpAnyH_no (i := 16) (some 20) rfl rfl ?_
  refine wpAnyH_no (i := 17) (some 21) rfl rfl ?_
  refine wpAnyH_no (i := 18) (some 22) rfl rfl ?_
  refine wpAnyH_no (i := 19) (some 23) rfl rfl ?_
  refine wpAnyH_no (i := 20) (some 24) rfl rfl ?_
  refine wpAnyH_no (i := 21) (some 25) rfl rfl ?_
  refine wpAnyH_no (i := 22) (some 26) rfl rfl ?_
  refine wpAnyH_no (i := 23) (some 27) rfl rfl ?_
  refine tk_ 24 28 rfl rfl ?_
  refine wpAnyH_done (by kernel_rfl) ?_ _
  try simp only [Act.put, List.setIfInBounds_toArray, List.set_cons_succ, List.set_cons_zero]
  go_wp2_with fail
  exact bodyPost_end (v := .tuple #[]) (results_none (by kernel_rfl) _ _ _) rfl ⟨rfl, by rw [HKEY.out, if_neg (fun q => by have := HK1.out; omega)]; exact .refl h (ext_trans hb2 hHeld)⟩
theorem own_setN {c : Nat} (h : w.ownsRow base t size (.slice (some ⟨g, 0, none⟩) n c) n xs) (i : Nat) (v : Value) :
  (w.setCell ⟨g, i, none⟩ v).ownsRow base t size (.slice (some ⟨g, 0, none⟩) n c) n (xs.set i v) := by
 obtain ⟨h0, ⟨h1, -⟩ | ⟨g', cap, cur, h1, hb, hg, hn, hm, hs, ht⟩⟩ := h
 ·cases h1
 ·injection h1 with e1 e2 e3
  injection e1 with e1
  injection e1 with e1
  subst e1 e3
  refine ⟨by rw [List.length_set]; exact h0, .inr ⟨_, _, cur.setIfInBounds i v, rfl, hb, Blk.set_ hg i v, hn, hm, by rw [Array.size_setIfInBounds]; exact hs, ?_⟩⟩
  rw [Array.toList_setIfInBounds, List.take_set, ht]
theorem own_frozenN {c : Nat} (h : w.ownsRow base t size (.slice (some ⟨g, 0, none⟩) n c) n xs) (i : Nat) : w.frozen? ⟨g, i, none⟩ = false := by
 obtain ⟨h0, ⟨h1, -⟩ | ⟨g', cap, cur, h1, hb, hg, -⟩⟩ := h
 ·cases h1
 ·injection h1 with e1 e2 e3
  injection e1 with e1
  injection e1 with e1
  subst e1
  exact Blk.frozen hg i
theorem cellsE_send (l : List EI) : ∀ i, cellsE (l.modify i EI.send) = if i < l.length then (cellsE l).set (i * 7 + 6) (.bool true) else cellsE l := by
 induction l with
 | nil => intro i; cases i <;> simp
 | cons e l ih =>
  intro i
  have h : ∀ (x : EI) (m : List EI), cellsE (x :: m) = x.cs ++ cellsE m := fun x m => by simp [cellsE]
  cases i with
  | zero =>
   rw [if_pos (by simp), List.modify_zero_cons, h, h]
   rfl
  | succ i =>
   rw [List.modify_succ_cons, h, h, ih i]
   have hc : e.cs.length = 7 := rfl
   by_cases hi : i < l.length
   ·rw [if_pos hi, if_pos (by simpa using hi), List.set_append_right _ _ (by omega), hc, show (i + 1) * 7 + 6 - 7 = i * 7 + 6 by omega]
   ·rw [if_neg hi, if_neg (by simpa using hi)]
def SN.sentR (s : SN) (r : RI) : SN := match s.place r.id with
 | none => s
 | some i => ⟨s.L.modify i EI.send, s.K⟩
theorem sent_end (h : SAt W c ⟨vi, vl, .slice (some ⟨g, 0, none⟩) n c1⟩ s) (hb : Below w.heap.size w W) (hi : i < s.L.length) (hn : s.L.length = n) :
  SWent w c ⟨vi, vl, .slice (some ⟨g, 0, none⟩) n c1⟩ ⟨s.L.modify i EI.send, s.K⟩ (W.setCell ⟨g, i * 7 + 6, none⟩ (.bool true)) := by
 obtain ⟨hB, hI, hT, hE⟩ := h
 have hg : some g = (Value.slice (some ⟨g, 0, none⟩) n c1).ownBlock := rfl
 refine ⟨_, ⟨hB.set_other (fun e => ?_) _ _, own_set hI (fun e => own_two hE hI (by decide) hg e) _ _, own_set hT (fun e => own_two hE hT (by decide) hg e) _ _, ?_⟩, (Foot.of_below hb).set (.inl (.inr (.inr (.inr hg)))) _ _, fun k hk => .inl hk⟩
 ·have := own_type hE hB (by decide)
  exact this (by rw [e]; rfl)
 ·rw [List.length_modify, cellsE_send, if_pos hi]
  dsimp only at hE ⊢
  rw [hn] at hE ⊢
  exact own_setN hE _ _
set_option maxRecDepth 100000 in
theorem sent_any (r : RI) (h : SAt w c v s) (hl : s.L.length ≤ 1000) :
  Calls Tryz.prog 129 #[.pointer (some ⟨c.b, 0, none⟩), r.val] w fun e w' => e = .returned (.tuple #[]) ∧ SWent w c v (s.sentR r) w' := by
 have HS := Lib.hid (show s.sentR r = match s.place r.id with
  | none => s
  | some i => ⟨s.L.modify i EI.send, s.K⟩ from rfl)
 have hb2 := ext_new w (.cells #[.int .i64 r.op, .int .i64 r.id, .string r.d] 128)
 have hR := Blk.new_ w 128 #[.int .i64 r.op, .int .i64 r.id, .string r.d]
 obtain ⟨x0, x1, x2, -⟩ := hR.c3
 have hC := at_any r.id (h.below hb2) (by omega)
 unfold RI.val
 cases hp : placeL s.L r.id with
 | none =>
  have hz : placeZ s.L r.id = -1 := by unfold placeZ; rw [hp]
  rw [hz] at hC
  have HP := Lib.hid (show s.place r.id = none from hp)
  clear hz hp
  go_enter Tryz.func129, Tryz.ntmps129
  go_wp2_with fail
  refine hC.mono ?_
  rintro e w3 ⟨rfl, hb3⟩
  replace hb3 := ext_trans hb2 hb3
  go_wp2_with fail
  exact bodyPost_end (v := .tuple #[]) (results_none (by kernel_rfl) _ _ _) rfl ⟨rfl, by rw [HS.out, HP.out]; exact .refl h hb3⟩
 | some i =>
  have hz : placeZ s.L r.id = (i : Int) := by unfold placeZ; rw [hp]
  obtain ⟨hi, -, -⟩ := placeL_some hp
  rw [hz, decide_eq_true (show (0 : Int) ≤ (i : Int) by omega)] at hC
  have HP := Lib.hid (show s.place r.id = some i from hp)
  clear hz hp
  go_enter Tryz.func129, Tryz.ntmps129
  go_wp2_with fail
  refine hC.mono ?_
  rintro e w3 ⟨rfl, hb3⟩
  replace hb3 := ext_trans hb2 hb3
  have h3 := h.below hb3
  obtain ⟨vi, vl, ve⟩ := v
  obtain ⟨-, A, cp, e, hr⟩ := rowE_own h3.ent
  have e : ve = .slice A s.L.length cp := e
  subst e
  obtain ⟨g, rfl, hg, hcell⟩ := hr (by omega)
  have c6 := (hcell i hi).2.2.2.2.2.2
  have f6 := own_frozenN h3.ent (i * 7 + 6)
  have x2' := h3.blk.c7.1.2.2.1
  obtain ⟨n, hn⟩ : ∃ n, s.L.length = n := ⟨_, rfl⟩
  have hfin := sent_end (n := s.L.length) h3 hb3 hi rfl
  have HF := Lib.hid hfin
  rw [hn] at x2' hi
  have i0 : (0 : Int) ≤ (i : Int) := by omega
  have i1 : (i : Int) < (n : Int) := by omega
  generalize s.L[i].sent = sb at *
  dsimp only at x2'
  clear hcell hfin x0 x1 x2 hR hC h3 hl hn
  go_wp2_with fail
  exact bodyPost_end (v := .tuple #[]) (results_none (by kernel_rfl) _ _ _) rfl ⟨rfl, by rw [HS.out, HP.out]; exact HF.out⟩
theorem cellsE_take (l : List EI) : ∀ i, (cellsE l).take (i * 7) = cellsE (l.take i) := by
 induction l with
 | nil => intro i; simp [cellsE]
 | cons e l ih =>
  intro i
  have h : ∀ (x : EI) (m : List EI), cellsE (x :: m) = x.cs ++ cellsE m := fun x m => by simp [cellsE]
  cases i with
  | zero => simp [cellsE]
  | succ i =>
   rw [List.take_succ_cons, h, h, List.take_append, List.take_of_length_le (show e.cs.length ≤ (i + 1) * 7 by show 7 ≤ _; omega), show (i + 1) * 7 - e.cs.length = i * 7 by show (i + 1) * 7 - 7 = _; omega, ih]
theorem cellsE_drop (l : List EI) : ∀ i, (cellsE l).drop (i * 7) = cellsE (l.drop i) := by
 induction l with
 | nil => intro i; simp [cellsE]
 | cons e l ih =>
  intro i
  have h : ∀ (x : EI) (m : List EI), cellsE (x :: m) = x.cs ++ cellsE m := fun x m => by simp [cellsE]
  cases i with
  | zero => simp [cellsE]
  | succ i =>
   rw [List.drop_succ_cons, h, List.drop_append, List.drop_of_length_le (show e.cs.length ≤ (i + 1) * 7 by show 7 ≤ _; omega), show (i + 1) * 7 - e.cs.length = i * 7 by show (i + 1) * 7 - 7 = _; omega, ih, List.nil_append]
theorem cellsE_one (l : List EI) : ∀ u ∈ cellsE l, u.oneCell' = true := by
 intro u hu
 unfold cellsE at hu
 obtain ⟨e, -, he⟩ := List.mem_flatMap.1 hu
 simp only [EI.cs, List.mem_cons, List.not_mem_nil, or_false] at he
 obtain rfl | rfl | rfl | rfl | rfl | rfl | rfl := he <;> rfl
theorem zero_ent (w : World) : (zeroValue 23).run Tryz.prog w = .ok EI.nil.val w := by kernel_rfl
theorem setRow_besides (g : Nat) (W : World) (F : Array Value) : Besides g W (W.setRow g F) :=
 ⟨rfl, rfl, rfl, by simp, fun k _ hk => setRow_other W g k F hk⟩
set_option maxRecDepth 100000 in
theorem del_run {c : Nat} (h : W.ownsRow 0 23 7 (.slice (some ⟨g, 0, none⟩) n c) n (cellsE l)) (hi : i < n) (a : Addr) (ha : a = ⟨g, (i + 1) * 7, none⟩ ∨ n - (i + 1) = 0) (cc : Nat) :
  ∃ F1 F2 : Array Value, (∀ ty, (Builtin.append_ #[46, 46] ty #[.slice (some ⟨g, 0, none⟩) i c, .slice (some a) (n - (i + 1)) cc]).run Tryz.prog W = .ok (.slice (some ⟨g, 0, none⟩) (i + (n - (i + 1))) c) (W.setRow g F1)) ∧
   (∀ ty c2, (Builtin.clear_ #[46] ty #[.slice (some ⟨g, (i + (n - (i + 1))) * 7, none⟩) (n - (i + (n - (i + 1)))) c2]).run Tryz.prog (W.setRow g F1) = .ok (.tuple #[]) ((W.setRow g F1).setRow g F2)) ∧
   ((W.setRow g F1).setRow g F2).ownsRow 0 23 7 (.slice (some ⟨g, 0, none⟩) (n - 1) c) (n - 1) (cellsE (l.take i ++ l.drop (i + 1))) ∧ Besides g W ((W.setRow g F1).setRow g F2) := by
 obtain ⟨h0, ⟨h1, -⟩ | ⟨g', cap, cur, h1, hb, hg, hnc, hm, hs, ht⟩⟩ := h
 ·cases h1
 injection h1 with e1 e2 e3
 injection e1 with e1
 injection e1 with e1
 subst e1 e3
 obtain ⟨iE, hiE, hz0, hz1, hz2⟩ := info_parts infoEn
 have hlen : l.length = n := by rw [cellsE_length] at h0; omega
 obtain ⟨m, hmm⟩ : ∃ m, n - (i + 1) = m := ⟨_, rfl⟩
 have hnm : n = i + m + 1 := by omega
 rw [hmm] at ha ⊢
 have hnews : ((cellsE l).drop ((i + 1) * 7)).length = m * 7 := by rw [List.length_drop, cellsE_length, hlen]; omega
 have hcell : ∀ j u, ((cellsE l).drop ((i + 1) * 7))[j]? = some u → W.cell? (a.add j) = some u := by
  intro j u hu
  have hj : j < m * 7 := by
   have := (List.getElem?_eq_some_iff.1 hu).1
   omega
  rcases ha with rfl | ha
  ·have hadd : (⟨g, (i + 1) * 7, none⟩ : Addr).add j = ⟨g, (i + 1) * 7 + j, none⟩ := by unfold Addr.add; split <;> simp_all
   rw [hadd, cell_of_row W g _ cur 23 (0, 0) hg]
   rw [List.getElem?_drop, ← ht, List.getElem?_take_of_lt (by omega)] at hu
   rw [← hu, Array.getElem?_toList]
  ·omega
 have happ := fun ty => run_append_room (P := Tryz.prog) W 46 ty 23 iE Tryz.underlying46 hiE g i c cur hg a m cc ((cellsE l).drop ((i + 1) * 7)) (by rw [hz1]; exact hnews) hcell (fun u hu => cellsE_one l u (List.mem_of_mem_drop hu)) (by omega) (by rw [hz1, hnews, hs]; omega)
 rw [hz1] at happ
 generalize hF1 : (cur.toList.take (i * 7) ++ (cellsE l).drop ((i + 1) * 7) ++ cur.toList.drop (i * 7 + ((cellsE l).drop ((i + 1) * 7)).length)).toArray = F1 at happ
 have hF1s : F1.size = c * 7 := by
  rw [← hF1, List.size_toArray, List.length_append, List.length_append, hnews, List.length_take, List.length_drop, Array.length_toList, hs]
  omega
 have hg1 := setRow_heap W g cur F1 23 (0, 0) hg
 have hst := run_storeCells_at (P := Tryz.prog) g ((i + m) * 7) 23 EI.nil.cs 0 F1 (W.setRow g F1) hg1 (by show _ + 0 + 7 ≤ _; omega) (by intro v hv; simp only [EI.cs, List.mem_cons, List.not_mem_nil, or_false] at hv; obtain rfl | rfl | rfl | rfl | rfl | rfl | rfl := hv <;> rfl)
 rw [Nat.add_zero] at hst
 obtain ⟨F2, hF2⟩ : ∃ F2, (F1.toList.take ((i + m) * 7) ++ EI.nil.cs ++ F1.toList.drop ((i + m) * 7 + EI.nil.cs.length)).toArray = F2 := ⟨_, rfl⟩
 rw [hF2] at hst
 have htake : F1.toList.take ((i + m) * 7) = cellsE (l.take i ++ l.drop (i + 1)) := by
  have e1 : cur.toList.take (i * 7) = cellsE (l.take i) := by
   rw [← cellsE_take l i, ← ht, List.take_take, Nat.min_eq_left (by omega)]
  rw [← hF1, List.toList_toArray, List.take_append_of_le_length (by rw [List.length_append, List.length_take, hnews, Array.length_toList, hs]; omega), List.take_of_length_le (by rw [List.length_append, List.length_take, hnews, Array.length_toList, hs]; omega), e1, cellsE_drop, cellsE_app]
 refine ⟨F1, F2, happ, fun ty c2 => ?_, ?_, (setRow_besides g W F1).trans (setRow_besides g _ _)⟩
 ·rw [show n - (i + m) = 1 by omega]
  simp only [Builtin.clear_]
  simp [run_underlying (P := Tryz.prog) (t := 46) Tryz.underlying46]
  rw [show (Builtin.zeroCells (Value.agg #[.int .i64 0, .int .i64 0, .string ⟨#[]⟩, .string ⟨#[]⟩, .int .i64 0, .bool false, .bool false]).cells 1).toList = EI.nil.cs from by kernel_rfl, hst]
  rfl
 ·refine ⟨by rw [cellsE_length, List.length_append, List.length_take, List.length_drop]; omega, .inr ⟨g, c, F2, rfl, Nat.zero_le _, setRow_heap _ g F1 F2 23 (0, 0) hg1, by omega, hm, ?_, ?_⟩⟩
  ·rw [← hF2, List.size_toArray, List.length_append, List.length_append, List.length_take, List.length_drop, Array.length_toList, hF1s]
   show min _ _ + 7 + _ = _
   have : (EI.nil.cs).length = 7 := rfl
   omega
  ·rw [← hF2, List.toList_toArray, show n - 1 = i + m by omega, List.append_assoc, List.take_append_of_le_length (by rw [List.length_take, Array.length_toList, hF1s]; omega), List.take_take, Nat.min_self, htake]
theorem step_append_run {K : Act → World → Prop} {E : Prop} {v : Value} (hgd : o.guard = none) (s x : Operand) (t : TypeId)
  (ho : o.op = .call { callee := .builtin .append, args := #[s, x], argTypes := #[t, t] }) (S X : Value) (hs : a.eval s = S) (hx : a.eval x = X) (hr : ∀ ty, (Builtin.append_ #[t, t] ty #[S, X]).run P w = .ok v w') (h : K (a.put o.dst v) w') :
  if Region.wanted o (yielded ops a.tmps) = true then Oper.wp P o a w K Q else E := by
 have hw : Region.wanted o (yielded ops a.tmps) = true := by simp [Region.wanted, hgd]
 rw [if_pos hw]
 unfold Oper.wp execOp
 simp only [ho, resolve, invoke, builtin, Sem.run_bind, Sem.run_pure, Result.andThen_ok, List.map_toArray, List.map_cons, List.map_nil, hs, hx, hr]
 exact h
theorem wpList_clear_run {rest : List Oper} {v : Value} (hgd : o.guard = none) (s : Operand) (t : TypeId)
  (ho : o.op = .call { callee := .builtin .clear, args := #[s], argTypes := #[t] }) (S : Value) (hs : a.eval s = S) (hr : ∀ ty, (Builtin.clear_ #[t] ty #[S]).run P w = .ok v w') (h : wpList P ops Q rest (a.put o.dst v) w') : wpList P ops Q (o :: rest) a w :=
 wpList_plain hgd fun _ hK => by
  unfold Oper.wp execOp
  simp only [ho, resolve, invoke, builtin, Sem.run_bind, Sem.run_pure, Result.andThen_ok, List.map_toArray, List.map_cons, List.map_nil, hs, hr]
  exact hK _ _ h
set_option maxRecDepth 100000 in
theorem delete_any {c : Nat} (h : w.ownsRow 0 23 7 (.slice (some ⟨g, 0, none⟩) n c) n (cellsE l)) (hi : i < n) (hn : n ≤ 1000) :
  Calls Tryz.prog 156 #[.slice (some ⟨g, 0, none⟩) n c, .int .i64 (i : Int), .int .i64 ((i : Int) + 1)] w fun e w' => e = .returned (.slice (some ⟨g, 0, none⟩) (n - 1) c) ∧ Besides g w w' ∧ w'.ownsRow 0 23 7 (.slice (some ⟨g, 0, none⟩) (n - 1) c) (n - 1) (cellsE (l.take i ++ l.drop (i + 1))) := by
 have hcap : n ≤ c ∧ c ≤ 9223372036854775807 := by
  obtain ⟨-, ⟨h1, -⟩ | ⟨g', cap, cur, h1, hb, hg, hn2, hm, -⟩⟩ := h
  ·cases h1
  ·injection h1 with _ _ e3
   rw [e3]
   exact ⟨hn2, hm⟩
 obtain ⟨hc1, hc2⟩ := hcap
 have h0 : w.drew.ownsRow 0 23 7 (.slice (some ⟨g, 0, none⟩) n c) n (cellsE l) := h
 have hbd : ∀ W', Besides g w.drew W' → Besides g w W' := fun W' q => ⟨q.os, q.tape, q.output, q.size, q.block⟩
 have j0 : (0 : Int) ≤ (i : Int) := by omega
 have j1 : (i : Int) ≤ (i : Int) + 1 := by omega
 have j4 : ((i : Int) == (i : Int) + 1) = false := beq_eq_false_iff_ne.2 (by omega)
 have j6 : (0 : Int) ≤ (i : Int) + 1 := by omega
 by_cases hci : c = i + 1
 ·subst hci
  obtain rfl : n = i + 1 := by omega
  obtain ⟨F1, F2, ha, hcl, ho, hb⟩ := del_run h0 hi ⟨g, 0, none⟩ (.inr (Nat.sub_self _)) 0
  simp only [Nat.sub_self, Nat.add_zero] at ha hcl ho
  simp only [Nat.add_sub_cancel_left] at hcl
  have HM := Lib.hid (show i + 1 - 1 = i by omega)
  have HO := Lib.hid ho
  have HB := Lib.hid (hbd _ hb)
  have j5 : i ≤ i + 1 := by omega
  have j2 : (i : Int) + 1 ≤ ((i + 1 : Nat) : Int) := by omega
  clear ho hb h0 h hbd
  go_enter Tryz.func156, Tryz.ntmps156
  go_wp2_with fail
  refine wp_region_held_drew (S := (fun _ : World => True)) (by kernel_rfl) trivial (fun hHeld => ?_)
  generalize w.drew = W0 at *
  refine tk_ 0 20 rfl rfl ?_
  refine tk_ 1 21 rfl rfl ?_
  refine tk_ 2 22 rfl rfl ?_
  refine tk_ 3 23 rfl rfl ?_
  refine tk_ 4 24 rfl rfl ?_
  refine tk_ 5 25 rfl rfl ?_
  refine rdy1 6 rfl (fun K hK => ?_)
  refine step_append_run (by rfl) _ _ _ (by rfl) _ _ (by rfl) (by rfl) ha ?_
  refine hK.out _ _ trivial (fun hHeld => ?_)
  clear hK K
  refine tk_ 7 0 rfl rfl ?_
  refine wpAnyH_done (by kernel_rfl) ?_ _
  try simp only [Act.put, List.setIfInBounds_toArray, List.set_cons_succ, List.set_cons_zero]
  go_wp2_with (at_builtin; refine wpList_clear_run (by rfl) _ _ (by rfl) _ (by rfl) (fun ty => hcl ty _) ?_)
  go_ret
  exact ⟨by first | rfl | (rw [HM.out]; rfl), HB.out, HO.out⟩
 ·have j2 : (i : Int) + 1 ≤ (n : Int) := by omega
  have j3 : (n : Int) ≤ (c : Int) := by omega
  have j5 : i ≤ c := by omega
  have j7 : i + 1 ≤ n := by omega
  have hcf : (c = i + 1) = False := eq_false hci
  obtain ⟨F1, F2, ha, hcl, ho, hb⟩ := del_run h0 hi ⟨g, (i + 1) * 7, none⟩ (.inl rfl) (c - (i + 1))
  obtain ⟨m, hm⟩ : ∃ m, i + (n - (i + 1)) = m := ⟨_, rfl⟩
  rw [hm] at ha hcl
  have k1 : (m : Int) ≤ (n : Int) := by omega
  have k2 : m ≤ n := by omega
  have hcm : (c = m) = False := eq_false (by omega)
  have HM := Lib.hid (show n - 1 = m by omega)
  have HO := Lib.hid ho
  have HB := Lib.hid (hbd _ hb)
  clear ho hb h0 h hci hm hbd
  go_enter Tryz.func156, Tryz.ntmps156
  go_wp2_with fail
  refine wp_region_held_drew (S := (fun _ : World => True)) (by kernel_rfl) trivial (fun hHeld => ?_)
  generalize w.drew = W0 at *
  refine tk_ 0 20 rfl rfl ?_
  refine tk_ 1 21 rfl rfl ?_
  refine tk_ 2 22 rfl rfl ?_
  refine tk_ 3 23 rfl rfl ?_
  refine tk_ 4 24 rfl rfl ?_
  refine tk_ 5 25 rfl rfl ?_
  refine rdy1 6 rfl (fun K hK => ?_)
  refine step_append_run (by rfl) _ _ _ (by rfl) _ _ (by rfl) (by rfl) ha ?_
  refine hK.out _ _ trivial (fun hHeld => ?_)
  clear hK K
  refine tk_ 7 0 rfl rfl ?_
  refine wpAnyH_done (by kernel_rfl) ?_ _
  try simp only [Act.put, List.setIfInBounds_toArray, List.set_cons_succ, List.set_cons_zero]
  go_wp2_with (at_builtin; refine wpList_clear_run (by rfl) _ _ (by rfl) _ (by rfl) (fun ty => hcl ty _) ?_)
  go_ret
  exact ⟨by first | rfl | (rw [HM.out]; rfl), HB.out, HO.out⟩
def SN.endR (s : SN) (r : RI) : SN := match s.place r.id with
 | none => s
 | some i => ⟨s.L.take i ++ s.L.drop (i + 1), s.K⟩
theorem end_end {W2 : World} (h : SAt W c ⟨vi, vl, .slice (some ⟨g, 0, none⟩) n c1⟩ s) (hb : Below w.heap.size w W) (hi : i < s.L.length) (hn : s.L.length = n)
  (hbe : Besides g W W2) (ho : W2.ownsRow 0 23 7 (.slice (some ⟨g, 0, none⟩) (n - 1) c1) (n - 1) (cellsE (s.L.take i ++ s.L.drop (i + 1)))) :
  Blk W2 c.b 112 #[vi, vl, .slice (some ⟨g, 0, none⟩) n c1, c.x3, c.x4, c.x5, c.x6] ∧ SWent w c ⟨vi, vl, .slice (some ⟨g, 0, none⟩) n c1⟩ ⟨s.L.take i ++ s.L.drop (i + 1), s.K⟩ (W2.setCell ⟨c.b, 2, none⟩ (.slice (some ⟨g, 0, none⟩) (n - 1) c1)) := by
 obtain ⟨hB, hI, hT, hE⟩ := h
 have hg : some g = (Value.slice (some ⟨g, 0, none⟩) n c1).ownBlock := rfl
 have hbg : c.b ≠ g := fun e => own_type hE hB (by decide) (by rw [e]; rfl)
 have hB2 := hB.kept (hbe.block _ hB.lt hbg)
 have hI2 := own_keep hI (fun k hk => hbe.block k (own_lt hI hk) (fun e => own_two hI hE (by decide) hk (by rw [e]; rfl)))
 have hT2 := own_keep hT (fun k hk => hbe.block k (own_lt hT hk) (fun e => own_two hT hE (by decide) hk (by rw [e]; rfl)))
 refine ⟨hB2, ⟨vi, vl, .slice (some ⟨g, 0, none⟩) (n - 1) c1⟩, ⟨hB2.set_ 2 _, own_set hI2 (own_type hI2 hB2 (by decide)) _ _, own_set hT2 (own_type hT2 hB2 (by decide)) _ _, ?_⟩, ?_, ?_⟩
 ·have e : (s.L.take i ++ s.L.drop (i + 1)).length = n - 1 := by rw [List.length_append, List.length_take, List.length_drop]; omega
  dsimp only
  rw [e]
  exact own_set ho (own_type ho hB2 (by decide)) _ _
 ·have hf : Foot (QF c ⟨vi, vl, .slice (some ⟨g, 0, none⟩) n c1⟩) W W2 := ⟨hbe.os, hbe.tape, hbe.output, hbe.size, fun k hk hq => hbe.block k hk (fun e => hq (.inr (.inr (.inr (by rw [e]; rfl)))))⟩
  exact ((Foot.of_below hb).trans hf (fun _ q => .inl q)).set (.inl (.inl rfl)) _ _
 ·rintro k (hk | hk | hk | hk)
  ·exact .inl (.inl hk)
  ·exact .inl (.inr (.inl hk))
  ·exact .inl (.inr (.inr (.inl hk)))
  ·exact .inl (.inr (.inr (.inr hk)))
set_option maxRecDepth 100000 in
theorem end_any (r : RI) (h : SAt w c v s) (hl : s.L.length ≤ 1000) :
  Calls Tryz.prog 130 #[.pointer (some ⟨c.b, 0, none⟩), r.val] w fun e w' => e = .returned (.tuple #[]) ∧ SWent w c v (s.endR r) w' := by
 have HS := Lib.hid (show s.endR r = match s.place r.id with
  | none => s
  | some i => ⟨s.L.take i ++ s.L.drop (i + 1), s.K⟩ from rfl)
 have hb2 := ext_new w (.cells #[.int .i64 r.op, .int .i64 r.id, .string r.d] 128)
 have hR := Blk.new_ w 128 #[.int .i64 r.op, .int .i64 r.id, .string r.d]
 obtain ⟨x0, x1, x2, -⟩ := hR.c3
 have hC := at_any r.id (h.below hb2) (by omega)
 unfold RI.val
 cases hp : placeL s.L r.id with
 | none =>
  have hz : placeZ s.L r.id = -1 := by unfold placeZ; rw [hp]
  rw [hz] at hC
  have HP := Lib.hid (show s.place r.id = none from hp)
  clear hz hp
  go_enter Tryz.func130, Tryz.ntmps130
  go_wp2_with fail
  refine hC.mono ?_
  rintro e w3 ⟨rfl, hb3⟩
  replace hb3 := ext_trans hb2 hb3
  go_wp2_with fail
  exact bodyPost_end (v := .tuple #[]) (results_none (by kernel_rfl) _ _ _) rfl ⟨rfl, by rw [HS.out, HP.out]; exact .refl h hb3⟩
 | some i =>
  have hz : placeZ s.L r.id = (i : Int) := by unfold placeZ; rw [hp]
  obtain ⟨hi, -, -⟩ := placeL_some hp
  rw [hz, decide_eq_true (show (0 : Int) ≤ (i : Int) by omega)] at hC
  have HP := Lib.hid (show s.place r.id = some i from hp)
  clear hz hp
  go_enter Tryz.func130, Tryz.ntmps130
  go_wp2_with fail
  refine hC.mono ?_
  rintro e w3 ⟨rfl, hb3⟩
  replace hb3 := ext_trans hb2 hb3
  have h3 := h.below hb3
  obtain ⟨vi, vl, ve⟩ := v
  obtain ⟨-, A, cp, e, hr⟩ := rowE_own h3.ent
  have e : ve = .slice A s.L.length cp := e
  subst e
  obtain ⟨g, rfl, hg, hcell⟩ := hr (by omega)
  have x2' := h3.blk.c7.1.2.2.1
  have hD := delete_any h3.ent hi (by omega)
  have HF := Lib.hid (fun (W2 : World) (q1 : Besides g w3 W2) q2 => end_end (n := s.L.length) h3 hb3 hi rfl q1 q2)
  dsimp only at x2'
  obtain ⟨n, hn⟩ : ∃ n, s.L.length = n := ⟨_, rfl⟩
  rw [hn] at x2' hi hD HF
  have i0 : (0 : Int) ≤ (i : Int) := by omega
  have i1 : (i : Int) ≤ 1000 := by omega
  clear hcell x0 x1 x2 hR hC h3 hl hn
  go_wp2_with fail
  refine hD.mono ?_
  rintro e w4 ⟨rfl, hbe, ho⟩
  have hfin := HF.out w4 hbe ho
  have HFI := Lib.hid hfin.2
  have y2 := hfin.1.c7.1.2.2.1
  have z2 := hfin.1.c7.2.2.2.1
  clear hfin hbe ho x2'
  go_wp2_with fail
  exact bodyPost_end (v := .tuple #[]) (results_none (by kernel_rfl) _ _ _) rfl ⟨rfl, by rw [HS.out, HP.out]; exact HFI.out⟩
end Go.Proofs.YtmebjdbkngehiaaGreatDoor
