/-
  Package item: which items are right (Right). Conditions: as the theorems' own hypotheses say.
-/
import Derived.Test.YtmoghgmbpkpcfaaGreatDoorItF
namespace Go.Proofs.YtmoghgmbpkpcfaaGreatDoor
open Go.RowKit Go.Shelf
attribute [local go_sem] Oper.semAt_some

theorem MvI.bel {N B : Nat} {A C : World} (h : MvI N A C) (hB : B ≤ N) (hA : B ≤ A.heap.size) : Below B A C :=
  ⟨h.os, h.tape, h.output, h.size, fun k hk => by
    have hl : k < A.heap.size := by omega
    rw [Array.getElem?_eq_getElem hl]
    exact h.keep k _ (Array.getElem?_eq_getElem hl) (.inl (by omega))⟩
theorem boxed_mv {N k : Nat} {t : TypeId} {v : Value} {A B : World} (h : Boxed A k t v) (hm : MvI N A B) (hk : k < N) : Boxed B k t v := hm.keep k _ h (.inl hk)
theorem boxed_grown {k sz : Nat} {t : TypeId} {v : Value} {A B : World} {row : Option Nat} (h : Boxed A k t v) (hg : A.grownBy B row) (hr : ∀ r, row = some r → sz ≤ r ∧ ∃ o : Obj, A.heap[r]? = some o ∧ o.isCells = false) (hk : k < sz) : Boxed B k t v :=
  (hg.block k (Array.getElem?_eq_some_iff.1 h).1 (fun e => by have := (hr k e.symm).1; omega)).trans h
/-- What is so far known of the items that came. -/
def okPre (pre : List (Nat × TV)) : Bool := pre.all fun p => decide (p.1 ≤ 6) && p.2.item.one
/-- Where Right stands. -/
structure RightI (w : World) (e : Nat) (pre : List (Nat × TV)) (W : World) : Prop where
  n : Boxed W (e + 2) 3 (.int .i64 (pre.length : Int))
  r : ∃ b, Boxed W (e + 1) 4 (.bool b)
  bel : Below e w W
  size : e + 4 ≤ W.heap.size
  le : pre.length ≤ 60
  ok : okPre pre = true
structure RightX (w : World) (e : Nat) (t : TV) (W : World) : Prop where
  r : Boxed W (e + 1) 4 (.bool false)
  bel : Below e w W
  size : e + 4 ≤ W.heap.size
  no : t.item.right = false
theorem okPre_all (t : TV) : okPre (t.pre 1) = (t.item.pre 1).all okAt := by
  rw [← t.pre_items 1, List.all_map]
  rfl
theorem right_len (t : TV) : (t.item.pre 1).length = (t.pre 1).length := by rw [← t.pre_items 1, List.length_map]
theorem right_yes {t : TV} (h : (t.pre 1).length ≤ 60) (h1 : okPre (t.pre 1) = true) : t.item.right = true := by
  rw [IN.right_pre, right_len, decide_eq_true h, ← okPre_all, h1]
  rfl
theorem right_more {t : TV} (h : 60 < (t.pre 1).length) : t.item.right = false := by
  rw [IN.right_pre, right_len, decide_eq_false (by omega)]
  rfl
theorem right_bad {t : TV} {pre : List (Nat × TV)} {x : Nat × TV} {r : List (Nat × TV)} (h : t.pre 1 = pre ++ x :: r) (h1 : (decide (x.1 ≤ 6) && x.2.item.one) = false) : t.item.right = false := by
  rw [IN.right_pre, ← okPre_all, h, okPre, List.all_append, List.all_cons, h1, Bool.false_and, Bool.and_false, Bool.and_false]

theorem hbel_of {B k : Nat} {A C : World} (h : A.grownBy C (some k)) (hk : B ≤ k) (hA : B ≤ A.heap.size) : Below B A C := ⟨h.os, h.tape, h.output, h.size, fun i hi => h.block i (by omega) (fun e => by injection e with e; omega)⟩
theorem right_end {w W : World} {e : Nat} {t : TV} {b : Bool} {v : Value} {k : Nat} (h : Boxed W (e + 1) 4 (.bool b)) (hb : Below e w (W.setCell ⟨k, 0, none⟩ v)) (hs : e + 4 ≤ (W.setCell ⟨k, 0, none⟩ v).heap.size) (hk : k ≠ e + 1) (hno : t.item.right = false) :
    RightX w e t ((W.setCell ⟨k, 0, none⟩ v).setCell ⟨e + 1, 0, none⟩ (.bool false)) := by
  have q := (Blk.set_other h (Ne.symm hk) 0 v).set_ 0 (.bool false)
  simp only [List.setIfInBounds_toArray, List.set_cons_zero] at q
  exact ⟨q, hb.setCell (p := ⟨e + 1, 0, none⟩) (by show e ≤ e + 1; omega) _, by rw [World.size_setCell]; exact hs, hno⟩

set_option maxRecDepth 100000 in
set_option maxHeartbeats 4000000 in
theorem Right_tree (t : TV) (w : World) (hat : ItAt w.heap.size w t) (hfit : Fits 7 t) : Calls Tryz.prog 13 #[t.val] w (Ret (.bool t.item.right) w) := by
  unfold TV.val TV.row
  refine callsIn_wide.1 (callsIn_of_wp_marks (n := 9) Tryz.func13 rfl trivial ?_ rfl)
  simp only [Tryz.ntmps13, List.size_toArray, List.length_cons, List.length_nil, Nat.reduceAdd, Nat.reduceSub, Array.replicate_succ, Array.replicate_zero, List.push_toArray, List.append_toArray, List.nil_append, List.cons_append]
  refine wpIn_wide.2 ?_
  go_wp2_with fail
  have hm := fun W => items_mk t W
  unfold TV.val TV.row at hm
  refine (hm _).mono ?_
  rintro y w5 ⟨rfl, rfl⟩
  go_wp2_with fail
  have b4 : Below w.heap.size w ((((w.alloc (.cells #[.int .i64 t.kind, .int .i64 t.num, .string t.txt, .slice t.at_ t.kids.length t.cap] 24)).alloc (.cells #[.bool false] 4)).alloc (.cells #[.int .i64 0] 3)).alloc (.cells #[.int .i64 t.kind, .int .i64 t.num, .string t.txt, .slice t.at_ t.kids.length t.cap] 24)) := ext_alloc (ext_alloc (ext_alloc (ext_new w _) _) _) _
  have hsz : ((((w.alloc (.cells #[.int .i64 t.kind, .int .i64 t.num, .string t.txt, .slice t.at_ t.kids.length t.cap] 24)).alloc (.cells #[.bool false] 4)).alloc (.cells #[.int .i64 0] 3)).alloc (.cells #[.int .i64 t.kind, .int .i64 t.num, .string t.txt, .slice t.at_ t.kids.length t.cap] 24)).heap.size = w.heap.size + 4 := by simp
  have hn0 : Boxed ((((w.alloc (.cells #[.int .i64 t.kind, .int .i64 t.num, .string t.txt, .slice t.at_ t.kids.length t.cap] 24)).alloc (.cells #[.bool false] 4)).alloc (.cells #[.int .i64 0] 3)).alloc (.cells #[.int .i64 t.kind, .int .i64 t.num, .string t.txt, .slice t.at_ t.kids.length t.cap] 24)) (w.heap.size + 2) 3 (.int .i64 0) := Boxed.alloc (Blk.at_ (by simp)) _
  have hr0 : Boxed ((((w.alloc (.cells #[.int .i64 t.kind, .int .i64 t.num, .string t.txt, .slice t.at_ t.kids.length t.cap] 24)).alloc (.cells #[.bool false] 4)).alloc (.cells #[.int .i64 0] 3)).alloc (.cells #[.int .i64 t.kind, .int .i64 t.num, .string t.txt, .slice t.at_ t.kids.length t.cap] 24)) (w.heap.size + 1) 4 (.bool false) := Boxed.alloc (Boxed.alloc (Blk.at_ (by simp)) _) _
  have hx0 : Blk ((((w.alloc (.cells #[.int .i64 t.kind, .int .i64 t.num, .string t.txt, .slice t.at_ t.kids.length t.cap] 24)).alloc (.cells #[.bool false] 4)).alloc (.cells #[.int .i64 0] 3)).alloc (.cells #[.int .i64 t.kind, .int .i64 t.num, .string t.txt, .slice t.at_ t.kids.length t.cap] 24)) (w.heap.size + 3) 24 #[.int .i64 t.kind, .int .i64 t.num, .string t.txt, t.row] := Blk.at_ (by simp)
  generalize ((((w.alloc (.cells #[.int .i64 t.kind, .int .i64 t.num, .string t.txt, .slice t.at_ t.kids.length t.cap] 24)).alloc (.cells #[.bool false] 4)).alloc (.cells #[.int .i64 0] 3)).alloc (.cells #[.int .i64 t.kind, .int .i64 t.num, .string t.txt, .slice t.at_ t.kids.length t.cap] 24)) = W4 at *
  have hat4 := hat.later b4 (Nat.le_refl _)
  clear hm
  refine wpIn_wide.1 (wpIn_rangeY (n := 9) (gf := 30) (lb := #[.pointer (some ⟨w.heap.size + 1 + 1 + 1, 0, none⟩)]) rfl (by omega) rfl trivial (enters_of Tryz.func30 (by kernel_rfl) rfl)
    (items_seq t (w.heap.size + 1 + 1 + 1) w.heap.size (w.heap.size + 6) _ (by omega) (by omega) hfit) (fun _ => rfl) ?hSt ?hSe ?hKt ?hKb ?hMb ?hKs
    (fun pre W => RightI w w.heap.size pre W) (fun c pre W => c = .ret ∧ RightX w w.heap.size t W) ?hI ?hIx ?hIM ?hIxM ?h0 ?hround ?hdone ?hstop)
  case hSt => exact fun o o' => ⟨by simp; omega, (hx0.alloc _).alloc _, hat4.later (((Below.refl _ W4).alloc (by omega) _).alloc (by simp; omega) _) (Nat.le_refl _)⟩
  case hSe => exact fun xs W l o o' _ _ _ h => h
  case hKt => exact fun h k => ⟨h.below.trans k.below, k.box.trans h.box, fun i o hi ho hb => k.keep i o hi (h.keep i o hi ho hb) hb⟩
  case hKb =>
    intro W o o' ho _
    have hlt := (Array.getElem?_eq_some_iff.1 ho).1
    exact ⟨(Below.refl _ W).grown (grownBy_putObj' W _ _) (by omega) (fun k q => by cases q; omega), World.putObj_heap_other (by omega), fun k o2 hk h2 _ => (World.putObj_heap_other (by omega)).trans h2⟩
  case hMb =>
    rintro A B hM l o hl hl2 ho _
    exact hM.keep l o ho (.inl (by omega))
  case hKs => exact fun A B h k o hk => h k o (by omega)
  case hI =>
    rintro pre A B row ⟨h1, ⟨b, h2⟩, h3, h4, h5, h6⟩ hg hr
    exact ⟨boxed_grown h1 hg hr (by omega), ⟨b, boxed_grown h2 hg hr (by omega)⟩, h3.grown hg (by omega) (fun k q => by have := (hr k q).1; omega), Nat.le_trans h4 hg.size, h5, h6⟩
  case hIx =>
    rintro c pre A B row ⟨hc, h1, h3, h4, h5⟩ hg hr
    exact ⟨hc, boxed_grown h1 hg hr (by omega), h3.grown hg (by omega) (fun k q => by have := (hr k q).1; omega), Nat.le_trans h4 hg.size, h5⟩
  case hIM =>
    rintro pre A B ⟨h1, ⟨b, h2⟩, h3, h4, h5, h6⟩ hM
    exact ⟨boxed_mv h1 hM (by omega), ⟨b, boxed_mv h2 hM (by omega)⟩, h3.trans (hM.bel (by omega) (by omega)), Nat.le_trans h4 hM.size, h5, h6⟩
  case hIxM =>
    rintro c pre A B ⟨hc, h1, h3, h4, h5⟩ hM
    exact ⟨hc, boxed_mv h1 hM (by omega), h3.trans (hM.bel (by omega) (by omega)), Nat.le_trans h4 hM.size, h5⟩
  case h0 => exact ⟨hn0, ⟨_, hr0⟩, b4, by omega, Nat.zero_le _, rfl⟩
  case hround =>
    rintro l pre ⟨d, x⟩ W hP ⟨r, hr⟩ hlW
    unfold itemE TV.val TV.row
    dsimp only
    simp only [List.zip_toArray, List.zip_cons_cons, List.zip_nil_right, List.foldl_toArray, List.foldl_cons, List.foldl_nil, List.setIfInBounds_toArray, List.set_cons_succ, List.set_cons_zero]
    gi_wp2
    refine ⟨KeepsFrom.of_grownBy (World.grownBy_alloc W _ none) (fun j hj => by cases hj), ⟨(Below.refl _ W).alloc (by have := hP.size; omega) _, Below.heap_alloc _ _ _ (by omega), fun k o _ ho _ => (Below.heap_alloc _ _ _ (Array.getElem?_eq_some_iff.1 ho).1).trans ho⟩, ⟨hP.n.alloc _, ⟨_, hP.r.choose_spec.alloc _⟩, hP.bel.alloc (by have := hP.size; omega) _, by have := hP.size; simp; omega, hP.le, hP.ok⟩, ?_⟩
    rintro Wb ⟨h1, ⟨b, h2⟩, h3, h4, h5, h6⟩ hWb
    have bx : Blk Wb W.heap.size 24 #[.int .i64 x.kind, .int .i64 x.num, .string x.txt, .slice x.at_ x.kids.length x.cap] := (hWb _ (by omega)).trans (World.alloc_heap_new W _)
    clear hWb hP
    obtain ⟨x0, x1, x2, x3, -⟩ := bx.c4
    obtain ⟨cn, fn⟩ := Blk.c1 h1
    obtain ⟨cr, fr⟩ := Blk.c1 h2
    have hbl := bx.lt
    have hsn := Blk.set_ h1 0 (.int .i64 ((pre.length : Int) + 1))
    simp only [List.setIfInBounds_toArray, List.set_cons_zero] at hsn
    have j1 : (pre.length : Int) ≤ 60 := by omega
    have hlen := congrArg List.length hr
    rw [List.length_append, List.length_cons] at hlen
    by_cases hmore : 60 ≤ pre.length
    · have j2 : (pre.length : Int) = 60 := by omega
      have hno := right_more (t := t) (by omega)
      rw [j2] at cn
      clear hsn
      gi_wp2
      refine ⟨trivial, ?_⟩
      gi_wp2
      exact ⟨((KeepsOthers.setCell Wb _ _).trans (KeepsOthers.setCell _ _ _)).from _, rfl, right_end h2 (h3.setCell (p := ⟨w.heap.size + 1 + 1, 0, none⟩) (by show w.heap.size ≤ w.heap.size + 1 + 1; omega) _) (by rw [World.size_setCell]; omega) (by omega) hno⟩
    · have j3 : ¬ (60 : Int) < (pre.length : Int) + 1 := by omega
      by_cases hd : 6 < d
      · have j4 : (6 : Int) < (d : Int) := by omega
        have hno := right_bad hr (by rw [show decide ((d, x).1 ≤ 6) = false from decide_eq_false (by show ¬ d ≤ 6; omega), Bool.false_and])
        clear hsn
        gi_wp2
        refine ⟨trivial, ?_⟩
        gi_wp2
        exact ⟨((KeepsOthers.setCell Wb _ _).trans (KeepsOthers.setCell _ _ _)).from _, rfl, right_end h2 (h3.setCell (p := ⟨w.heap.size + 1 + 1, 0, none⟩) (by show w.heap.size ≤ w.heap.size + 1 + 1; omega) _) (by rw [World.size_setCell]; omega) (by omega) hno⟩
      · have j4 : ¬ (6 : Int) < (d : Int) := by omega
        have h1b : x.item.one = oneB x.kind x.num x.txt x.kids.length := by rw [TV.item_eq, IN.one, items_length]
        have hS := fun W => isOne_any x.kind x.num x.txt x.at_ x.kids.length x.cap W
        rw [← h1b] at hS
        have hbel2 := h3.setCell (p := ⟨w.heap.size + 1 + 1, 0, none⟩) (show w.heap.size ≤ w.heap.size + 1 + 1 by omega) (.int .i64 ((pre.length : Int) + 1))
        have hr2 := Blk.set_other h2 (show w.heap.size + 1 ≠ w.heap.size + 1 + 1 by omega) 0 (.int .i64 ((pre.length : Int) + 1))
        have hb2 := Blk.set_other bx (show W.heap.size ≠ w.heap.size + 1 + 1 by omega) 0 (.int .i64 ((pre.length : Int) + 1))
        have hkk := KeepsOthers.setCell Wb ⟨w.heap.size + 1 + 1, 0, none⟩ (.int .i64 ((pre.length : Int) + 1))
        have hkp := grownBy_setCell Wb (w.heap.size + 1 + 1) 0 (.int .i64 ((pre.length : Int) + 1))
        have hsz2 : (Wb.setCell ⟨w.heap.size + 1 + 1, 0, none⟩ (.int .i64 ((pre.length : Int) + 1))).heap.size = Wb.heap.size := World.size_setCell _ _ _
        cases h1c : x.item.one with
        | true =>
          rw [h1c] at hS
          gi_wp2
          refine ⟨trivial, (CallsIn.inRound l (callsIn_wide.2 (hS _))).mono ?_⟩
          rintro y W6 ⟨rfl, hb6⟩
          have hg6 : Wb.grownBy W6 (some (w.heap.size + 2)) := ⟨hb6.os.trans hkp.os, hb6.tape.trans hkp.tape, hb6.output.trans hkp.output, Nat.le_trans hkp.size hb6.size, fun k hk hk2 => (hb6.block k (by rw [hsz2]; exact hk)).trans (hkp.block k hk hk2)⟩
          have hn6 := Blk.below hsn hb6
          have hr6 := Blk.below hr2 hb6
          have hbl6 := hbel2.trans (hb6.mono (by rw [hsz2]; omega))
          have hs6 := hb6.size
          rw [hsz2] at hs6
          clear hS hb6 hsn hr2 hbel2 hb2 hkk hkp hsz2
          gi_wp2
          refine ⟨KeepsFrom.of_grownBy hg6 (fun j hj => by cases hj; omega), ⟨hbel_of hg6 (by omega) (by omega), hg6.block _ (by omega) (by simp), fun k o hk ho _ => (hg6.block k (Array.getElem?_eq_some_iff.1 ho).1 (fun e => by injection e with e; omega)).trans ho⟩, ⟨?_, ⟨_, hr6⟩, hbl6, by omega, ?_, ?_⟩⟩
          · rw [List.length_append, List.length_singleton]
            exact hn6
          · rw [List.length_append, List.length_singleton]; omega
          · rw [okPre, List.all_append, show pre.all (fun p => decide (p.1 ≤ 6) && p.2.item.one) = true from h6, Bool.true_and, List.all_cons, show decide ((d, x).1 ≤ 6) = true from decide_eq_true (by show d ≤ 6; omega), show (d, x).2.item.one = true from h1c]
            rfl
        | false =>
          have hno := right_bad hr (by rw [show (d, x).2.item.one = false from h1c, Bool.and_false])
          rw [h1c] at hS
          gi_wp2
          refine ⟨trivial, (CallsIn.inRound l (callsIn_wide.2 (hS _))).mono ?_⟩
          rintro y W6 ⟨rfl, hb6⟩
          have hr6 := Blk.below hr2 hb6
          obtain ⟨cr6, fr6⟩ := Blk.c1 hr6
          have hg6 : Wb.grownBy W6 (some (w.heap.size + 2)) := ⟨hb6.os.trans hkp.os, hb6.tape.trans hkp.tape, hb6.output.trans hkp.output, Nat.le_trans hkp.size hb6.size, fun k hk hk2 => (hb6.block k (by rw [hsz2]; exact hk)).trans (hkp.block k hk hk2)⟩
          have hbl6 := hbel2.trans (hb6.mono (by rw [hsz2]; omega))
          have hs6 := hb6.size
          rw [hsz2] at hs6
          clear hS hb6 hsn hr2 hbel2 hb2 hkk hkp hsz2
          gi_wp2
          have q := hr6.set_ 0 (.bool false)
          simp only [List.setIfInBounds_toArray, List.set_cons_zero] at q
          refine ⟨(KeepsFrom.of_grownBy hg6 (fun j hj => by cases hj; omega)).trans ((KeepsOthers.setCell W6 _ _).from _), rfl, q, hbl6.setCell (p := ⟨w.heap.size + 1, 0, none⟩) (by show w.heap.size ≤ w.heap.size + 1; omega) _, by rw [World.size_setCell]; omega, hno⟩
  case hdone =>
    rintro xs W rfl ⟨h1, ⟨b, h2⟩, h3, h4, h5, h6⟩ hD
    obtain ⟨cr, fr⟩ := Blk.c1 h2
    go_wp2_with fail
    have hy := right_yes h5 h6
    have hD2 : (W.setCell ⟨w.heap.size + 1, 0, none⟩ (.bool true)).heap[W4.heap.size]? = some (.deferred (some [])) := (Below.heap_setCell _ _ _ _ (show W4.heap.size ≠ w.heap.size + 1 by omega)).trans hD
    have hc2 : (W.setCell ⟨w.heap.size + 1, 0, none⟩ (.bool true)).cell? ⟨w.heap.size + 1, 0, none⟩ = some (.bool true) := (Blk.set_ h2 0 (.bool true)).cell 0
    have hb2 : Below w.heap.size w (W.setCell ⟨w.heap.size + 1, 0, none⟩ (.bool true)) := h3.setCell (p := ⟨w.heap.size + 1, 0, none⟩) (by simp) _
    generalize W.setCell ⟨w.heap.size + 1, 0, none⟩ (.bool true) = W5 at *
    have hc3 : (W5.putObj W4.heap.size (.deferred none)).cell? ⟨w.heap.size + 1, 0, none⟩ = some (.bool true) := (World.cell?_of_block (World.putObj_heap_other (by show w.heap.size + 1 ≠ _; omega))).trans hc2
    have hsz5 : W4.heap.size < W5.heap.size := (Array.getElem?_eq_some_iff.1 hD2).1
    refine ⟨by simp, .inl ⟨_, _, rfl, run_takeDeferred hD2, ?_⟩⟩
    refine ⟨.bool true, by simp [results, Tryz.results13, go_sem, hc3], by rw [hy], hb2.grown (grownBy_putObj' W5 _ _) (by omega) (fun k q => by cases q; omega)⟩
  case hstop =>
    rintro c pre W - ⟨rfl, h1, h3, h4, h5⟩ hD
    obtain ⟨cr, fr⟩ := Blk.c1 h1
    gi_wp2
    have hc3 : (W.putObj W4.heap.size (.deferred none)).cell? ⟨w.heap.size + 1, 0, none⟩ = some (.bool false) := (World.cell?_of_block (World.putObj_heap_other (by show w.heap.size + 1 ≠ _; omega))).trans cr
    refine ⟨by simp, .inl ⟨_, _, rfl, run_takeDeferred hD, ?_⟩⟩
    refine ⟨.bool false, by simp [results, Tryz.results13, go_sem, hc3], by rw [h5], h3.grown (grownBy_putObj' W _ _) (by omega) (fun k q => by cases q; omega)⟩

end Go.Proofs.YtmoghgmbpkpcfaaGreatDoor
