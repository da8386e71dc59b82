/-
  Package head: the head of some bytes (decoded). Conditions: the listed variables hold what 'HInv' says.
-/
import Derived.Test.YtfkekdpppcidbaaDoorHeadG
import Derived.Test.YtfkekdpppcidbaaDoorRng3
namespace Go.Proofs.YtfkekdpppcidbaaDoor
open Go.RowKit
attribute [local go_sem] Oper.semAt_some

set_option maxRecDepth 100000 in
theorem decoded_err (s : ByteArray) (p M R : Nat) (w : World) (A : Nat → Addr) (aN aW aS : Addr) (h : HInv w A aN aW aS) (hs : s.size ≤ 9223372036854775807) (hp : p < s.size) (hM : Split s[p] M R) (b : Addr) (hf : majB (M : Int) = true) (hr : R ≤ 27)
    (hA : ∀ w', HInv w' A aN aW aS → Calls Tryd.prog 33 #[.string s, .int .i64 ((p : Int) + 1), .int .i64 (R : Int)] w' (Ret (.tuple #[.int .i64 0, .int .i64 0, ErrV b]) w')) :
    Calls Tryd.prog 21 #[.string s, .int .i64 (p : Int)] w (Ret (.agg #[.int .i64 0, .int .i64 0, .int .i64 0, ErrV b]) w) := by
  have HF := Lib.hid hf
  clear hf
  obtain ⟨k1, k2, k3, k4, k5⟩ := hM
  have hR : R < 32 := by omega
  clear k4 k5
  have i5 : (R : Int) ≤ 27 := by omega
  have i3 : (0 : Int) ≤ (p : Int) := by omega
  have i4 : (p : Int) < (s.size : Int) := by omega
  unfold ErrV at hA ⊢
  go_enter Tryd.func21, Tryd.ntmps21
  go_wp2_with fail
  go_quiet (fail)
  have hW0 := hbelow_drewN (ext_new w (.cells #[.int .i64 0, .int .i64 0, .int .i64 0, .nilIface] 47)) nq
  have hB0 : Blk ((w.alloc (.cells #[.int .i64 0, .int .i64 0, .int .i64 0, .nilIface] 47)).drewN nq) w.heap.size 47 #[.int .i64 0, .int .i64 0, .int .i64 0, .nilIface] := Blk.new_ w _ _
  generalize (w.alloc (.cells #[.int .i64 0, .int .i64 0, .int .i64 0, .nilIface] 47)).drewN nq = W at *
  go_wp2_with fail
  refine (isMajor_any (M : Int) _).mono ?_
  rintro e w1 ⟨rfl, hb1⟩
  rw [HF.out]
  have hbm := ext_trans hW0 hb1
  have hBm := hB0.below hb1
  clear hW0 hb1 hB0
  go_wp2_with fail
  refine (hA _ (h.below hbm)).mono ?_
  rintro e w2 ⟨rfl, hb2⟩
  have hB := (hBm.below hb2).alloc (.cells #[.int .i64 0] 3)
  have hbw := ext_alloc (ext_trans hbm hb2) (.cells #[.int .i64 0] 3)
  clear hbm hb2 hBm hA
  have f0 := hB.frozen 0
  have f1 := hB.frozen 1
  have f2 := hB.frozen 2
  have f3 := hB.frozen 3
  have c0 := hB.cell 0
  have c1 := hB.cell 1
  have c2 := hB.cell 2
  have c3 := hB.cell 3
  have hl := hB.lt
  simp only [List.getElem?_toArray, List.getElem?_cons_zero, List.getElem?_cons_succ] at c0 c1 c2 c3
  have hFB := (((hB.set_ 0 (.int .i64 0)).set_ 1 (.int .i64 0)).set_ 2 (.int .i64 0)).set_ 3 (.iface 100 (.pointer (some b)))
  have hFW := (((hbw.setCell (by simp) (p := ⟨w.heap.size, 0, none⟩) (.int .i64 0)).setCell (by simp) (p := ⟨w.heap.size, 1, none⟩) (.int .i64 0)).setCell (by simp) (p := ⟨w.heap.size, 2, none⟩) (.int .i64 0)).setCell (by simp) (p := ⟨w.heap.size, 3, none⟩) (.iface 100 (.pointer (some b)))
  go_wp2_with fail
  generalize (((((w2.alloc (.cells #[.int .i64 0] 3)).setCell ⟨w.heap.size, 0, none⟩ (.int .i64 0)).setCell ⟨w.heap.size, 1, none⟩ (.int .i64 0)).setCell ⟨w.heap.size, 2, none⟩ (.int .i64 0)).setCell ⟨w.heap.size, 3, none⟩ (.iface 100 (.pointer (some b)))) = WF at *
  have F0 := hFB.cell 0
  have F1 := hFB.cell 1
  have F2 := hFB.cell 2
  have F3 := hFB.cell 3
  simp only [List.setIfInBounds_toArray, List.set_cons_succ, List.set_cons_zero, List.getElem?_toArray, List.getElem?_cons_zero, List.getElem?_cons_succ] at F0 F1 F2 F3
  exact bodyPost_ret (v := .agg #[.int .i64 0, .int .i64 0, .int .i64 0, .iface 100 (.pointer (some b))]) (by simp [results, Tryd.results21, go_sem, F0, F1, F2, F3]) rfl ⟨rfl, hFW⟩

set_option maxRecDepth 100000 in
theorem decoded_fit (s : ByteArray) (p M R : Nat) (w : World) (A : Nat → Addr) (aN aW aS : Addr) (h : HInv w A aN aW aS) (hs : s.size ≤ 9223372036854775807) (hp : p < s.size) (hM : Split s[p] M R) (n wd : Nat) (hn : n ≤ 281474976710655) (hwd : wd ≤ 8) (hp2 : p + 1 + wd ≤ s.size) (hf : majB (M : Int) = true) (hr : R ≤ 27)
    (hA : ∀ w', HInv w' A aN aW aS → Calls Tryd.prog 33 #[.string s, .int .i64 ((p : Int) + 1), .int .i64 (R : Int)] w' (Ret (.tuple #[.int .i64 (n : Int), .int .i64 (wd : Int), .nilIface]) w')) :
    Calls Tryd.prog 21 #[.string s, .int .i64 (p : Int)] w (Ret (if wOf n = wd then .agg #[.int .i64 (M : Int), .int .i64 (n : Int), .int .i64 ((p : Int) + 1 + (wd : Int)), .nilIface] else .agg #[.int .i64 0, .int .i64 0, .int .i64 0, ErrV (A 3)]) w) := by
  have HF := Lib.hid hf
  clear hf
  obtain ⟨k1, k2, k3, k4, k5⟩ := hM
  have hR : R < 32 := by omega
  clear k4 k5
  have i5 : (R : Int) ≤ 27 := by omega
  have i3 : (0 : Int) ≤ (p : Int) := by omega
  have i4 : (p : Int) < (s.size : Int) := by omega
  generalize hG : (if wOf n = wd then Value.agg #[.int .i64 (M : Int), .int .i64 (n : Int), .int .i64 ((p : Int) + 1 + (wd : Int)), .nilIface] else .agg #[.int .i64 0, .int .i64 0, .int .i64 0, ErrV (A 3)]) = G
  have HG := Lib.hid hG
  clear hG
  refine callsIn_wide.1 (callsIn_of_wp_marks (n := 5) Tryd.func21 rfl trivial ?_ rfl)
  simp only [Tryd.ntmps21, List.size_toArray, List.length_cons, List.length_nil, Nat.reduceAdd, Nat.reduceSub, Array.replicate_succ, Array.replicate_zero, List.push_toArray, List.append_toArray, List.nil_append, List.cons_append]
  refine wpIn_wide.2 ?_
  go_wp2_with fail
  go_quiet (fail)
  have hW0 := hbelow_drewN (ext_new w (.cells #[.int .i64 0, .int .i64 0, .int .i64 0, .nilIface] 47)) nq
  have hB0 : Blk ((w.alloc (.cells #[.int .i64 0, .int .i64 0, .int .i64 0, .nilIface] 47)).drewN nq) w.heap.size 47 #[.int .i64 0, .int .i64 0, .int .i64 0, .nilIface] := Blk.new_ w _ _
  generalize (w.alloc (.cells #[.int .i64 0, .int .i64 0, .int .i64 0, .nilIface] 47)).drewN nq = W at *
  go_wp2_with fail
  refine (isMajor_any (M : Int) _).mono ?_
  rintro e w1 ⟨rfl, hb1⟩
  rw [HF.out]
  have hbm := ext_trans hW0 hb1
  have hBm := hB0.below hb1
  clear hW0 hb1 hB0
  go_wp2_with fail
  refine (hA _ (h.below hbm)).mono ?_
  rintro e w2 ⟨rfl, hb2⟩
  go_wp2_with fail
  refine (fits_any (n : Int) _).mono ?_
  rintro e w3 ⟨rfl, rfl⟩
  go_wp2_with fail
  obtain ⟨d, hd⟩ : ∃ d, w.heap.size = d := ⟨_, rfl⟩
  obtain ⟨e, he⟩ : ∃ e, w2.heap.size = e := ⟨_, rfl⟩
  have hB := (hBm.below hb2).alloc (.cells #[.int .i64 (wd : Int)] 3)
  have hbw := ext_alloc (ext_trans hbm hb2) (.cells #[.int .i64 (wd : Int)] 3)
  have hde := (hBm.below hb2).lt
  rw [hd] at hB hbw hde ⊢
  rw [he] at hde ⊢
  clear hbm hb2 hBm hA
  have q1 : Blk (w2.alloc (.cells #[.int .i64 (wd : Int)] 3)) e 3 #[.int .i64 (wd : Int)] := Blk.at_ he.symm
  generalize hW0 : (w2.alloc (.cells #[.int .i64 (wd : Int)] 3)).alloc (.cells #[.int .i64 (n : Int)] 3) = W0
  have hW0s : W0.heap.size = e + 2 := by rw [← hW0]; simp [he]
  have p1 : Blk W0 e 3 #[.int .i64 (wd : Int)] := by rw [← hW0]; exact q1.alloc _
  have p2 : Blk W0 d 47 #[.int .i64 0, .int .i64 0, .int .i64 0, .nilIface] := by rw [← hW0]; exact hB.alloc _
  have p4 : Boxed W0 (e + 1) 3 (.int .i64 (n : Int)) := by rw [← hW0]; exact boxed_at (by simp [he])
  have p7 : Below d w W0 := by rw [← hW0]; exact hbw.alloc (by simp; omega) _
  clear hW0 q1 hB hbw
  have hKB : ∀ {W W' : World} {g : Nat} {t : TypeId} {cs : Array Value} {row : Option Nat}, Blk W g t cs → W.grownBy W' row → (∀ r, row = some r → r ≠ g) → Blk W' g t cs := fun {W W' g t cs row} hb hgr hr => by
    have := hb.lt
    exact hb.kept (hgr.block g this (fun e => hr g e.symm rfl))
  have g3 : ∀ W, Below d w W → W.cell? ⟨3, 0, none⟩ = some (ErrV (A 3)) := fun W hb => (h.below (hd ▸ hb)).c3
  unfold ErrV at g3
  refine wpIn_wide.1 (wpIn_rangeN (n := 5) (gf := 38) (lb := #[.pointer (some ⟨e + 1, 0, none⟩)]) rfl (by omega) rfl trivial (enters_of Tryd.func38 (by kernel_rfl) rfl)
    (fits_seq n (by omega) (e + 1) _) (fun _ => rfl) ?hSt (fun h k => k.trans h) ?hKb ?hMb
    (fun pre W => pre = [] ∧ Below d w W ∧ Blk W e 3 #[.int .i64 (wd : Int)] ∧ Blk W d 47 #[.int .i64 0, .int .i64 0, .int .i64 0, .nilIface] ∧ e + 1 < W.heap.size)
    (fun c _ W => Below d w W ∧ ((c = .ret ∧ wOf n ≠ wd ∧ Blk W d 47 #[.int .i64 0, .int .i64 0, .int .i64 0, .iface 100 (.pointer (some (A 3)))]) ∨ (c = .exit 0 ∧ wOf n = wd ∧ Blk W d 47 #[.int .i64 0, .int .i64 0, .int .i64 0, .nilIface] ∧ Blk W e 3 #[.int .i64 (wd : Int)]))) ?hI ?hIx ?hIM ?hIxM ⟨rfl, p7, p1, p2, by omega⟩ ?hround ?hdone ?hstop)
  case hSt => intro o o'; exact ⟨(p4.alloc _).alloc _, ((h.below (hd ▸ p7)).rooms.alloc _).alloc _⟩
  case hKb =>
    intro W l o o' hl _ _
    exact World.putObj_heap_other (by omega)
  case hMb =>
    rintro A B ⟨o, rfl⟩ l o' hl ho _
    exact (Below.heap_alloc _ _ _ (Array.getElem?_eq_some_iff.1 ho).1).trans ho
  case hI =>
    rintro pre A B row ⟨a1, a2, a3, a4, a6⟩ hgr hr
    have hd1 := p2.lt
    have hne : ∀ g, g < W0.heap.size → ∀ r, row = some r → r ≠ g := fun g hg r er => by have := (hr r er).1; omega
    exact ⟨a1, a2.grown hgr (by have := a2.size; omega) (fun r e => by have := (hr r e).1; omega), hKB a3 hgr (hne _ (by omega)), hKB a4 hgr (hne _ hd1), by have := hgr.size; omega⟩
  case hIx =>
    rintro c pre A B row ⟨a2, a4⟩ hgr hr
    have hd1 := p2.lt
    have hne : ∀ g, g < W0.heap.size → ∀ r, row = some r → r ≠ g := fun g hg r er => by have := (hr r er).1; omega
    refine ⟨a2.grown hgr (by have := a2.size; omega) (fun r e => by have := (hr r e).1; omega), ?_⟩
    rcases a4 with ⟨z1, z2, z3⟩ | ⟨z1, z2, z3, z4⟩
    · exact .inl ⟨z1, z2, hKB z3 hgr (hne _ hd1)⟩
    · exact .inr ⟨z1, z2, hKB z3 hgr (hne _ hd1), hKB z4 hgr (hne _ (by omega))⟩
  case hIM =>
    rintro pre A B ⟨a1, a2, a3, a4, a6⟩ ⟨o, rfl⟩
    exact ⟨a1, a2.alloc (Nat.le_trans (by omega) (Nat.le_of_lt a6)) _, a3.alloc _, a4.alloc _, by simp; omega⟩
  case hIxM =>
    rintro c pre A B ⟨a2, a4⟩ ⟨o, rfl⟩
    rcases a4 with ⟨z1, z2, z3⟩ | ⟨z1, z2, z3, z4⟩
    · exact ⟨a2.alloc (Nat.le_trans (by omega) (Nat.le_of_lt z3.lt)) _, .inl ⟨z1, z2, z3.alloc _⟩⟩
    · exact ⟨a2.alloc (Nat.le_trans (by omega) (Nat.le_of_lt z3.lt)) _, .inr ⟨z1, z2, z3.alloc _, z4.alloc _⟩⟩
  case hround =>
    rintro l pre x W ⟨rfl, a2, a3, a4, a6⟩ ⟨hx5, hxn, hxp⟩ hlW
    have hff := (first_fit hn hx5 hxn hxp.symm).1
    have FF := Lib.hid hff
    clear hff hxn hxp
    unfold roomV
    gi_wp2
    have hd1 := p2.lt
    refine ⟨KeepsFrom.of_grownBy (World.grownBy_alloc W _ none) (fun j hj => by cases hj), Below.heap_alloc _ _ _ (by omega), ⟨trivial, a2.alloc (Nat.le_trans (by omega) (Nat.le_of_lt a6)) _, a3.alloc _, a4.alloc _, by simp; omega⟩, ?_⟩
    rintro Wb ⟨-, b2, b3, b4, b6⟩ hWb
    have bx : Blk Wb W.heap.size 64 #[.int .i64 (roomW x : Int), .int .i64 (roomM x : Int), .int .i64 (roomX x : Int)] := (hWb _ (by omega)).trans (World.alloc_heap_new W _)
    clear hWb
    have x0 := bx.cell 0
    have n0 := b3.cell 0
    have z0 := b4.frozen 0
    have z1 := b4.frozen 1
    have z2 := b4.frozen 2
    have z3 := b4.frozen 3
    have y0 := b4.cell 0
    have y1 := b4.cell 1
    have y2 := b4.cell 2
    have y3 := b4.cell 3
    have g3' := g3 Wb b2
    simp only [List.getElem?_toArray, List.getElem?_cons_zero, List.getElem?_cons_succ] at x0 n0 y0 y1 y2 y3
    rw [FF.out] at x0
    have e1 := bx.lt
    have e2 := b3.lt
    have e4 := b4.lt
    by_cases hq : wOf n = wd
    · have hq1 : ((wOf n : Int) == (wd : Int)) = true := by rw [hq]; simp
      have hq2 : (wOf n : Int) = (wd : Int) := by omega
      have HQ := Lib.hid hq
      rw [hq2] at x0
      clear hq hq1 hq2
      gi_wp2
      exact ⟨KeepsFrom.refl _ _, b2, .inr ⟨rfl, HQ.out, b4, b3⟩⟩
    · have hq2 : ¬ ((wOf n : Int) = (wd : Int)) := by omega
      have HQ := Lib.hid hq
      clear hq
      generalize wOf n = q at *
      gi_wp2
      exact ⟨((((KeepsOthers.setCell _ _ _).from _).trans ((KeepsOthers.setCell _ _ _).from _)).trans ((KeepsOthers.setCell _ _ _).from _)).trans ((KeepsOthers.setCell _ _ _).from _),
        (((b2.setCell (by simp) _).setCell (by simp) _).setCell (by simp) _).setCell (by simp) _, .inl ⟨rfl, HQ.out, (((b4.set_ 0 _).set_ 1 _).set_ 2 _).set_ 3 _⟩⟩
  case hdone =>
    rintro xs W hxs ⟨rfl, _⟩ hD
    exact absurd hxs.symm (fitsL_five hn)
  case hstop =>
    rintro c pre W _ ⟨a2, a4⟩ hD
    rw [hW0s] at hD ⊢
    rcases a4 with ⟨rfl, z2, z3⟩ | ⟨rfl, z2, z3, z4⟩
    · have HQ := Lib.hid z2
      clear z2
      have a5 : Blk (W.putObj (e + 2) (.deferred none)) d 47 #[.int .i64 0, .int .i64 0, .int .i64 0, .iface 100 (.pointer (some (A 3)))] := z3.kept (World.putObj_heap_other (by omega))
      have c0 := a5.cell 0
      have c1 := a5.cell 1
      have c2 := a5.cell 2
      have c3 := a5.cell 3
      simp only [List.getElem?_toArray, List.getElem?_cons_zero, List.getElem?_cons_succ] at c0 c1 c2 c3
      gi_wp2
      refine ⟨by simp, .inl ⟨_, _, rfl, run_takeDeferred hD, ?_⟩⟩
      refine ⟨.agg #[.int .i64 0, .int .i64 0, .int .i64 0, .iface 100 (.pointer (some (A 3)))], (by simp [results, Tryd.results21, go_sem, c0, c1, c2, c3]), by rw [← HG.out, if_neg HQ.out]; rfl, ?_⟩
      rw [hd]
      exact a2.grown (grownBy_putObj' W (e + 2) _) (by have := a2.size; omega) (fun k e => by cases e; omega)
    · have HQ := Lib.hid z2
      clear z2
      have f0 := z3.frozen 0
      have f1 := z3.frozen 1
      have f2 := z3.frozen 2
      have f3 := z3.frozen 3
      have c0 := z3.cell 0
      have c1 := z3.cell 1
      have c2 := z3.cell 2
      have c3 := z3.cell 3
      have c4 := z4.cell 0
      have l3 := z3.lt
      simp only [List.getElem?_toArray, List.getElem?_cons_zero, List.getElem?_cons_succ] at c0 c1 c2 c3 c4
      gi_wp2
      have u1 : IntKind.i64.wrap ((p : Int) + 1) = (p : Int) + 1 := IntWalk.i64_in _ (by omega)
      have u2 : IntKind.i64.wrap ((p : Int) + 1 + (wd : Int)) = (p : Int) + 1 + (wd : Int) := IntWalk.i64_in _ (by omega)
      go_wp2_with fail
      have hFB := (((z3.set_ 0 (.int .i64 (M : Int))).set_ 1 (.int .i64 (n : Int))).set_ 2 (.int .i64 ((p : Int) + 1 + (wd : Int)))).set_ 3 .nilIface
      have hFW := (((a2.setCell (p := ⟨d, 0, none⟩) (by simp) (.int .i64 (M : Int))).setCell (p := ⟨d, 1, none⟩) (by simp) (.int .i64 (n : Int))).setCell (p := ⟨d, 2, none⟩) (by simp) (.int .i64 ((p : Int) + 1 + (wd : Int)))).setCell (p := ⟨d, 3, none⟩) (by simp) .nilIface
      have hFD : ((((W.setCell ⟨d, 0, none⟩ (.int .i64 (M : Int))).setCell ⟨d, 1, none⟩ (.int .i64 (n : Int))).setCell ⟨d, 2, none⟩ (.int .i64 ((p : Int) + 1 + (wd : Int)))).setCell ⟨d, 3, none⟩ .nilIface).heap[e + 2]? = some (.deferred (some [])) := by
        rw [Below.heap_setCell _ _ _ _ (by simp; omega), Below.heap_setCell _ _ _ _ (by simp; omega), Below.heap_setCell _ _ _ _ (by simp; omega), Below.heap_setCell _ _ _ _ (by simp; omega)]
        exact hD
      generalize (((W.setCell ⟨d, 0, none⟩ (.int .i64 (M : Int))).setCell ⟨d, 1, none⟩ (.int .i64 (n : Int))).setCell ⟨d, 2, none⟩ (.int .i64 ((p : Int) + 1 + (wd : Int)))).setCell ⟨d, 3, none⟩ .nilIface = WF at *
      have a5 := hFB.kept (World.putObj_heap_other (by omega) : (WF.putObj (e + 2) (.deferred none)).heap[d]? = WF.heap[d]?)
      have F0 := a5.cell 0
      have F1 := a5.cell 1
      have F2 := a5.cell 2
      have F3 := a5.cell 3
      simp only [List.setIfInBounds_toArray, List.set_cons_succ, List.set_cons_zero, List.getElem?_toArray, List.getElem?_cons_zero, List.getElem?_cons_succ] at F0 F1 F2 F3
      refine ⟨by simp, .inl ⟨_, _, rfl, run_takeDeferred hFD, ?_⟩⟩
      refine ⟨.agg #[.int .i64 (M : Int), .int .i64 (n : Int), .int .i64 ((p : Int) + 1 + (wd : Int)), .nilIface], (by simp [results, Tryd.results21, go_sem, F0, F1, F2, F3]), by rw [← HG.out, if_pos HQ.out], ?_⟩
      rw [hd]
      exact hFW.grown (grownBy_putObj' WF (e + 2) _) (by have := hFW.size; omega) (fun k e => by cases e; omega)

end Go.Proofs.YtfkekdpppcidbaaDoor
