/-
  QueueEnds. Conditions: the program's variables hold what GInv says.
-/
import Derived.Test.YtmebjdbkngehiaaGreatDoorQhQ
import Derived.Test.YtmebjdbkngehiaaGreatDoorQhJ
import Derived.Test.YtmebjdbkngehiaaGreatDoorQhP
namespace Go.Proofs.YtmebjdbkngehiaaGreatDoor
open Go.RowKit Go.Shelf

theorem step_append_ex {P : Program} {ops : Array Oper} {o : Oper} {a : Act} {w : World} {K : Act → World → Prop} {Q : Exit → Act → World → Prop} {E : Prop} (R : Value → World → Prop) (hgd : o.guard = none) (s x : Operand) (t : TypeId)
    (ho : o.op = .call { callee := .builtin .append, args := #[s, x], argTypes := #[t, t] }) (S X : Value) (hs : a.eval s = S) (hx : a.eval x = X) (hr : ∀ ty, ∃ v w', (Builtin.append_ #[t, t] ty #[S, X]).run P w = .ok v w' ∧ R v w') (h : ∀ v w', R v w' → K (a.put o.dst v) w') :
    if Region.wanted o (yielded ops a.tmps) = true then Oper.wp P o a w K Q else E := by
  have hw : Region.wanted o (yielded ops a.tmps) = true := by simp [Region.wanted, hgd]
  rw [if_pos hw]
  obtain ⟨v, w', e1, e2⟩ := hr o.type
  unfold Oper.wp execOp
  simp only [ho, resolve, invoke, builtin, Sem.run_bind, Sem.run_pure, Result.andThen_ok, List.map_toArray, List.map_cons, List.map_nil, hs, hx, e1]
  exact h v w' e2
theorem EntsAt.go {w w' : World} {p g : Nat} {o o' : Option (QC × QV)} {r n : Nat} {l : List EI} (h : EntsAt w (some ⟨r, 0, none⟩) n l) (ha : Apart w p g o (some ⟨r, 0, none⟩)) (hw : Moves w p g o o' w') : EntsAt w' (some ⟨r, 0, none⟩) n l := by
  refine ⟨h.1, h.2.imp id ?_⟩
  rintro ⟨ad, h1, h2, h3⟩
  injection h1 with h1
  subst h1
  have hr := hw.kept.block r (ha r rfl).1 (ha r rfl).2
  exact ⟨_, rfl, Nat.lt_of_lt_of_le h2 hw.kept.size, fun j u hj => (cell_heap (by rw [add_blk]; exact hr)).trans (h3 j u hj)⟩
theorem EntsAt.sub {w : World} {r n : Nat} {l : List EI} (h : EntsAt w (some ⟨r, 0, none⟩) n l) (i k : Nat) (hk : i + k ≤ n) : EntsAt w (some ⟨r, i * 7, none⟩) k ((l.drop i).take k) := by
  obtain ⟨hn, ⟨e, -⟩ | ⟨ad, h1, h2, h3⟩⟩ := h
  · cases e
  injection h1 with h1
  subst h1
  refine ⟨by rw [List.length_take, List.length_drop]; omega, .inr ⟨_, rfl, h2, fun j u hj => ?_⟩⟩
  rw [← cellsE_take, ← cellsE_drop, List.getElem?_take] at hj
  split at hj
  · rw [List.getElem?_drop] at hj
    rw [show (⟨r, i * 7, none⟩ : Addr).add j = (⟨r, 0, none⟩ : Addr).add (i * 7 + j) from by unfold Addr.add; split <;> split <;> simp <;> omega]
    exact h3 _ u hj
  · cases hj

set_option maxRecDepth 100000 in
set_option maxHeartbeats 8000000 in
theorem law_ends {w : World} {aA aT aN aW aS : Addr} (hI : GInv w aA aT aN aW aS) (s : Int) (A : Option Addr) (n c : Nat) (xs : List QO) (ha : ArgL w A n xs) (at_ : Int) (dn : Bool) : Calls Tryz.prog 6 #[.int .i64 s, .slice A n c, .int .i64 at_, .bool dn] w (Ret (.bool true) w) := by
  have cS := shown_any hI
  have HA := Lib.hid ha
  clear ha
  go_enter Tryz.func6, Tryz.ntmps6
  go_wp2_with fail
  with_reducible refine cS.mono ?_
  rintro e w1 ⟨rfl, hb1⟩
  have cM := Made_any (hI.below hb1) s A n c xs (HA.out.below hb1)
  clear cS HA
  go_wp2_with fail
  with_reducible refine cM.mono ?_
  intro e w2 hM
  clear cM
  obtain ⟨a, b, rfl, hb2, -⟩ | ⟨p, g, o, q, b, rfl, hb, hP, ⟨m, rfl, hM, hm, -⟩, hn⟩ := hM
  · have hfin := ext_trans hb1 hb2
    clear hb1 hb2
    go_wp2_with fail
    go_ret
    exact ⟨rfl, hfin⟩
  have hP2 := hP.back hb1
  have HB := Lib.hid hb
  have cE := play_entries hP2.at_
  rw [hb] at cE
  clear hP hb1 hb
  go_wp2_with fail
  with_reducible refine cE.mono ?_
  rintro e w3 ⟨V, rfl, hown, hb3⟩
  obtain ⟨-, A3, c3, rfl, hrow⟩ := rowE_own hown
  have hP3 := hP2.ext hb3
  have hR3 := RowE2.of_own hP2.at_ hown hrow
  have hA3 := entsAt_own hown
  have hcap : q.s.L.length ≤ c3 := by
    obtain ⟨-, ⟨e, e0⟩ | ⟨_, cap, cur, e, -, -, e3, -⟩⟩ := hown
    · omega
    · injection e with _ _ e
      omega
  clear cE hown hb3 hP2 hrow
  by_cases h : at_ < 0 ∨ (q.s.L.length : Int) ≤ at_
  · have hfin := hP3.bel
    clear hP3 hR3 hA3 hcap
    have HH := Lib.hid h
    clear h
    by_cases h0 : at_ < 0
    · go_wp2_with fail
      go_ret
      exact ⟨rfl, hfin⟩
    · have h1 : (q.s.L.length : Int) ≤ at_ := by have := HH.out; omega
      go_wp2_with fail
      go_ret
      exact ⟨rfl, hfin⟩
  obtain ⟨i, rfl⟩ : ∃ i : Nat, at_ = (i : Int) := ⟨at_.toNat, by omega⟩
  have hi : i < q.s.L.length := by omega
  have g0 : ¬ (i : Int) < 0 := by omega
  have g1 : ¬ (q.s.L.length : Int) ≤ (i : Int) := by omega
  have g1' : (i : Int) < (q.s.L.length : Int) := by omega
  clear h
  obtain ⟨id, hid⟩ : ∃ id, q.s.L[i].id = id := ⟨_, rfl⟩
  obtain ⟨ky, hky⟩ : ∃ ky, q.s.L[i].key = ky := ⟨_, rfl⟩
  have HI := Lib.hid (show (∀ (W : World) r, RowE W (some ⟨r, 0, none⟩) q.s.L → W.cell? ⟨r, i * 7, none⟩ = some (.int .i64 id) ∧ W.cell? ⟨r, i * 7 + 2, none⟩ = some (.string ky)) ∧ 0 < q.s.L.length from ⟨fun W r hh => by
    obtain ⟨r', e1, -, e3⟩ := hh (by omega)
    injection e1 with e1
    injection e1 with e1
    subst e1
    have e := e3 i hi
    rw [← hid, ← hky]
    exact ⟨e.1, e.2.2.1⟩, by omega⟩)
  obtain ⟨r, rfl⟩ : ∃ r, A3 = some ⟨r, 0, none⟩ := by
    obtain ⟨r, e, -⟩ := hR3.1 (by omega)
    exact ⟨r, e⟩
  have x0 := (HI.out.1 _ _ hR3.1).1
  have hn1 : q.d.n ≤ 950000 := by omega
  have HMM := Lib.hid (And.intro hM <| And.intro hm hn)
  clear hM hm hn
  cases dn
  case' false =>
    obtain ⟨q1, r1, a1, a2, a3, a4, a5, a6, a7⟩ := ends_law HMM.out.1 hi (kd := 3) (by omega)
    rw [hid] at a1
    rw [hky] at a5
    have HL := Lib.hid (And.intro a1 <| And.intro a2 <| And.intro a3 <| And.intro a4 <| And.intro a5 a6)
    have HN := Lib.hid (show q.d.n ≤ 950000 ∧ q1.d.n ≤ 950000 from ⟨hn1, by have := HMM.out.2; omega⟩)
    clear a1 a2 a3 a4 a5 a6 a7 HMM hn1 hid hky
    have cE := play_drop ⟨3, id, 0, EI.nil⟩ rfl hP3 hI HN.out.1
    rw [HL.out.1, HB.out] at cE
    dsimp only at cE
    go_wp2_with fail
    with_reducible refine cE.mono ?_
    rintro e w5 ⟨rfl, o5, hw5, hq5⟩
    have HB5 := Lib.hid hq5
    have hP5 := hP3.went hw5
    have hR5 := hR3.go hw5.moves
    have hA5 := hA3.go hR3.2 hw5.moves
    clear cE hw5 hq5 hP3 hR3 hA3 x0
  case' true =>
    obtain ⟨q1, r1, a1, a2, a3, a4, a5, a6, a7⟩ := ends_law HMM.out.1 hi (kd := 2) (by omega)
    rw [hid] at a1
    rw [hky] at a5
    have HL := Lib.hid (And.intro a1 <| And.intro a2 <| And.intro a3 <| And.intro a4 <| And.intro a5 a6)
    have HN := Lib.hid (show q.d.n ≤ 950000 ∧ q1.d.n ≤ 950000 from ⟨hn1, by have := HMM.out.2; omega⟩)
    clear a1 a2 a3 a4 a5 a6 a7 HMM hn1 hid hky
    have cE := play_done ⟨2, id, 0, EI.nil⟩ rfl hP3 hI HN.out.1
    rw [HL.out.1, HB.out] at cE
    dsimp only at cE
    go_wp2_with fail
    with_reducible refine cE.mono ?_
    rintro e w5 ⟨rfl, o5, hw5, hq5⟩
    have HB5 := Lib.hid hq5
    have hP5 := hP3.went hw5
    have hR5 := hR3.go hw5.moves
    have hA5 := hA3.go hR3.2 hw5.moves
    clear cE hw5 hq5 hP3 hR3 hA3 x0
  all_goals
    have hl1 : q.s.L.length ≤ 60 := HL.out.2.2.2.2.2.len
    have hdr := (Below.refl w5.heap.size w5).drew
    have hEA : EntsAt w5 (if c3 = i + 1 then some ⟨r, 0, none⟩ else some ⟨r, (i + 1) * 7, none⟩) (q.s.L.length - (i + 1)) ((q.s.L.drop (i + 1)).take (q.s.L.length - (i + 1))) := by
      split
      · have h0 := hA5.sub 0 0 (by omega)
        rw [show q.s.L.length - (i + 1) = 0 by omega]
        simpa using h0
      · exact hA5.sub (i + 1) (q.s.L.length - (i + 1)) (by omega)
    have hEB : EntsAt w5 (some ⟨r, 0, none⟩) i (q.s.L.take i) := by simpa using hA5.sub 0 i (by omega)
    have HE := Lib.hid (And.intro (hEB.below hdr) (hEA.below hdr))
    have hP6 := hP5.ext hdr
    have hR6 := hR5.below hdr
    clear hA5 hP5 hR5 hdr hEA hEB
    have k0 : (0 : Int) ≤ (i : Int) := by omega
    have k1 : (i : Int) ≤ (c3 : Int) := by omega
    have k2 : (q.s.L.length : Int) ≤ (c3 : Int) := by omega
    have k3 : IntKind.i64.wrap ((i : Int) + 1) = ((i + 1 : Nat) : Int) := by rw [IntWalk.i64_in _ (by omega)]; omega
    have k4 : ((i + 1 : Nat) : Int) ≤ (q.s.L.length : Int) := by omega
    have k5 : (0 : Int) ≤ ((i + 1 : Nat) : Int) := by omega
    have k6 : (0 : Int) ≤ (i : Int) + 1 := by omega
    have k7 : (i : Int) + 1 ≤ (q.s.L.length : Int) := by omega
    go_wp2_with fail
    refine wp_region_held_drew (S := fun _ => True) (by kernel_rfl) trivial (fun _ => ?_)
    generalize w5.drew = W0 at *
    refine wpAnyH_tk (i := 0) (v := ?_) (some 56) rfl rfl ?_ ?_
    rotate_left
    · intro wx hSx
      go_simp
      try with_reducible rfl
    refine wpAnyH_tk (i := 1) (v := ?_) (some 57) rfl rfl ?_ ?_
    rotate_left
    · intro wx hSx
      go_simp
      try with_reducible rfl
    refine wpAnyH_tk (i := 2) (v := ?_) (some 58) rfl rfl ?_ ?_
    rotate_left
    · intro wx hSx
      go_simp
      try with_reducible rfl
    refine wpAnyH_tk (i := 3) (v := ?_) (some 59) rfl rfl ?_ ?_
    rotate_left
    · intro wx hSx
      go_simp
      try with_reducible rfl
    refine wpAnyH_tk (i := 5) (v := ?_) (some 61) rfl rfl ?_ ?_
    rotate_left
    · intro wx hSx
      go_simp
      try with_reducible rfl
    refine wpAnyH_tk (i := 6) (v := ?_) (some 62) rfl rfl ?_ ?_
    rotate_left
    · intro wx hSx
      go_simp
      try with_reducible rfl
    refine wpAnyH_tk (i := 7) (v := ?_) (some 63) rfl rfl ?_ ?_
    rotate_left
    · intro wx hSx
      go_simp
      try with_reducible rfl
    refine wpAnyH_tk (i := 8) (v := ?_) (some 64) rfl rfl ?_ ?_
    rotate_left
    · intro wx hSx
      go_simp
      try with_reducible rfl
    refine rdy1 4 rfl (fun K hK => ?_)
    generalize (if c3 = i + 1 then (some ⟨r, 0, none⟩ : Option Addr) else some ⟨r, (i + 1) * 7, none⟩) = AD at *
    have hap : ∀ ty, ∃ v w', (Builtin.append_ #[46, 46] ty #[.slice none 0 0, .slice (some ⟨r, 0, none⟩) i c3]).run Tryz.prog W0 = .ok v w' ∧ (w'.ownsRow W0.heap.size 23 7 v (0 + i) ([] ++ cellsE (q.s.L.take i)) ∧ W0.grownBy w' (Value.slice none 0 0).ownBlock) := fun ty => run_moreE HE.out.1 own_nil (by omega) (Nat.le_refl _) ty
    refine step_append_ex _ (by rfl) _ _ _ (by rfl) (.slice none 0 0) (.slice (some ⟨r, 0, none⟩) i c3) ?_ ?_ hap ?_
    · go_simp
    · go_simp
    clear hap
    rintro V1 W1 ⟨hown1, hg1⟩
    refine hK.out _ _ trivial (fun _ => ?_)
    clear hK K
    have hf1 : Foot (fun _ => False) W0 W1 := (Foot.refl _ W0).grown hg1 (fun k hk => by cases hk)
    have hb1 : Below W0.heap.size W0 W1 := hf1.below (fun k hk => hk.elim) (Nat.le_refl _)
    refine rdy1 9 rfl (fun K hK => ?_)
    have hap : ∀ ty, ∃ v w', (Builtin.append_ #[46, 46] ty #[V1, .slice AD (q.s.L.length - (i + 1)) (c3 - (i + 1))]).run Tryz.prog W1 = .ok v w' ∧ (w'.ownsRow W0.heap.size 23 7 v (0 + i + (q.s.L.length - (i + 1))) ([] ++ cellsE (q.s.L.take i) ++ cellsE ((q.s.L.drop (i + 1)).take (q.s.L.length - (i + 1)))) ∧ W1.grownBy w' V1.ownBlock) := fun ty => run_moreE (HE.out.2.below hb1) hown1 (by omega) hb1.size ty
    refine step_append_ex _ (by rfl) _ _ _ (by rfl) V1 (.slice AD (q.s.L.length - (i + 1)) (c3 - (i + 1))) ?_ ?_ hap ?_
    · go_simp
    · go_simp
    clear hap
    rintro V2 W2 ⟨hown2, hg2⟩
    refine hK.out _ _ trivial (fun _ => ?_)
    clear hK K
    have hb2 : Below W0.heap.size W0 W2 := (hf1.grown hg2 (fun k hk => .inr (hown1.lt k hk.symm).1)).below (fun k hk => hk.elim) (Nat.le_refl _)
    obtain ⟨WL, hWL⟩ : ∃ WL, q.s.L.take i ++ q.s.L.drop (i + 1) = WL := ⟨_, rfl⟩
    have hwl : WL.length = 0 + i + (q.s.L.length - (i + 1)) := by rw [← hWL, List.length_append, List.length_take, List.length_drop]; omega
    rw [show (q.s.L.drop (i + 1)).take (q.s.L.length - (i + 1)) = q.s.L.drop (i + 1) from List.take_of_length_le (by rw [List.length_drop]; omega), List.nil_append, ← cellsE_app, hWL, ← hwl] at hown2
    obtain ⟨-, AW, cW, rfl, hrow⟩ := rowE_own hown2
    have hW2 := RowE2.of_own hP6.at_ hown2 hrow
    have hR7 := hR6.below hb2
    have hP7 := hP6.ext hb2
    have hl7 : WL.length ≤ 60 := by omega
    replace HL := Lib.hid (show _ ∧ _ ∧ _ ∧ _ ∧ _ ∧ _ from HL.out)
    rw [hWL] at HL
    clear hown1 hown2 hg1 hg2 hf1 hb1 hb2 hrow hP6 hR6 hwl hWL HE k0 k1 k2 k3 k4 k5 k6 k7
    refine wpAnyH_tk (i := 10) (v := ?_) (some 15) rfl rfl ?_ ?_
    rotate_left
    · intro wx hSx
      go_simp
      try with_reducible rfl
    refine wpAnyH_done (by kernel_rfl) ?_ _
    try simp only [Act.put, List.setIfInBounds_toArray, List.set_cons_succ, List.set_cons_zero]
    obtain ⟨cq, vq, ho7, hs7, -, hne⟩ := pair_stand hP7.at_
    have HCB := Lib.hid (show Value.pointer (some ⟨cq.b, 0, none⟩) = Value.pointer (some ⟨b, 0, none⟩) from by rw [← HB5.out, ho7]; rfl)
    clear ho7
    have cN := play_new2 hP7 hI HN.out.2
    dsimp only at cN
    rw [HL.out.2.2.1] at cN
    dsimp only at cN
    go_wp2_with fail
    with_reducible refine cN.mono ?_
    rintro e w8 ⟨o8, lv, rfl, hlv, hw8, hf8⟩
    obtain ⟨A8, c8, rfl⟩ := own_form hlv
    have hP8 := hP7.went hw8
    have hW8 := hW2.go hw8.moves
    have hR8 := hR7.go hw8.moves
    have hs8 := hs7.after hne hf8
    rw [HL.out.2.1] at hs8
    obtain ⟨b8, hb8⟩ := qptr_some hP8.at_
    rw [hb8]
    have HB8 := Lib.hid hb8
    clear cN hlv hw8 hf8 hne hs7 hW2 hR7 hP7 hb8
    have cE := entries_any hs8 (by show WL.length ≤ 1000; omega)
    rw [HCB.out] at cE
    dsimp only at cE
    go_wp2_with fail
    with_reducible refine cE.mono ?_
    rintro e w9 ⟨V, rfl, hown, hb9⟩
    obtain ⟨-, A9, c9, rfl, hr9⟩ := rowE_own hown
    have hP9 := hP8.ext hb9
    have hs9 := hs8.below hb9
    have hW9 := hW8.below hb9
    have hR9 := hR8.below hb9
    clear cE hown hb9 hP8 hs8 hW8 hR8
    have cS := same_any (c1 := c9) (c2 := cW) hr9 hW9.1 (by omega) (by omega)
    rw [decide_eq_true rfl] at cS
    go_wp2_with fail
    with_reducible refine cS.mono ?_
    rintro e w10 ⟨rfl, hb10⟩
    have hP10 := hP9.ext hb10
    have hs10 := hs9.below hb10
    have hW10 := hW9.below hb10
    have hR10 := hR9.below hb10
    clear cS hb10 hP9 hs9 hW9 hR9 hr9
    have x2 := (HI.out.1 _ _ hR10.1).2
    have cK := knows_any ky hs10 (by show q.s.K.length ≤ 1000000; have := HL.out.2.2.2.2.2.most; omega)
    rw [HCB.out, knows_K (t := ⟨WL, q.s.K⟩) (s := q.s) rfl, HL.out.2.2.2.2.1] at cK
    have i0 : (0 : Int) ≤ (i : Int) := by omega
    go_wp2_with fail
    with_reducible refine cK.mono ?_
    rintro e w11 ⟨rfl, rfl⟩
    clear cK hs10
    have cE := play_entries hP10.at_
    rw [HB8.out, HL.out.2.2.2.1] at cE
    dsimp only at cE
    go_wp2_with fail
    with_reducible refine cE.mono ?_
    rintro e w12 ⟨V, rfl, hown, hb12⟩
    obtain ⟨-, A12, c12, rfl, hr12⟩ := rowE_own hown
    have hP12 := hP10.ext hb12
    have hW12 := hW10.below hb12
    have hR12 := hR10.below hb12
    clear cE hown hb12 hP10 hW10 hR10 x2
    have cS := same_any (c1 := c12) (c2 := cW) hr12 hW12.1 (by omega) (by omega)
    rw [decide_eq_true rfl] at cS
    go_wp2_with fail
    with_reducible refine cS.mono ?_
    rintro e w13 ⟨rfl, hb13⟩
    have hP13 := hP12.ext hb13
    have hR13 := hR12.below hb13
    clear cS hb13 hP12 hW12 hR12 hr12
    have x2 := (HI.out.1 _ _ hR13.1).2
    have cK := play_knows ky hP13.at_
    rw [HB8.out, HL.out.2.2.2.1, knows_K (t := ⟨WL, q.s.K⟩) (s := q.s) rfl, HL.out.2.2.2.2.1] at cK
    go_wp2_with fail
    with_reducible refine cK.mono ?_
    rintro e w14 ⟨rfl, rfl⟩
    have hfin := hP13.bel
    clear cK hP13 hR13 x2
    go_wp2_with fail
    go_ret
    exact ⟨rfl, hfin⟩

end Go.Proofs.YtmebjdbkngehiaaGreatDoor
