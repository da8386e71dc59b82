/-
  QueueFinds. Conditions: the program's variables hold what GInv says.
-/
import Derived.Test.YtmebjdbkngehiaaGreatDoorQhQ
import Derived.Test.YtmebjdbkngehiaaGreatDoorQhJ
import Derived.Test.YtmebjdbkngehiaaGreatDoorQhH
namespace Go.Proofs.YtmebjdbkngehiaaGreatDoor
open Go.RowKit Go.Shelf

theorem any_take {l : List EI} {id : Int} {k : Nat} (h : k < l.length) : (l.take (k + 1)).any (fun e => decide (e.id = id)) = ((l.take k).any (fun e => decide (e.id = id)) || decide (l[k].id = id)) := by
  rw [List.take_succ_eq_append_getElem h, List.any_append, List.any_cons, List.any_nil, Bool.or_false]
theorem finds_is {s : SN} {id : Int} : (s.find id).2 = (s.L.take s.L.length).any (fun e => decide (e.id = id)) := by
  rw [List.take_length]
  by_cases h : (s.find id).2 = true
  · rw [h]
    symm
    rw [List.any_eq_true]
    unfold SN.find at h
    cases hp : s.place id with
    | none => rw [hp] at h; cases h
    | some i =>
      obtain ⟨hi, he, -⟩ := placeL_some hp
      exact ⟨s.L[i], List.getElem_mem hi, decide_eq_true he⟩
  · have h := Bool.eq_false_iff.2 h
    rw [h]
    symm
    rw [List.any_eq_false]
    intro e he
    have := (finds_no h).1 e he
    simpa using this

set_option maxRecDepth 100000 in
set_option maxHeartbeats 8000000 in
theorem law_finds {w : World} {aA aT aN aW aS : Addr} (hI : GInv w aA aT aN aW aS) (s : Int) (A : Option Addr) (n c : Nat) (xs : List QO) (ha : ArgL w A n xs) (id : Int) : Calls Tryz.prog 4 #[.int .i64 s, .slice A n c, .int .i64 id] w (Ret (.bool true) w) := by
  have cS := shown_any hI
  have HA := Lib.hid ha
  clear ha
  go_enter Tryz.func4, Tryz.ntmps4
  go_wp2_with fail
  with_reducible refine cS.mono ?_
  rintro e w1 ⟨rfl, hb1⟩
  have cM := Made_any (hI.below hb1) s A n c xs (HA.out.below hb1)
  clear cS HA
  go_wp2_with fail
  with_reducible refine cM.mono ?_
  intro e w2 hM
  clear cM
  obtain ⟨a, b, rfl, hb2, -⟩ | ⟨p, g, o, q, b, rfl, hb, hP, ⟨m, rfl, hM, hm, -⟩, hn⟩ := hM
  · have hfin := ext_trans hb1 hb2
    clear hb1 hb2
    go_wp2_with fail
    go_ret
    exact ⟨rfl, hfin⟩
  have hP2 := hP.back hb1
  have HB := Lib.hid hb
  have hok := hM.qg.qi.ok
  have hrm := hM.qg.rm
  have cE := play_entries hP2.at_
  rw [hb] at cE
  clear hP hb1 hb hM hm hn
  go_wp2_with fail
  with_reducible refine cE.mono ?_
  rintro e w3 ⟨V, rfl, hown, hb3⟩
  obtain ⟨-, A3, c3, rfl, hrow⟩ := rowE_own hown
  have hP3 := hP2.ext hb3
  clear cE hown hb3 hP2
  have cF := play_find id hP3.at_
  rw [HB.out] at cF
  have hA3 := finds_is (s := q.s) (id := id)
  have hA4 := fun h => (finds_no (s := q.s) (id := id) h).2
  have hA5 := fun (i : Nat) (hi : i < q.s.L.length) (he : q.s.L[i].id = id) => (show q.s.L[i] = (q.s.find id).1 by rw [← he, find_at hok hi])
  have HK := Lib.hid (show (∀ (i : Nat) (hi : i < q.s.L.length), q.s.knows q.s.L[i].key = true) ∧ (∀ (i : Nat) (hi : i + 1 < q.s.L.length), q.s.L[i].id < q.s.L[i + 1].id) ∧ (∀ (i k : Nat) (hi : i < q.s.K.length) (hk : k < i), q.s.K[i].text ≠ q.s.K[k].text) from ⟨fun i hi => finds_key hok hi, fun i hi => finds_rise hok hrm (by omega) hi, fun i k hi hk => finds_keys hok hi hk⟩)
  have hl1 : q.s.L.length ≤ 60 := hok.len
  have hl2 : q.s.K.length ≤ 60 := hok.most
  have hl3 : q.s.L.length ≤ q.s.K.length := by
    have := hok.sub.length_le
    rwa [List.length_map] at this
  obtain ⟨⟨⟨fi, fs, fk, fd, fu, fc, ft⟩, fb⟩, hf⟩ : ∃ f, q.s.find id = f := ⟨_, rfl⟩
  rw [hf] at cF hA3 hA4
  simp only [hf] at hA5
  dsimp only at cF hA3 hA4 hA5
  unfold EI.val at cF
  dsimp only at cF
  have HA3 := Lib.hid hA3
  have HA4 := Lib.hid hA4
  have HA5 := Lib.hid hA5
  clear hf hA3 hA4 hA5 hok hrm
  go_wp2_with fail
  with_reducible refine cF.mono ?_
  rintro e w4 ⟨rfl, hb4⟩
  have hP4 := hP3.ext hb4
  have hrow4 := hrow.below hb4
  have hE := ext_new w4 (.cells #[.int .i64 fi, .int .i64 fs, .string fk, .string fd, .int .i64 fu, .bool fc, .bool ft] 23)
  have hX := Blk.new_ w4 23 #[.int .i64 fi, .int .i64 fs, .string fk, .string fd, .int .i64 fu, .bool fc, .bool ft]
  have hP5 := hP4.ext hE
  have hrow5 := hrow4.below hE
  obtain ⟨W5, hW5⟩ : ∃ W5, w4.alloc (.cells #[.int .i64 fi, .int .i64 fs, .string fk, .string fd, .int .i64 fu, .bool fc, .bool ft] 23) = W5 := ⟨_, rfl⟩
  rw [hW5] at hX hP5 hrow5
  obtain ⟨xb, hxb⟩ : ∃ xb, w4.heap.size = xb := ⟨_, rfl⟩
  rw [hxb] at hX
  have HV := Lib.hid (And.intro hW5 hxb)
  have HP5 := Lib.hid hP5
  have HR5 := Lib.hid hrow5
  have HX5 := Lib.hid hX
  clear cF hb4 hP3 hrow hP4 hrow4 hE hW5 hxb hP5 hrow5 hX
  go_wp2_with fail
  rw [HV.out.1, HV.out.2]
  obtain ⟨N, hN⟩ : ∃ N, q.s.L.length = N := ⟨_, rfl⟩
  have HN := Lib.hid hN
  rw [hN] at hl1 hl3 ⊢
  clear hN
  go_loopw [15, 14] (fun i v wr => ∃ k : Nat, k ≤ N ∧ i = .int .i64 (k : Int) ∧ v = .bool ((q.s.L.take k).any fun e => decide (e.id = id)) ∧ Below W5.heap.size W5 wr) (fun i _ _ => N - (intOf i).toNat)
  case atStart => exact ⟨0, Nat.zero_le _, rfl, rfl, ext_refl _⟩
  case round =>
    obtain ⟨k, hk, rfl, rfl, hb⟩ := hrel
    by_cases hlt : k < N
    · have hP := HP5.out.ext hb
      have hR := HR5.out.below hb
      have hX := HX5.out.below hb
      have kl : k < q.s.L.length := by rw [HN.out]; exact hlt
      obtain ⟨r, rfl, hr, hc⟩ := hR (by omega)
      obtain ⟨x0, x1, x2, x3, x4, x5, x6⟩ := hc k kl
      have hkn := HK.out.1 k kl
      have hx5 := HA5.out k kl
      have hat := any_take (id := id) kl
      have hprev : ∀ j, (e : k = j + 1) → wr.cell? ⟨r, j * 7, none⟩ = some (.int .i64 (q.s.L[j]'(by omega)).id) ∧ ¬ (q.s.L[k]'kl).id ≤ (q.s.L[j]'(by omega)).id := fun j e => ⟨(hc j (by omega)).1, by subst e; have := HK.out.2.1 j kl; omega⟩
      obtain ⟨y, hy⟩ : ∃ y, q.s.L[k]'kl = y := ⟨_, rfl⟩
      rw [hy] at x0 x1 x2 x3 x4 x5 x6 hkn hx5 hat
      simp only [hy] at hprev
      obtain ⟨y0, y1, y2, y3, y4, y5, y6⟩ := y
      dsimp only at x0 x1 x2 x3 x4 x5 x6 hkn hx5 hat hprev
      have hKn : ∀ n, Calls Tryz.prog 30 #[.pointer (some ⟨b, 0, none⟩), .string y2] (wr.drewN n) (Pure (.bool true) (wr.drewN n)) := fun n => by
        have h := play_knows y2 (hP.ext (below_drewN' (ext_refl wr) n)).at_
        rw [HB.out, hkn] at h
        exact h
      obtain ⟨v, hv⟩ : ∃ v, ((q.s.L.take k).any fun e => decide (e.id = id)) = v := ⟨_, rfl⟩
      rw [hv] at hat ⊢
      have HAT := Lib.hid hat
      have HX := Lib.hid hx5
      have HBB := Lib.hid hb
      have HPV := Lib.hid hprev
      obtain ⟨z0, z1, z2, z3, z4, z5, z6⟩ := hX.c7.1
      have i0 : (0 : Int) ≤ (k : Int) := by omega
      have i1 : (k : Int) < (N : Int) := by omega
      clear hP hR hX hc hkn hx5 hat hprev hy hb hv hr
      by_cases h0 : k = 0
      · subst h0
        simp only [Nat.zero_mul, Nat.zero_add] at x0 x1 x2 x3 x4 x5 x6
        by_cases hid : y0 = id
        · have heq := fun W => ent_eql_run ⟨y0, y1, y2, y3, y4, y5, y6⟩ ⟨fi, fs, fk, fd, fu, fc, ft⟩ W
          simp only [same_dec, decide_eq_true (HX.out hid)] at heq
          unfold EI.val at heq
          dsimp only at heq
          have HH := Lib.hid (HAT.out.trans (by rw [decide_eq_true hid, Bool.or_true]))
          have hid2 : (y0 == id) = true := by simp [hid]
          clear HX HAT hid
          go_wp2_with fail
          go_quiet ((go_at_call 30; exact quiet_pure (hKn _)))
          go_wp2_with fail
          go_quiet (fail)
          go_wp2_with fail
          go_roundw
          · exact ⟨0 + 1, by omega, by go_num, by rw [HH.out], below_drewN' HBB.out _⟩
          · simp [intOf]; omega
        · have HH := Lib.hid (HAT.out.trans (by rw [decide_eq_false hid, Bool.or_false]))
          have hid2 : (y0 == id) = false := by simp [hid]
          clear HX HAT hid
          go_wp2_with fail
          go_quiet ((go_at_call 30; exact quiet_pure (hKn _)))
          go_wp2_with fail
          go_roundw
          · exact ⟨0 + 1, by omega, by go_num, by rw [HH.out], below_drewN' HBB.out _⟩
          · simp [intOf]; omega
      · obtain ⟨j, rfl⟩ : ∃ j, k = j + 1 := ⟨k - 1, by omega⟩
        obtain ⟨p0, p1⟩ := HPV.out j rfl
        obtain ⟨u, hu⟩ : ∃ u, (q.s.L[j]'(by omega)).id = u := ⟨_, rfl⟩
        rw [hu] at p0 p1
        have j0 : (0 : Int) ≤ (j : Int) := by omega
        have j1 : (j : Int) < (N : Int) := by omega
        have j2 : ((j + 1 : Nat) : Int) > 0 := by omega
        have j4 : (0 : Int) ≤ (j : Int) + 1 := by omega
        have j5 : (j : Int) + 1 < (N : Int) := by omega
        have j6 : (0 : Int) < (j : Int) + 1 := by omega
        have j7 : IntKind.i64.wrap ((j : Int) + 1 - 1) = (j : Int) := by rw [IntWalk.i64_in _ (by omega)]; omega
        have j8 : IntKind.i64.wrap (j : Int) = (j : Int) := by rw [IntWalk.i64_in _ (by omega)]
        have j9 : j < N := by omega
        have j3 : IntKind.i64.wrap (((j + 1 : Nat) : Int) - 1) = (j : Int) := by rw [IntWalk.i64_in _ (by omega)]; omega
        clear hu HPV h0
        by_cases hid : y0 = id
        · have heq := fun W => ent_eql_run ⟨y0, y1, y2, y3, y4, y5, y6⟩ ⟨fi, fs, fk, fd, fu, fc, ft⟩ W
          simp only [same_dec, decide_eq_true (HX.out hid)] at heq
          unfold EI.val at heq
          dsimp only at heq
          have HH := Lib.hid (HAT.out.trans (by rw [decide_eq_true hid, Bool.or_true]))
          have hid2 : (y0 == id) = true := by simp [hid]
          clear HX HAT hid
          go_wp2_with fail
          go_quiet ((go_at_call 30; exact quiet_pure (hKn _)))
          go_wp2_with fail
          go_quiet (fail)
          go_wp2_with fail
          go_roundw
          · exact ⟨(j + 1) + 1, by omega, by go_num, by rw [HH.out], below_drewN' HBB.out _⟩
          · simp [intOf]; omega
        · have HH := Lib.hid (HAT.out.trans (by rw [decide_eq_false hid, Bool.or_false]))
          have hid2 : (y0 == id) = false := by simp [hid]
          clear HX HAT hid
          go_wp2_with fail
          go_quiet ((go_at_call 30; exact quiet_pure (hKn _)))
          go_wp2_with fail
          go_roundw
          · exact ⟨(j + 1) + 1, by omega, by go_num, by rw [HH.out], below_drewN' HBB.out _⟩
          · simp [intOf]; omega
    · have hk2 : k = N := by omega
      have hP := HP5.out.ext hb
      have hX := HX5.out.below hb
      have cK := play_keys hP.at_
      rw [HB.out] at cK
      rw [show ((q.s.L.take k).any fun e => decide (e.id = id)) = fb by rw [hk2, ← HN.out]; exact HA3.out.symm]
      have i1 : ¬ (k : Int) < (N : Int) := by omega
      clear hk hk2 hlt
      go_wp2_with fail
      clear i1
      with_reducible refine cK.mono ?_
      rintro e w7 ⟨V, rfl, hown, hb7⟩
      obtain ⟨A7, c7, rfl, hr7⟩ := row_own hown
      have hfin7 := (hP.ext hb7).bel
      have HR7 := Lib.hid hr7
      have HX7 := Lib.hid (hX.below hb7)
      obtain ⟨M, hM⟩ : ∃ M, q.s.K.length = M := ⟨_, rfl⟩
      have HM := Lib.hid hM
      rw [hM] at hl2 hl3 ⊢
      have HF := Lib.hid hfin7
      clear hM hP hX cK hown hb7 hr7 hb hfin7
      go_wp2_with fail
      go_loopw [17] (fun i wr => ∃ k : Nat, k ≤ M ∧ i = .int .i64 (k : Int) ∧ Below w7.heap.size w7 wr) (fun i _ => M - (intOf i).toNat)
      case atStart => exact ⟨0, Nat.zero_le _, rfl, ext_refl _⟩
      case round =>
        obtain ⟨k, hk, rfl, hb⟩ := hrel
        by_cases hlt : k < M
        · have i1 : (k : Int) < (M : Int) := by omega
          have i0 : (0 : Int) ≤ (k : Int) := by omega
          go_wp2_with fail
          go_loopw [18] (fun i wr => ∃ j : Nat, j ≤ k ∧ i = .int .i64 (j : Int) ∧ Below w7.heap.size w7 wr) (fun i _ => k - (intOf i).toNat)
          case atStart => exact ⟨0, Nat.zero_le _, rfl, hb⟩
          case round =>
            obtain ⟨j, hj, rfl, hb3⟩ := hrel
            by_cases hjk : j < k
            · have htl : (txtsOf q.s.K).length = M := by rw [← HM.out]; simp [txtsOf]
              obtain ⟨r, rfl, hr, hc⟩ := HR7.out (by rw [List.length_map, htl]; omega)
              have x0 := (hb3.cell (p := ⟨r, k, none⟩) hr).trans (hc k (by rw [List.length_map, htl]; omega))
              have y0 := (hb3.cell (p := ⟨r, j, none⟩) hr).trans (hc j (by rw [List.length_map, htl]; omega))
              rw [List.getElem_map] at x0 y0
              have hne : (txtsOf q.s.K)[k]'(by omega) ≠ (txtsOf q.s.K)[j]'(by omega) := by
                have h := HK.out.2.2 k j (by rw [HM.out]; omega) hjk
                simpa [txtsOf] using h
              obtain ⟨x, hx⟩ : ∃ x, (txtsOf q.s.K)[k]'(by omega) = x := ⟨_, rfl⟩
              obtain ⟨y, hy⟩ : ∃ y, (txtsOf q.s.K)[j]'(by omega) = y := ⟨_, rfl⟩
              rw [hx] at x0 hne
              rw [hy] at y0 hne
              have hbb : (x.toList == y.toList) = false := by rw [str_eqb]; exact decide_eq_false hne
              have hbn : (x.toList != y.toList) = true := by rw [bne, hbb]; rfl
              have j0 : (0 : Int) ≤ (j : Int) := by omega
              have j1 : (j : Int) < (M : Int) := by omega
              have j2 : (j : Int) < (k : Int) := by omega
              have HB3 := Lib.hid hb3
              clear hc hr hb3 hx hy hne htl
              go_wp2_with fail
              go_quiet (fail)
              go_wp2_with fail
              go_roundw
              · exact ⟨j + 1, by omega, by go_num, below_drewN' HB3.out _⟩
              · simp [intOf]; omega
            · have j2 : ¬ (j : Int) < (k : Int) := by omega
              go_wp2_with fail
              go_roundw
              · exact ⟨k + 1, by omega, by go_num, hb3⟩
              · simp [intOf]; omega
        · have i1 : ¬ (k : Int) < (M : Int) := by omega
          have hX := HX7.out.below hb
          obtain ⟨z0, z1, z2, z3, z4, z5, z6⟩ := hX.c7.1
          have hfin := ext_trans HF.out hb
          have g1 : (N : Int) ≤ (M : Int) := by omega
          have g2 : (M : Int) ≤ 60 := by omega
          clear hX hb
          cases fb
          · have hn := HA4.out rfl
            simp only [EI.nil, EI.mk.injEq] at hn
            obtain ⟨rfl, rfl, rfl, rfl, rfl, rfl, rfl⟩ := hn
            have heq := fun W => ent_eql_run EI.nil EI.nil W
            simp only [same_dec] at heq
            unfold EI.val at heq
            simp only [EI.nil] at heq
            go_wp2_with fail
            go_ret
            exact ⟨rfl, hfin⟩
          · go_wp2_with fail
            go_ret
            exact ⟨rfl, hfin⟩

end Go.Proofs.YtmebjdbkngehiaaGreatDoor
