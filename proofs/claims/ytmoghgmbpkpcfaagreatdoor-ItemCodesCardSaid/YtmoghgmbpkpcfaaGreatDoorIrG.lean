/-
  Package postriderref04 (the document's answer for items): read, at lists. Conditions: as the theorems' own hypotheses say.
-/
import Derived.Test.YtmoghgmbpkpcfaaGreatDoorIrF
namespace Go.Proofs.YtmoghgmbpkpcfaaGreatDoor
open Go.RowKit Go.Shelf

/-- Where a list's reader stands. -/
structure LjI (f p : Nat) (s : ByteArray) (n c a : Nat) (w : World) (gx : Nat) (wr : World) (k : Nat) (v : Value) (ts : List TV) (c' a' : Nat) : Prop where
  len : ts.length = k
  kn : k ≤ n
  kc : k ≤ c'
  c60 : c' ≤ 60
  rd : RdF p s (c' : Int) w wr
  st : readL (readI s.data.toList f) n c a = (readL (readI s.data.toList f) (n - k) c' a').pre (TV.items ts)
  r0 : Blk wr w.heap.size 24 #[.int .i64 0, .int .i64 0, .string ⟨#[]⟩, .slice none 0 0]
  r1 : Blk wr gx 24 #[.int .i64 4, .int .i64 0, .string ⟨#[]⟩, v]
  own : wr.ownsRow (gx + 1) 24 4 v k (cellsT ts)
  tr : ∀ t ∈ ts, Tr f (gx + 1) v.ownBlock wr t
/-- The same, behind the call for one more. -/
structure LjM (f p : Nat) (s : ByteArray) (w : World) (gx : Nat) (W : World) (k : Nat) (v : Value) (ts : List TV) (c2 : Nat) (t' : TV) : Prop where
  rd : RdF p s (c2 : Int) w W
  r0 : Blk W w.heap.size 24 #[.int .i64 0, .int .i64 0, .string ⟨#[]⟩, .slice none 0 0]
  r1 : Blk W gx 24 #[.int .i64 4, .int .i64 0, .string ⟨#[]⟩, v]
  own : W.ownsRow (gx + 1) 24 4 v k (cellsT ts)
  tr : ∀ t ∈ ts, Tr f (gx + 1) v.ownBlock W t
  tn : Tr f (gx + 1) v.ownBlock W t'
theorem LjI.mid {f p n c a gx k c' a' c2 : Nat} {s : ByteArray} {w wr W : World} {v : Value} {ts : List TV} {t' : TV} (L : LjI f p s n c a w gx wr k v ts c' a') (hp : p < w.heap.size) (hg : w.heap.size < gx)
    (hr : RdF p s (c2 : Int) wr W) (q2 : ItAt W.heap.size W t') (q3 : Over wr.heap.size t') (q4 : Fits f t') : LjM f p s w gx W k v ts c2 t' := by
  have h1 := L.r1.lt
  refine ⟨L.rd.trans hr, L.r0.kept (hr.bes.block _ L.r0.lt (by omega)), L.r1.kept (hr.bes.block _ L.r1.lt (by omega)), own_besides L.own hr.bes (by omega), fun t ht => ?_, q2, ?_, q4⟩
  · exact (L.tr t ht).later hr.bes.size fun j hj hj2 hj3 => hr.bes.block j hj2 (by omega)
  · exact q3.off.imp q2 (fun j hj hj2 => ⟨by omega, own_hi L.own hj⟩)
/-- A round. -/
theorem LjM.step {f p k c0 cap1 gx c2 : Nat} {s : ByteArray} {w W w5 : World} {A0 A1 : Option Addr} {ts : List TV} {t' : TV} {o : Obj} (L : LjM f p s w gx W k (.slice A0 k c0) ts c2 t') (hp : p < w.heap.size) (hg : w.heap.size < gx)
    (hgrow : (W.alloc o).grownBy w5 (Value.slice A0 k c0).ownBlock) (hat : (Value.slice A1 (k + 1) cap1).ownBlock = (Value.slice A0 k c0).ownBlock ∨ (Value.slice A1 (k + 1) cap1).ownBlock = some (W.alloc o).heap.size)
    (hown5 : w5.ownsRow (gx + 1) 24 4 (.slice A1 (k + 1) cap1) (k + 1) (cellsT ts ++ [.int .i64 t'.kind, .int .i64 t'.num, .string t'.txt, .slice t'.at_ t'.kids.length t'.cap])) :
    RdF p s (c2 : Int) w (w5.setCell ⟨gx, 3, none⟩ (.slice A1 (k + 1) cap1)) ∧
    Blk (w5.setCell ⟨gx, 3, none⟩ (.slice A1 (k + 1) cap1)) w.heap.size 24 #[.int .i64 0, .int .i64 0, .string ⟨#[]⟩, .slice none 0 0] ∧
    Blk (w5.setCell ⟨gx, 3, none⟩ (.slice A1 (k + 1) cap1)) gx 24 #[.int .i64 4, .int .i64 0, .string ⟨#[]⟩, .slice A1 (k + 1) cap1] ∧
    (w5.setCell ⟨gx, 3, none⟩ (.slice A1 (k + 1) cap1)).ownsRow (gx + 1) 24 4 (.slice A1 (k + 1) cap1) (k + 1) (cellsT (ts ++ [t'])) ∧
    ∀ t ∈ ts ++ [t'], Tr f (gx + 1) (Value.slice A1 (k + 1) cap1).ownBlock (w5.setCell ⟨gx, 3, none⟩ (.slice A1 (k + 1) cap1)) t := by
  have hl1 := L.r1.lt
  have hl0 := L.r0.lt
  have own := L.own.alloc o
  have hsz : (W.alloc o).heap.size = W.heap.size + 1 := by simp
  have hold : ∀ x, Tr f (gx + 1) (Value.slice A0 k c0).ownBlock W x → Tr f (gx + 1) (Value.slice A1 (k + 1) cap1).ownBlock (w5.setCell ⟨gx, 3, none⟩ (.slice A1 (k + 1) cap1)) x := fun x hx => by
    refine ((hx.later (by simp) (fun j hj hj2 hj3 => Below.heap_alloc W o j hj2)).grow hgrow hat).later (by rw [World.size_setCell]; exact Nat.le_refl _) ?_
    intro j hj hj2 hj3
    rw [Below.heap_setCell _ _ _ _ (by simp; omega)]
  refine ⟨?_, ?_, ?_, ?_, ?_⟩
  · exact ((L.rd.ext (ext_new W o)).grown hgrow hp (fun j hj => own_lo own (by omega))).new_ hp (by omega) 3 _
  · exact ((L.r0.alloc o).kept (hgrow.block _ (by omega) (own_lo own (by omega)))).set_other (by omega) _ _
  · exact (((L.r1.alloc o).kept (hgrow.block _ (by omega) (own_lo own (by omega)))).set_ 3 _)
  · rw [cellsT_snoc]
    exact own_besides hown5 ((Besides.refl gx _).set_ 3 _) (by omega)
  · intro x hx
    rcases List.mem_append.1 hx with hx | hx
    · exact hold x (L.tr x hx)
    · rw [List.mem_singleton.1 hx]
      exact hold t' L.tn
theorem RtG.kept_cells {f p : Nat} {s : ByteArray} {r : RR} {t : TV} {a er : Int} {w w' : World} {g : Nat} {ty : TypeId} {cs : Array Value} (h : RtG f p s r t a er w w') (hB : Blk w g ty cs) (hg : g ≠ p) : Blk w' g ty cs := by
  cases r with
  | bad e =>
    obtain ⟨-, -, -, c, hc⟩ := h
    exact hB.kept (hc.bes.block _ hB.lt hg)
  | ok c a' x => exact hB.kept (h.2.2.2.1.bes.block _ hB.lt hg)

theorem LjM.alloc {f p gx k c2 : Nat} {s : ByteArray} {w W : World} {v : Value} {ts : List TV} {t' : TV} (L : LjM f p s w gx W k v ts c2 t') (o : Obj) : LjM f p s w gx (W.alloc o) k v ts c2 t' :=
  ⟨L.rd.ext (ext_new W o), L.r0.alloc o, L.r1.alloc o, L.own.alloc o, fun t ht => (L.tr t ht).later (by simp) (fun j hj hj2 hj3 => Below.heap_alloc W o j hj2), L.tn.later (by simp) (fun j hj hj2 hj3 => Below.heap_alloc W o j hj2)⟩
theorem decL_er {l : List UInt8} {e : Int} (h : decL l = .bad e) : e ≠ 0 := by
  cases l with
  | nil => rw [decL] at h; injection h with h; omega
  | cons b r =>
    rw [decL] at h
    repeat' split at h
    all_goals first
      | (injection h with h; omega)
      | cases h
theorem readL_er {rd : Nat → Nat → RR} (hrd : ∀ c a e, rd c a = .bad e → e ≠ 0) : ∀ k c a e, readL rd k c a = .bad e → e ≠ 0 := by
  intro k
  induction k with
  | zero => intro c a e h; rw [readL] at h; cases h
  | succ k ih =>
    intro c a e h
    rw [readL] at h
    cases h1 : rd c a with
    | bad e1 =>
      rw [h1] at h
      injection h with h
      rw [← h]
      exact hrd _ _ _ h1
    | ok c1 a1 x =>
      rw [h1] at h
      dsimp only at h
      cases h2 : readL rd k c1 a1 with
      | bad e2 =>
        rw [h2] at h
        injection h with h
        rw [← h]
        exact ih _ _ _ h2
      | ok c2 a2 l => rw [h2] at h; cases h
theorem readI_er (s : List UInt8) : ∀ f c a e, readI s f c a = .bad e → e ≠ 0 := by
  intro f
  induction f with
  | zero => intro c a e h; rw [readI] at h; injection h with h; omega
  | succ f ih =>
    intro c a e h
    rw [readI] at h
    split at h
    · injection h with h; omega
    · cases h1 : decL (s.drop a) with
      | bad e1 =>
        rw [h1] at h
        injection h with h
        rw [← h]
        exact decL_er h1
      | ok m n w =>
        rw [h1] at h
        dsimp only at h
        split at h
        · cases h
        · split at h
          · cases h2 : readL (readI s f) n (c + 1) (a + (1 + w)) with
            | bad e2 =>
              rw [h2] at h
              injection h with h
              rw [← h]
              exact readL_er ih _ _ _ _ h2
            | ok c2 a2 l => rw [h2] at h; cases h
          · split at h
            · injection h with h; omega
            · split at h
              · injection h with h; omega
              · split at h
                · injection h with h; omega
                · cases h

set_option maxRecDepth 100000 in
set_option maxHeartbeats 40000000 in
theorem rread_list {f p c : Nat} {s : ByteArray} {a D : Int} {w : World} (h : RdD w p s (c : Int)) (hs : s.size ≤ 9223372036854775807) (hc : c < 60) (hd : D ≤ 6) (hd0 : 0 ≤ D) {n a2 : Nat} (hD : decV s a = ((4, (n : Int), (a2 : Int)), 0)) (hn : n ≤ 281474976710655)
    (hCall : ∀ (c a : Nat) (D' : Int) W, D' = D + 1 → RdD W p s (c : Int) → c ≤ 60 → Calls Tryz.prog 25 #[.pointer (some ⟨p, 0, none⟩), .int .i64 (a : Int), .int .i64 D'] W (RtR f p s (readI s.data.toList f c a) W)) :
    Calls Tryz.prog 25 #[.pointer (some ⟨p, 0, none⟩), .int .i64 a, .int .i64 D] w (RtR (f + 1) p s ((readL (readI s.data.toList f) n (c + 1) a2).one 0) w) := by
  obtain ⟨i0, hi0, hzz⟩ := Option.map_eq_some_iff.1 infoIt
  have hz0 := congrArg Prod.fst hzz
  have hz1 := congrArg Prod.snd hzz
  dsimp only at hz0 hz1
  have hz2 : i0.bytes = 56 := by have := infoIt2; rw [hi0] at this; simpa using this
  have hp := h.lt
  have hA := h.alloc (.cells #[.int .i64 0, .int .i64 0, .string ⟨#[]⟩, .slice none 0 0] 24)
  obtain ⟨c0, c1, f0, f1⟩ := hA.c2
  have q0 := h.set_ 1 (.int .i64 ((c : Int) + 1))
  simp only [List.setIfInBounds_toArray, List.set_cons_succ, List.set_cons_zero] at q0
  have q := q0.alloc (.cells #[.int .i64 0, .int .i64 0, .string ⟨#[]⟩, .slice none 0 0] 24)
  have r0 : Blk ((w.setCell ⟨p, 1, none⟩ (.int .i64 ((c : Int) + 1))).alloc (.cells #[.int .i64 0, .int .i64 0, .string ⟨#[]⟩, .slice none 0 0] 24)) w.heap.size 24 #[.int .i64 0, .int .i64 0, .string ⟨#[]⟩, .slice none 0 0] := Blk.at_ (World.size_setCell _ _ _).symm
  have hR : RdF p s ((c : Int) + 1) w ((w.setCell ⟨p, 1, none⟩ (.int .i64 ((c : Int) + 1))).alloc (.cells #[.int .i64 0, .int .i64 0, .string ⟨#[]⟩, .slice none 0 0] 24)) := ⟨q, ((Besides.refl p w).set_ 1 _).trans (.of_below (ext_new _ _))⟩
  clear q0
  obtain ⟨d0, d1, -, -⟩ := q.c2
  obtain ⟨z0, z1, z2, z3, v0, v1, v2, v3⟩ := r0.c4
  have i1 : ¬ (60 : Int) < (c : Int) + 1 := by omega
  have i2 : ¬ 6 < D := by omega
  have hC := fun W => rDecode_any s a W hs
  rw [hD] at hC
  unfold decR at hC
  go_enter Tryz.func25, Tryz.ntmps25
  go_wp2_with fail
  refine (hC _).mono ?_
  rintro e w3 ⟨rfl, hb3⟩
  replace hR := hR.ext hb3
  have r3 := r0.below hb3
  clear c0 c1 f0 f1 d0 d1 z0 z1 z2 z3 v0 v1 v2 v3 r0 q hA hC
  have hp3 := r3.lt
  have hX := Blk.new_ w3 24 #[.int .i64 4, .int .i64 0, .string ⟨#[]⟩, .slice none 0 0]
  have hR4 := hR.ext (ext_new w3 (.cells #[.int .i64 4, .int .i64 0, .string ⟨#[]⟩, .slice none 0 0] 24))
  have r4 := r3.alloc (.cells #[.int .i64 4, .int .i64 0, .string ⟨#[]⟩, .slice none 0 0] 24)
  have hst : LjI f p s n (c + 1) a2 w w3.heap.size (w3.alloc (.cells #[.int .i64 4, .int .i64 0, .string ⟨#[]⟩, .slice none 0 0] 24)) 0 (.slice none 0 0) [] (c + 1) a2 := ⟨rfl, by omega, by omega, by omega, hR4, (pre_nil _).symm, r4, hX, own_nil, by simp⟩
  have HC := Lib.hid hCall
  clear hCall hX hR4 r4 hR r3
  go_wp2_with fail
  have hgw : w.heap.size < w3.heap.size := hp3
  generalize w3.heap.size = gx at *
  go_loopw [11, 14] (fun nx i wr => ∃ (k : Nat) (v : Value) (ts : List TV) (c' a' : Nat), i = .int .i64 (k : Int) ∧ nx = .int .i64 (a' : Int) ∧ LjI f p s n (c + 1) a2 w gx wr k v ts c' a') (fun _ i _ => n - (intOf i).toNat)
  case atStart => exact ⟨0, _, [], c + 1, a2, rfl, rfl, hst⟩
  case round =>
    obtain ⟨k, v, ts, c', a', rfl, rfl, L⟩ := hrel
    clear hst
    have hgx := L.r1.lt
    by_cases hlt : k < n
    · have j0 : (k : Int) < (n : Int) := by omega
      have hC1 := fun (D' : Int) (W : World) (e : D' = D + 1) (hW : RdD W p s (c' : Int)) => HC.out c' a' D' W e hW L.c60
      have hst := L.st
      obtain ⟨m, hm⟩ : ∃ m, n - k = m + 1 := ⟨n - k - 1, by omega⟩
      rw [hm] at hst
      have HST := Lib.hid hst
      have HM := Lib.hid hm
      clear hst hm
      rcases hrr : readI s.data.toList f c' a' with er | ⟨c2, b2, x⟩
      · have her := readI_er _ _ _ _ _ hrr
        have HRR := Lib.hid hrr
        rw [hrr] at hC1
        clear hrr
        rw [HST.out.trans (congrArg (RRs.pre _) (readL_bad HRR.out))]
        show Code.wp _ _ _ _ _
        have e0 : (er == 0) = false := beq_eq_false_iff_ne.2 her
        go_wp2_with fail
        refine (hC1 _ _ (by omega) L.rd.rd).mono ?_
        rintro e w5 ⟨t, A', er', rfl, rfl, rfl, rfl, c5, r5⟩
        have k0 := L.r0.kept (r5.bes.block _ L.r0.lt (by omega))
        have r6 := L.rd.trans r5
        have hgl := k0.lt
        have n1 : ¬ w.heap.size = w5.heap.size := by omega
        have n2 : ¬ w5.heap.size = w.heap.size := by omega
        obtain ⟨z0, z1, z2, z3, v0, v1, v2, v3⟩ := k0.c4
        go_wp2_with fail
        exact bodyPost_ret (v := _) (ret_item3 (pt := 6) (u := 7) (v := 8) (by kernel_rfl) rfl ((blk_set4 k0 _ _ _ _).alloc _)) rfl ⟨TV.mk 0 0 ByteArray.empty none 0 [], 0, er', rfl, rfl, rfl, rfl, c5, (r6.new4 hp (Nat.le_refl _) _ _ _ _).ext (ext_new _ _)⟩
      · have HRR := Lib.hid hrr
        rw [hrr] at hC1
        clear hrr
        have HST2 := Lib.hid (HST.out.trans (congrArg (RRs.pre _) (readL_one HRR.out)))
        clear HST
        obtain ⟨q1, q2, -⟩ := readI_sound _ _ _ _ _ _ _ HRR.out
        have q3 := x.size_pos
        go_wp2_with fail
        refine (hC1 _ _ (by omega) L.rd.rd).mono ?_
        rintro e w5 ⟨t, A', er', rfl, rfl, rfl, hx, r5, hIt, hOv, hFit⟩
        have HXX := Lib.hid hx
        clear hx
        have M := L.mid hp hgw r5 hIt hOv hFit
        have M2 := M.alloc (.cells #[.int .i64 t.kind, .int .i64 t.num, .string t.txt, .slice t.at_ t.kids.length t.cap] 24)
        obtain ⟨A0, cp, rfl⟩ := own_form L.own
        have hgl := M.r1.lt
        have n1 : ¬ gx = w5.heap.size := by omega
        have n2 : ¬ w5.heap.size = gx := by omega
        obtain ⟨z0, z1, z2, z3, v0, v1, v2, v3⟩ := M.r1.c4
        have own5 := M2.own.alloc (.cells #[.int .i64 t.kind, .int .i64 t.num, .string t.txt, .slice t.at_ t.kids.length t.cap] 24)
        have kk := M2.r1.alloc (.cells #[.int .i64 t.kind, .int .i64 t.num, .string t.txt, .slice t.at_ t.kids.length t.cap] 24)
        have h60 : k ≤ 60 := Nat.le_trans L.kc L.c60
        go_wp2_with (at_builtin; refine wpList_append_own_at _ rfl _ _ 22 rfl (gx + 1) 24 i0 (.agg #[.int .i64 0, .int .i64 0, .string ByteArray.empty, .slice none 0 0]) 4 56 Tryz.underlying22 hi0 hz0 hz1 hz2 rfl (by omega) _ _ _ rfl own5 ⟨w5.heap.size + 1, 0, none⟩ 1 1 [.int .i64 t.kind, .int .i64 t.num, .string t.txt, .slice t.at_ t.kids.length t.cap] rfl rfl (fun j u hj => by have := new_cells (w5.alloc (.cells #[.int .i64 t.kind, .int .i64 t.num, .string t.txt, .slice t.at_ t.kids.length t.cap] 24)) [.int .i64 t.kind, .int .i64 t.num, .string t.txt, .slice t.at_ t.kids.length t.cap] 24 j u hj; rw [World.size_alloc] at this; exact this) (by intro u hu; simp only [List.mem_cons, List.not_mem_nil, or_false] at hu; obtain rfl | rfl | rfl | rfl := hu <;> rfl) (by unfold maxLen; omega) (by omega) (by simp; omega) ?_; intro v' w6 own6 hgrow _ hat; obtain ⟨A1, cp1, rfl⟩ := own_form own6; have k6 := kk.kept (hgrow.block _ kk.lt (own_lo own5 (by omega))); obtain ⟨y0, y1, y2, y3, yy0, yy1, yy2, yy3⟩ := k6.c4)
        go_roundw
        case rel =>
          have S := M2.step hp hgw hgrow hat own6
          have hkc := L.kc
          have hm := HM.out
          exact ⟨k + 1, _, ts ++ [t], c2, b2, by go_num, rfl, by rw [List.length_append, L.len]; rfl, by omega, by omega, q2, S.1, by rw [HST2.out, pre_pre, items_snoc, HXX.out, show n - (k + 1) = m by omega], S.2.1, S.2.2.1, S.2.2.2.1, S.2.2.2.2⟩
        case measure => simp [intOf]; omega
    · obtain rfl : k = n := Nat.le_antisymm L.kn (by omega)
      have j0 : ¬ ((k : Int) < (k : Int)) := by omega
      have hst := L.st
      rw [Nat.sub_self] at hst
      have hst2 : readL (readI s.data.toList f) k (c + 1) a2 = .ok c' a' (TV.items ts) := by rw [hst]; show RRs.ok c' a' (TV.items ts ++ []) = _; rw [List.append_nil]
      have HZ := Lib.hid hst2
      clear hst hst2
      obtain ⟨A0, cp, rfl⟩ := own_form L.own
      obtain ⟨z0, z1, z2, z3, v0, v1, v2, v3⟩ := L.r0.c4
      obtain ⟨y0, y1, y2, y3, yy0, yy1, yy2, yy3⟩ := L.r1.c4
      have hlen := L.len
      have hkc := L.kc
      have h60 := L.c60
      show Code.wp _ _ _ _ _
      go_wp2_with fail
      refine bodyPost_ret (v := _) (ret_item3 (pt := 6) (u := 7) (v := 8) (by kernel_rfl) rfl (blk_set4 L.r0 _ _ _ _)) rfl ?_
      rw [HZ.out]
      refine ⟨TV.mk 4 0 ByteArray.empty A0 cp ts, (a' : Int), 0, ?_, rfl, rfl, rfl, L.rd.new4 hp (Nat.le_refl _) _ _ _ _, ?_, ?_, ?_⟩
      · show _ = Ending.returned (.tuple #[.agg #[.int .i64 4, .int .i64 0, .string ByteArray.empty, .slice A0 ts.length cp], .int .i64 (a' : Int), .int .i64 0])
        rw [hlen]
        rfl
      · have hown := own_besides (g0 := w.heap.size) L.own (((((Besides.refl w.heap.size wr).set_ 0 (.int .i64 4)).set_ 1 (.int .i64 0)).set_ 2 (.string ⟨#[]⟩)).set_ 3 (.slice A0 k cp)) (by omega)
        obtain ⟨-, A', c9, e9, hr⟩ := rowT_own hown
        injection e9 with e9
        rw [← e9] at hr
        refine .mk hr fun u hu => (L.tr u hu).at_.keptQ (L.tr u hu).off (fun j hj hj2 => ?_) (by simp)
        rw [Below.heap_setCell _ _ _ _ (by simp; omega), Below.heap_setCell _ _ _ _ (by simp; omega), Below.heap_setCell _ _ _ _ (by simp; omega), Below.heap_setCell _ _ _ _ (by simp; omega)]
      · refine .mk (fun ad e _ => ?_) fun u hu => (L.tr u hu).off.over fun j hj => by omega
        rw [e] at L
        exact Nat.le_of_not_lt fun hlt => own_lo L.own (k := ad.block) (by omega) rfl
      · exact .mk (by omega) (by simp) fun u hu => (L.tr u hu).fit
end Go.Proofs.YtmoghgmbpkpcfaaGreatDoor
