/-
  A record logged, in memory (log), and more of the kind. Conditions: as the theorems' own hypotheses say.
-/
import Derived.Test.YtmebjdbkngehiaaGreatDoorQhH
import Derived.Test.YtmebjdbkngehiaaGreatDoorQhF
import Derived.Test.YtmebjdbkngehiaaGreatDoorQhE
import Derived.Test.YtmebjdbkngehiaaGreatDoorQhB
namespace Go.Proofs.YtmebjdbkngehiaaGreatDoor
open Go.RowKit Go.Shelf
set_option maxHeartbeats 40000000
variable {w w' w7 W W' : World} {c : QC} {v : QV} {p g e base n size k b : Nat} {q q0 : QN} {s' : SN} {cs : Array Value} {T : TypeId} {aA aT aN aW aS : Addr} {d : DN} {V lv : Value} {xs : List Value} {L0 ls : List EI}
def errQ (x : Int) : Value := if x = 0 then .nilIface else QWrV x
theorem QAt.told (h : QAt w c v p g q) (hS : SWent w c v s' w') : QWent w c v p g { q with s := s' } w' := by
 obtain ⟨v', h1, h2, h3⟩ := hS
 have np : ∀ {k : Nat} {T : TypeId} {cs : Array Value}, Blk w k T cs → T ≠ 112 ∧ T ≠ 3 ∧ T ≠ 9 ∧ T ≠ 23 → ¬ QF c v k := fun hB hT => by
  rintro (e | e | e | e)
  ·exact blk_ne hB h.st.blk hT.1 e
  ·exact own_type h.st.ids hB hT.2.1 e
  ·exact own_type h.st.txt hB hT.2.2.1 e
  ·exact own_type h.st.ent hB hT.2.2.2 e
 have kp := h2.block p h.disk.disk.lt (np h.disk.disk ⟨by decide, by decide, by decide, by decide⟩)
 have kg := h2.block g h.disk.secs.lt (np h.disk.secs ⟨by decide, by decide, by decide, by decide⟩)
 refine ⟨c, v', rfl, ⟨h1, ⟨h.cells.x3, h.cells.x4, h.cells.x5, h.cells.x6⟩, ⟨h.disk.disk.kept kp, h.disk.secs.kept kg, h.disk.ne, h.disk.fit, h.disk.len, h.disk.left, h.disk.n⟩, h.pos⟩, h2.mono fun k hk => .inl hk, ?_⟩
 rintro k (hk | hk | hk)
 ·exact (h3 k hk).imp .inl id
 ·exact .inl (.inr (.inl hk))
 ·exact .inl (.inr (.inr hk))
theorem log_end {wq w6 : World} {c0 c6 : QC} {v0 : QV} {q6 : QN} (hc : c0.b = c.b) (F0 : Foot (QF2 c v p g) w wq) (Q0 : ∀ k, QF2 c0 v0 p g k → QF2 c v p g k ∨ w.heap.size ≤ k) (hc6 : c6.b = c.b)
  (hf6 : Foot (QF2 c0 v0 p g) wq w6) (h6 : QAt w6 c6 v0 p g q6) (hlt : ∀ k, QF2 c0 v0 p g k → k < e) (hR : Blk w6 e T cs) (hS : SWent w6 c6 v0 s' w7) :
  Blk w7 e T cs ∧ QWent w c v p g { q6 with s := s' } w7 := by
 have hT := h6.told hS
 have hlt6 : ∀ k, QF2 c6 v0 p g k → QF2 c0 v0 p g k := fun k hk => (qf_b (hc6.trans hc.symm) v0 p g k).1 hk
 refine ⟨?_, QWent.trans (c1 := c6) hc6 (F0.trans hf6 Q0) (fun k hk => Q0 k (hlt6 k hk)) hT⟩
 obtain ⟨c', v', -, -, h2, -⟩ := hT
 exact hR.kept (h2.block e hR.lt fun q => by have := hlt e (hlt6 e q); omega)
set_option maxRecDepth 100000 in
theorem log_any (r : RI) (h : QAt w c v p g q) (hG : Glb (QF2 c v p g) aA aT aN aW aS w) (hW : QW q) (hu : q.down = false) (hr : r.ok = true) (hn : q.d.n + 600 ≤ 1000000) :
  Calls Tryz.prog 64 #[.pointer (some ⟨c.b, 0, none⟩), r.val] w fun ev w' => ev = .returned (errQ (q.log r).2) ∧ ∃ q', QN.Like q' (q.log r).1 ∧ QWent w c v p g q' w' := by
 obtain ⟨e, he⟩ : ∃ e, w.heap.size = e := ⟨_, rfl⟩
 have hb0 := ext_new w (.cells #[.int .i64 r.op, .int .i64 r.id, .string r.d] 128)
 have hR := Blk.new_ w 128 #[.int .i64 r.op, .int .i64 r.id, .string r.d]
 have hE := fun W (k : Below w.heap.size w W) => Encode_any r.op r.id r.d W aA aT aN aW aS (hG.here.below k).c
 rw [encV, if_pos (show rightV r.op r.id r.d = true from hr), show (⟨r.op.toNat, r.id.toNat, r.d.data.toList⟩ : RecN) = r.n from rfl] at hE
 have hE1 := hE _ hb0
 unfold recV at hE1
 have hlt : ∀ k, QF2 c v p g k → k < e := fun k hk => by rw [← he]; exact h.lt hk
 have hFL : (frameL r.n).length = 14 + r.d.size := by rw [frameL_length, ← list_size]; rfl
 obtain ⟨m, hm⟩ : ∃ m, 14 + r.d.size = m := ⟨_, rfl⟩
 have hFs : (⟨(frameL r.n).toArray⟩ : ByteArray).size = m := by rw [list_size2, hFL, hm]
 rw [hm] at hFL
 have hrz : r.d.size ≤ 1000000 := by have := (rightV_iff.1 (show rightV r.op r.id r.d = true from hr)).2.2.2; omega
 have HFL := Lib.hid hFL
 have HM := Lib.hid hm
 have HRZ := Lib.hid hrz
 have hm2 : m ≤ 2014 := by have := (rightV_iff.1 (show rightV r.op r.id r.d = true from hr)).2.2.2; omega
 rw [he] at hR
 unfold RI.val
 obtain ⟨g0, g1, g2, -⟩ := hR.c3
 clear hE
 go_enter Tryz.func64, Tryz.ntmps64
 go_wp2_with fail
 with_reducible refine hE1.mono ?_
 rintro ev w1 ⟨rfl, hb1⟩
 have hb01 := ext_trans hb0 hb1
 have h1 := h.below hb01
 have hR1 := hR.below hb1
 have x4 := h1.blk.c7.1.2.2.2.2.1
 have x6 := h1.blk.c7.1.2.2.2.2.2.2
 rw [hu] at x6
 have hSz := fun k => size_any (h1.below (below_drewN' (Below.refl w1.heap.size w1) k))
 have hsz : szN q.d.L.length = q.sz := rfl
 rw [hsz] at hSz
 have hzl : q.sz ≤ 16384 := by rw [← hsz]; have := h.disk.len; unfold szN; omega
 have htl : q.tail ≤ q.sz := hW.tail hu
 clear hE1 hb0 hb1
 go_wp2_with fail
 go_quiet ((go_at_call 95; exact quiet_pure (hSz _)))
 have hbq := below_drewN' (Below.refl w1.heap.size w1) nq
 have hF0 := Foot.of_below (F := QF2 c v p g) (ext_trans hb01 hbq)
 have hQ := h1.below hbq
 have hRB := hR1.below hbq
 have hGq := hG.foot hF0
 have hsq : w1.heap.size = (w1.drewN nq).heap.size := rfl
 obtain ⟨wq, hwq⟩ : ∃ wq, w1.drewN nq = wq := ⟨_, rfl⟩
 rw [hwq] at hF0 hQ hRB hGq ⊢
 have HRB := Lib.hid hRB
 have HLT := Lib.hid hlt
 have HF0 := Lib.hid hF0
 have HQ0 := Lib.hid (show ∀ k, QF2 c v p g k → QF2 c v p g k ∨ w.heap.size ≤ k from fun k q => .inl q)
 have HC0 := Lib.hid (rfl : c.b = c.b)
 have HGq := Lib.hid hGq
 have HN0 := Lib.hid (show q.d.n + q.d.L.length + 1 ≤ 1000000 from by have := h.disk.len; omega)
 have hWq := hW
 have hUq := hu
 clear x4 x6 hSz h1 hR1 hb01 hbq hR hF0
 by_cases hroom : q.tail + m + 1 ≤ q.sz
 ·have HRM := Lib.hid hroom
  have HLOG := Lib.hid (show q.log r = q.app r from by unfold QN.log; rw [hm, if_pos hroom])
  have hA := append_any (frameL r.n) hQ hGq (hWq.up hUq) (by rw [HFL.out]; have := sz_lt hWq.nine q.other; have := HRM.out; unfold QN.sz at this; omega) HN0.out
  rw [appW_eq hUq] at hA
  have z6 := hQ.blk.c7.1.2.2.2.2.2.2
  rw [hUq] at z6
  have HAP := Lib.hid (show q.app r = q.fin r (appD q.d (beginN q.d.L.length q.other + q.tail) (frameL r.n)) from rfl)
  generalize appD q.d (beginN q.d.L.length q.other + q.tail) (frameL r.n) = pd at *
  obtain ⟨d', ok⟩ := pd
  dsimp only at hA
  have HWQ := Lib.hid hWq
  have hGq2 := HGq.out
  clear hWq
  go_wp2_with fail
  with_reducible refine hA.mono ?_
  rintro ev w6 ⟨rfl, c6, hc6, hq6, hf6a⟩
  have y6 := hq6.blk.c7.1.2.2.2.2.2.2
  have y4 := hq6.blk.c7.1.2.2.2.2.1
  have y4f := hq6.blk.c7.2.2.2.2.2.1
  rw [hc6] at y6 y4 y4f
  have yR : Blk w6 e 128 #[.int .i64 r.op, .int .i64 r.id, .string r.d] := HRB.out.kept (hf6a.block e HRB.out.lt (fun q => by have := HLT.out e q; omega))
  cases ok with
  | false =>
   have HEND := Lib.hid (show QWent w c v p g (q.app r).1 w6 from (QWent.trans (rfl : c.b = c.b) HF0.out HQ0.out (QKept.went ⟨c6, hc6.trans (rfl : c.b = c.b), by rw [HAP.out]; exact hq6, hf6a⟩)))
   clear hq6 hf6a hQ hGq hA hGq2 h hG hW
   go_wp2_with fail
   go_ret
   exact ⟨by rw [HLOG.out, HAP.out]; rfl, _, QN.Like.refl _, by rw [HLOG.out]; exact HEND.out⟩
  | true =>
   have hs6 := hq6.setTail (q.tail + m)
   rw [hc6] at hs6
   have hf6 := hf6a.set (g := c.b) (.inl (.inl (.inl (rfl : c.b = c.b)))) 4 (.int .i64 ((q.tail + m : Nat) : Int))
   have yR6 : Blk (w6.setCell ⟨c.b, 4, none⟩ (.int .i64 ((q.tail + m : Nat) : Int))) e 128 #[.int .i64 r.op, .int .i64 r.id, .string r.d] := yR.set_other (fun q => by have := HLT.out e (.inl (.inl (q.trans (rfl : c.b = c.b)))); omega) _ _
   have hGl := hGq2.later hf6 fun k q => .inl q
   have hTL := tell_any r aN aW aS (hGl.here.below (Below.refl _ _).drew).d.n (hs6.below (Below.refl _ _).drew).st (by have := HWQ.out.ok.most; show q.s.K.length ≤ 1000; omega) (by have := HWQ.out.ok.len; show q.s.L.length ≤ 1000; omega) HRZ.out
   have HEND := Lib.hid (fun (w7 : World) (hS7 : SWent _ _ v _ w7) => log_end (s' := q.s.tell r) (e := e) (c6 := ⟨c.b, c6.x3, .int .i64 ((q.tail + m : Nat) : Int), c6.x5, c6.x6⟩) (rfl : c.b = c.b) HF0.out HQ0.out rfl (hf6.ext (Below.refl _ _).drew) (hs6.below (Below.refl _ _).drew) HLT.out (yR6.below (Below.refl _ _).drew) hS7)
   have HQE := Lib.hid (show QN.mk d' (q.s.tell r) q.other (q.tail + m) (!true) = (q.fin r (d', true)).1 from by unfold QN.fin; rw [if_pos rfl]; dsimp only; rw [HM.out, hUq]; rfl)
   unfold RI.val at hTL
   have yR7 : Blk (w6.setCell ⟨c.b, 4, none⟩ (.int .i64 ((q.tail + m : Nat) : Int))).drew e 128 #[.int .i64 r.op, .int .i64 r.id, .string r.d] := yR6
   rw [Int.natCast_add] at HEND hTL yR7
   obtain ⟨W6, hW6⟩ : ∃ W6, (w6.setCell ⟨c.b, 4, none⟩ (.int .i64 ((q.tail : Int) + (m : Int)))).drew = W6 := ⟨_, rfl⟩
   rw [hW6] at HEND hTL
   clear hGl hq6 hf6a hQ hGq hA yR yR6 hf6 hs6 hGq2 h hG hW
   go_wp2_with fail
   refine wp_region_held_drew (S := (fun W : World => Blk W e 128 #[.int .i64 r.op, .int .i64 r.id, .string r.d])) (by kernel_rfl) yR7 (fun hHeld => ?_)
   rw [hW6] at hHeld ⊢
   refine tk_ 0 68 rfl rfl ?_
   refine tk_ 1 69 rfl rfl ?_
   refine tk_ 2 70 rfl rfl ?_
   refine tk_ 3 71 rfl rfl ?_ (fun wx hSx => by obtain ⟨k0, k1, k2, -⟩ := hSx.c3; go_simp; try with_reducible rfl)
   refine rdy1 4 rfl (fun K hK => ?_)
   go_simp
   with_reducible refine hTL.mono ?_
   rintro e w7 ⟨rfl, hS7⟩
   have hfin := HEND.out w7 hS7
   try go_wp2_with fail
   refine hK.out _ _ hfin.1 (fun hHeld => ?_)
   clear hK K
   refine wpAnyH_done (by kernel_rfl) ?_ _
   try simp only [Act.put, List.setIfInBounds_toArray, List.set_cons_succ, List.set_cons_zero]
   go_wp2_with fail
   go_ret
   exact ⟨by rw [HLOG.out, HAP.out]; rfl, _, QN.Like.refl _, by rw [HLOG.out, HAP.out, ← HQE.out]; exact hfin.2⟩
 ·have hsnap := snap_any hQ.st hW.ok.most (by have := hW.ok.len; omega) hW.ok.ents none 0 0 [] ⟨rfl, .inl ⟨rfl, rfl⟩⟩ (by omega) aA aT aN aW aS hGq.here.c
  rw [List.append_nil, layV_ok hW.ok.snap_ok] at hsnap
  obtain ⟨AL, hAL⟩ : ∃ AL, layL (q.s.snap.map RI.n) = AL := ⟨_, rfl⟩
  obtain ⟨n3, hn3⟩ : ∃ n3, lenR q.s.snap = n3 := ⟨_, rfl⟩
  have hALl : AL.length = n3 := by rw [← hAL, lay_lenR, hn3]
  have hALs : (⟨AL.toArray⟩ : ByteArray).size = n3 := by rw [list_size2, hALl]
  have hl2 : q.log r = if n3 + m + 1 ≤ q.sz then (if (compD q.d q.other AL).2 = true then q.comp.app r else ({ q with d := (compD q.d q.other AL).1, down := true }, 180)) else (q, 194) := by
   unfold QN.log
   rw [hm, hn3, hAL, if_neg hroom]
  have hn3l : n3 ≤ 300000 := by
   have h1 : ∀ l : List RI, (∀ x ∈ l, x.ok = true) → lenR l ≤ 2014 * l.length := by
    intro l
    induction l with
    | nil => intro _; simp [lenR]
    | cons x l ih =>
     intro hx
     have h2 := ih fun y hy => hx y (by simp [hy])
     have h3 := (rightV_iff.1 (show rightV x.op x.id x.d = true from hx x (by simp))).2.2.2
     unfold lenR at h2 ⊢
     rw [List.map_cons, List.sum_cons, List.length_cons]
     omega
   have h2 := h1 q.s.snap hW.ok.snap_ok
   have h3 := hW.ok.snap_len
   omega
  rw [hAL] at hsnap
  have hcmp : q.comp = { q with d := (compD q.d q.other AL).1, other := !q.other, tail := n3 } := by unfold QN.comp; rw [hAL, hn3]
  clear hAL hn3
  go_wp2_with fail
  with_reducible refine hsnap.mono ?_
  rintro ev w3 ⟨rfl, hb3⟩
  have hSz3 := size_any (hQ.below hb3)
  rw [hsz] at hSz3
  clear hsnap
  go_wp2_with fail
  with_reducible refine hSz3.mono ?_
  rintro ev w4 ⟨rfl, hw34⟩
  have hb4 := hb3
  rw [hw34] at hb4
  have hQ4 := hQ.below hb4
  have hF4 := HF0.out.ext hb4
  clear hSz3 hQ
  by_cases hfull : n3 + m + 1 ≤ q.sz
  ·rw [if_pos hfull] at hl2
   have hC := compact_any AL hQ4 (hG.foot hF4) hu (hW.up hu) hW.nine (by rw [hALl]; unfold QN.sz at hfull; omega) HN0.out
   have hlk := compQ_like hu AL
   rw [hALl] at hlk
   have HL2 := Lib.hid hl2
   have HLK := Lib.hid hlk
   have HCM := Lib.hid hcmp
   have HQW := Lib.hid (log_qw hW hu hr)
   have HWW := Lib.hid hW
   have HHG := Lib.hid hG
   have HF4 := Lib.hid hF4
   have HQ4 := Lib.hid hQ4
   have HCD := Lib.hid (compD_len hW.fit (hW.up hu) q.other AL hW.nine (by rw [hALl]; unfold QN.sz at hfull; omega))
   have HCU := Lib.hid (fun e => compD_up (d := q.d) (o := q.other) (s := AL) e)
   have hN : q.d.n + 600 ≤ 1000000 := hn
   have hRB4 := HRB.out.below hb4
   have HHU := Lib.hid hu
   clear hl2 hlk hcmp hW hG hF4 hQ4 hWq hUq
   go_wp2_with fail
   with_reducible refine hC.mono ?_
   rintro ev w5 ⟨rfl, c5, hc5, hq5, hf5⟩
   have z6 := hq5.blk.c7.1.2.2.2.2.2.2
   rw [hc5, HLK.out.2.2.1] at z6
   have hf05 := HF4.out.trans hf5 fun k q => .inl q
   have hRB5 : Blk w5 e 128 #[.int .i64 r.op, .int .i64 r.id, .string r.d] := hRB4.kept (hf5.block e hRB4.lt (fun q => by have := HLT.out e q; omega))
   generalize hcd : (compD q.d q.other AL).2 = cok at *
   cases cok with
   | false =>
    have HEND := Lib.hid (show QWent w c v p g (q.compQ AL) w5 from QKept.went ⟨c5, hc5, hq5, hf05⟩)
    have hL2 := HL2.out
    rw [if_neg (by decide)] at hL2
    have HL3 := Lib.hid hL2
    have HLI := Lib.hid (show QN.Like (q.compQ AL) { q with d := (compD q.d q.other AL).1, down := true } from ⟨HLK.out.1, HLK.out.2.1, HLK.out.2.2.1, fun e => (by cases e)⟩)
    clear hq5 hf5 hf05 hL2 hC h
    go_wp2_with fail
    go_ret
    exact ⟨by rw [HL3.out]; rfl, _, by rw [HL3.out]; exact HLI.out, HEND.out⟩
   | true =>
    have hL2 := HL2.out
    rw [if_pos rfl] at hL2
    have HLOG := Lib.hid hL2
    have hcq : q.compQ AL = q.comp := (HLK.out.2.2.2 rfl).trans HCM.out.symm
    rw [hcq] at hq5
    obtain ⟨d1, d2, d3⟩ := HCD.out
    have hcL : q.comp.d.L.length = q.d.L.length := by rw [HCM.out]; exact d2
    have hUq : q.comp.down = false := by rw [HCM.out]; exact HHU.out
    have hWq : QW q.comp := by
     rw [HCM.out]
     refine ⟨HWW.out.ok, by dsimp only; rw [d2]; exact HWW.out.nine, d1, fun _ => HCU.out rfl, fun _ => ?_⟩
     show n3 ≤ szN (compD q.d q.other AL).1.L.length
     rw [d2]; unfold QN.sz at hfull; omega
    have HRM := Lib.hid (show q.comp.tail + m + 1 ≤ q.comp.sz from by
     show q.comp.tail + m + 1 ≤ szN q.comp.d.L.length
     rw [hcL, HCM.out]; exact hfull)
    have HN1 := Lib.hid (show q.comp.d.n + q.comp.d.L.length + 1 ≤ 1000000 from by
     rw [hcL, HCM.out]
     have h2 := h.disk.len
     dsimp only
     omega)
    have hzq : q.comp.sz ≤ 16384 := by show szN q.comp.d.L.length ≤ 16384; rw [hcL]; exact hzl
    have htq := hWq.tail hUq
    obtain ⟨qc, hqc⟩ : ∃ qc, q.comp = qc := ⟨_, rfl⟩
    rw [hqc] at hq5 hUq hWq HRM HN1 HLOG hcL hzq htq
    have HC0 := Lib.hid hc5
    have HF0 := Lib.hid hf05
    have HQ0 := Lib.hid (show ∀ k, QF2 c5 v p g k → QF2 c v p g k ∨ w.heap.size ≤ k from fun k hk => .inl ((qf_b hc5 v p g k).1 hk))
    have hGq := HHG.out.later hf05 fun k hk => .inl ((qf_b hc5 v p g k).1 hk)
    have HGq := Lib.hid hGq
    have HRB := Lib.hid hRB5
    have HLT0 := HLT
    have HLT := Lib.hid (show ∀ k, QF2 c5 v p g k → k < e from fun k hk => HLT0.out k ((qf_b hc5 v p g k).1 hk))
    have hQ := hq5
    have HN0 := HN1
    clear hL2 hcq d1 d2 d3 hcL hc5 hf5 hf05 hq5 hC hRB5 hRB4 hqc hn hcd h
    clear hroom hfull
    have hA := append_any (frameL r.n) hQ hGq (hWq.up hUq) (by rw [HFL.out]; have := sz_lt hWq.nine qc.other; have := HRM.out; unfold QN.sz at this; omega) HN0.out
    rw [appW_eq hUq] at hA
    have z6 := hQ.blk.c7.1.2.2.2.2.2.2
    rw [hUq] at z6
    rw [HC0.out] at hA z6
    have HAP := Lib.hid (show qc.app r = qc.fin r (appD qc.d (beginN qc.d.L.length qc.other + qc.tail) (frameL r.n)) from rfl)
    generalize appD qc.d (beginN qc.d.L.length qc.other + qc.tail) (frameL r.n) = pd at *
    obtain ⟨d', ok⟩ := pd
    dsimp only at hA
    have HWQ := Lib.hid hWq
    have hGq2 := HGq.out
    clear hWq
    go_wp2_with fail
    with_reducible refine hA.mono ?_
    rintro ev w6 ⟨rfl, c6, hc6, hq6, hf6a⟩
    rw [HC0.out] at hc6
    have y6 := hq6.blk.c7.1.2.2.2.2.2.2
    have y4 := hq6.blk.c7.1.2.2.2.2.1
    have y4f := hq6.blk.c7.2.2.2.2.2.1
    rw [hc6] at y6 y4 y4f
    have yR : Blk w6 e 128 #[.int .i64 r.op, .int .i64 r.id, .string r.d] := HRB.out.kept (hf6a.block e HRB.out.lt (fun q => by have := HLT.out e q; omega))
    cases ok with
    | false =>
     have HEND := Lib.hid (show QWent w c v p g (qc.app r).1 w6 from (QWent.trans HC0.out HF0.out HQ0.out (QKept.went ⟨c6, hc6.trans HC0.out.symm, by rw [HAP.out]; exact hq6, hf6a⟩)))
     clear hq6 hf6a hQ hGq hA hGq2 
     go_wp2_with fail
     go_ret
     exact ⟨by rw [HLOG.out, HAP.out]; rfl, _, QN.Like.refl _, by rw [HLOG.out]; exact HEND.out⟩
    | true =>
     have hs6 := hq6.setTail (qc.tail + m)
     rw [hc6] at hs6
     have hf6 := hf6a.set (g := c.b) (.inl (.inl (.inl HC0.out.symm))) 4 (.int .i64 ((qc.tail + m : Nat) : Int))
     have yR6 : Blk (w6.setCell ⟨c.b, 4, none⟩ (.int .i64 ((qc.tail + m : Nat) : Int))) e 128 #[.int .i64 r.op, .int .i64 r.id, .string r.d] := yR.set_other (fun q => by have := HLT.out e (.inl (.inl (q.trans HC0.out.symm))); omega) _ _
     have hGl := hGq2.later hf6 fun k q => .inl q
     have hTL := tell_any r aN aW aS (hGl.here.below (Below.refl _ _).drew).d.n (hs6.below (Below.refl _ _).drew).st (by have := HWQ.out.ok.most; show qc.s.K.length ≤ 1000; omega) (by have := HWQ.out.ok.len; show qc.s.L.length ≤ 1000; omega) HRZ.out
     have HEND := Lib.hid (fun (w7 : World) (hS7 : SWent _ _ v _ w7) => log_end (s' := qc.s.tell r) (e := e) (c6 := ⟨c.b, c6.x3, .int .i64 ((qc.tail + m : Nat) : Int), c6.x5, c6.x6⟩) HC0.out HF0.out HQ0.out rfl (hf6.ext (Below.refl _ _).drew) (hs6.below (Below.refl _ _).drew) HLT.out (yR6.below (Below.refl _ _).drew) hS7)
     have HQE := Lib.hid (show QN.mk d' (qc.s.tell r) qc.other (qc.tail + m) (!true) = (qc.fin r (d', true)).1 from by unfold QN.fin; rw [if_pos rfl]; dsimp only; rw [HM.out, hUq]; rfl)
     unfold RI.val at hTL
     have yR7 : Blk (w6.setCell ⟨c.b, 4, none⟩ (.int .i64 ((qc.tail + m : Nat) : Int))).drew e 128 #[.int .i64 r.op, .int .i64 r.id, .string r.d] := yR6
     rw [Int.natCast_add] at HEND hTL yR7
     obtain ⟨W6, hW6⟩ : ∃ W6, (w6.setCell ⟨c.b, 4, none⟩ (.int .i64 ((qc.tail : Int) + (m : Int)))).drew = W6 := ⟨_, rfl⟩
     rw [hW6] at HEND hTL
     clear hGl hq6 hf6a hQ hGq hA yR yR6 hf6 hs6 hGq2 
     go_wp2_with fail
     refine wp_region_held_drew (S := (fun W : World => Blk W e 128 #[.int .i64 r.op, .int .i64 r.id, .string r.d])) (by kernel_rfl) yR7 (fun hHeld => ?_)
     rw [hW6] at hHeld ⊢
     refine tk_ 0 68 rfl rfl ?_
     refine tk_ 1 69 rfl rfl ?_
     refine tk_ 2 70 rfl rfl ?_
     refine tk_ 3 71 rfl rfl ?_ (fun wx hSx => by obtain ⟨k0, k1, k2, -⟩ := hSx.c3; go_simp; try with_reducible rfl)
     refine rdy1 4 rfl (fun K hK => ?_)
     go_simp
     with_reducible refine hTL.mono ?_
     rintro e w7 ⟨rfl, hS7⟩
     have hfin := HEND.out w7 hS7
     try go_wp2_with fail
     refine hK.out _ _ hfin.1 (fun hHeld => ?_)
     clear hK K
     refine wpAnyH_done (by kernel_rfl) ?_ _
     try simp only [Act.put, List.setIfInBounds_toArray, List.set_cons_succ, List.set_cons_zero]
     go_wp2_with fail
     go_ret
     exact ⟨by rw [HLOG.out, HAP.out]; rfl, _, QN.Like.refl _, by rw [HLOG.out, HAP.out, ← HQE.out]; exact hfin.2⟩
  ·rw [if_neg hfull] at hl2
   have HL2 := Lib.hid hl2
   have HEND := Lib.hid (show QWent w c v p g q w4 from ⟨c, v, rfl, hQ4, hF4, fun k hk => .inl hk⟩)
   clear hl2 hcmp hW hG hF4 hQ4 hWq hUq hGq h
   go_wp2_with fail
   go_ret
   exact ⟨by rw [HL2.out]; rfl, q, by rw [HL2.out]; exact QN.Like.refl q, HEND.out⟩
theorem open_nil (w : World) : Calls Tryz.prog 61 #[.pointer none] w (Ret (.tuple #[.pointer none, QWrV 1]) w) := by
 unfold QWrV
 go_enter Tryz.func61, Tryz.ntmps61
 go_wp2_with fail
 go_ret2
 exact ⟨rfl, ext_refl _⟩
set_option maxRecDepth 100000 in
theorem open_down (h : DAt w p g d) (hd : d.down = true) : Calls Tryz.prog 61 #[.pointer (some ⟨p, 0, none⟩)] w (Ret (.tuple #[.pointer none, QWrV 180]) w) := by
 have h1 := IsDown_any h
 rw [hd] at h1
 unfold QWrV
 clear h
 go_enter Tryz.func61, Tryz.ntmps61
 go_wp2_with fail
 refine h1.mono ?_
 rintro e w1 ⟨rfl, rfl⟩
 go_wp2_with fail
 go_ret2
 exact ⟨rfl, ext_refl _⟩
set_option maxRecDepth 100000 in
theorem open_small (h : DAt w p g d) (hd : d.down = false) (hs : d.L.length < 9) : Calls Tryz.prog 61 #[.pointer (some ⟨p, 0, none⟩)] w (Ret (.tuple #[.pointer none, QWrV 190]) w) := by
 have h1 := IsDown_any h
 have h2 := Sectors_any h
 rw [hd] at h1
 have h3 : (d.L.length : Int) < 9 := by omega
 unfold QWrV
 clear h
 go_enter Tryz.func61, Tryz.ntmps61
 go_wp2_with fail
 refine h1.mono ?_
 rintro e w1 ⟨rfl, rfl⟩
 go_wp2_with fail
 refine h2.mono ?_
 rintro e w1 ⟨rfl, rfl⟩
 go_wp2_with fail
 go_ret2
 exact ⟨rfl, ext_refl _⟩
theorem own_told {s : SN} (h : SAt w c v s) (hf : Foot (QF c v) w w') (ho : w.ownsRow base T size V n xs) (hT : T ≠ 112 ∧ T ≠ 3 ∧ T ≠ 9 ∧ T ≠ 23) : w'.ownsRow base T size V n xs := by
 refine own_keep ho fun k hk => hf.block k (own_lt ho hk) ?_
 have hB : ∃ cs, Blk w k T cs := by
  rcases ho.2 with ⟨rfl, -⟩ | ⟨g, cap, cur, rfl, -, hh, -⟩
  ·cases hk
  ·injection hk with hk
   have hk : k = g := hk
   subst hk
   exact ⟨_, hh⟩
 obtain ⟨cs, hB⟩ := hB
 rintro (e | e | e | e)
 ·exact blk_ne hB h.blk hT.1 e
 ·exact own_type h.ids hB hT.2.1 e
 ·exact own_type h.txt hB hT.2.2.1 e
 ·exact own_type h.ent hB hT.2.2.2 e
theorem flag_head {x0 : UInt8} {xs : List UInt8} {l : List (List UInt8)} (h : d.L = (x0 :: xs) :: l) : flagN d = decide (x0 ≠ 0) := by
 unfold flagN
 rw [h]
 rfl
theorem tells_take (l : List RI) (s : SN) {k : Nat} (h : k < l.length) : s.tells (l.take (k + 1)) = (s.tells (l.take k)).tell l[k] := by
 rw [List.take_succ_eq_append_getElem h, SN.tells, SN.tells, List.foldl_append]
 rfl
def OpB (w : World) (c : QC) (p g : Nat) (d : DN) (o : Bool) (V : Value) (rs : List RI) (k : Nat) (W : World) : Prop :=
 ∃ v, QAt W c v p g ⟨d, SN.nil.tells (rs.take k), o, 0, false⟩ ∧ W.ownsRow w.heap.size 128 3 V rs.length (cellsQ rs) ∧ Below w.heap.size w W ∧ ∀ k, QF c v k → w.heap.size ≤ k
def OpenRes (p g : Nat) (d : DN) (w : World) (e : Ending) (w' : World) : Prop := ∃ c v, e = .returned (.tuple #[.pointer (some ⟨c.b, 0, none⟩), .nilIface]) ∧ QAt w' c v p g (openN d) ∧ Below w.heap.size w w' ∧ ∀ k, QF c v k → w.heap.size ≤ k
theorem op_next {A : World} {o : Bool} {rs : List RI} (hk : k < rs.length) (h : QAt A c v p g ⟨d, SN.nil.tells (rs.take k), o, 0, false⟩) (ho : A.ownsRow w.heap.size 128 3 V rs.length (cellsQ rs)) (hb : Below w.heap.size w A) (hF : ∀ k, QF c v k → w.heap.size ≤ k)
  (hR : Blk A e 128 cs) (hS : SWent A c v ((SN.nil.tells (rs.take k)).tell rs[k]) w7) : Blk w7 e 128 cs ∧ OpB w c p g d o V rs (k + 1) w7 := by
 have hA := h.told hS
 obtain ⟨v', h1, h2, h3⟩ := hS
 have hT : (128 : TypeId) ≠ 112 ∧ (128 : TypeId) ≠ 3 ∧ (128 : TypeId) ≠ 9 ∧ (128 : TypeId) ≠ 23 := by decide
 have np : ∀ {k : Nat} {T : TypeId} {cs : Array Value}, Blk A k T cs → T ≠ 112 ∧ T ≠ 3 ∧ T ≠ 9 ∧ T ≠ 23 → ¬ QF c v k := fun hB hT => by
  rintro (e | e | e | e)
  ·exact blk_ne hB h.st.blk hT.1 e
  ·exact own_type h.st.ids hB hT.2.1 e
  ·exact own_type h.st.txt hB hT.2.2.1 e
  ·exact own_type h.st.ent hB hT.2.2.2 e
 have kp := h2.block p h.disk.disk.lt (np h.disk.disk ⟨by decide, by decide, by decide, by decide⟩)
 have kg := h2.block g h.disk.secs.lt (np h.disk.secs ⟨by decide, by decide, by decide, by decide⟩)
 refine ⟨hR.kept (h2.block e hR.lt (np hR hT)), v', ⟨by rw [tells_take rs _ hk]; exact h1, ⟨h.cells.x3, h.cells.x4, h.cells.x5, h.cells.x6⟩, ⟨h.disk.disk.kept kp, h.disk.secs.kept kg, h.disk.ne, h.disk.fit, h.disk.len, h.disk.left, h.disk.n⟩, h.pos⟩, own_told h.st h2 ho hT, hb.trans (h2.below hF hb.size), fun k hk => ?_⟩
 rcases h3 k hk with q | q
 ·exact hF k q
 ·exact Nat.le_trans hb.size q
set_option maxRecDepth 100000 in
theorem open_ok (h : DAt w p g d) (hI : GInv w aA aT aN aW aS) (hd : d.down = false) (h9 : 9 ≤ d.L.length) :
  Calls Tryz.prog 61 #[.pointer (some ⟨p, 0, none⟩)] w (OpenRes p g d w) := by
 change Calls _ _ _ w (OpenRes p g d w)
 have hDn := IsDown_any h
 have hSc := Sectors_any h
 rw [hd] at hDn
 have h3 : ¬ ((d.L.length : Int) < 9) := by omega
 obtain ⟨x0, xs, l, hL⟩ : ∃ x0 xs l, d.L = (x0 :: xs) :: l := by
  cases hL : d.L with
  | nil => rw [hL] at h9; simp at h9
  | cons s l =>
   have := h.fit.sec s (by rw [hL]; simp)
   cases s with
   | nil => simp at this
   | cons x0 xs => exact ⟨_, _, _, rfl⟩
 have hfl := flag_head hL
 have hrd0 : d.read 0 = (x0 :: xs, 0) := by
  have h0 : d.has 0 = true := DN.has_iff.2 ⟨0, rfl, by omega⟩
  unfold DN.read
  rw [if_neg (by rw [hd]; decide), if_pos h0, hL]
  rfl
 obtain ⟨b, hb⟩ : ∃ b, w.heap.size = b := ⟨_, rfl⟩
 have hbn := ext_new w (.cells #[.slice none 0 0, .slice none 0 0, .slice none 0 0, .bool false, .int .i64 0, .pointer (some ⟨p, 0, none⟩), .bool false] 112)
 have hq0 : QAt (w.alloc (.cells #[.slice none 0 0, .slice none 0 0, .slice none 0 0, .bool false, .int .i64 0, .pointer (some ⟨p, 0, none⟩), .bool false] 112)) ⟨b, .bool false, .int .i64 0, .pointer (some ⟨p, 0, none⟩), .bool false⟩ ⟨.slice none 0 0, .slice none 0 0, .slice none 0 0⟩ p g ⟨d, SN.nil, false, 0, false⟩ :=
  ⟨⟨Blk.at_ hb.symm, own_nil, own_nil, own_nil⟩, ⟨rfl, rfl, rfl, rfl⟩, h.below hbn, by show 0 < d.L.length; omega⟩
 have hRd := Read_any 0 (h.below hbn) (hI.below hbn).d.s
 rw [hrd0] at hRd
 have HFLG := Lib.hid hfl
 obtain ⟨o, ho⟩ : ∃ o, decide (x0 ≠ 0) = o := ⟨_, rfl⟩
 have hxo : ((x0.toNat : Int) != 0) = o := by
  rw [← ho]
  have : ((x0.toNat : Int) = 0) ↔ x0 = 0 := by
   constructor
   ·intro e; exact UInt8.toNat_inj.1 (by show x0.toNat = 0; omega)
   ·intro e; rw [e]; rfl
  by_cases hx : x0 = 0
  ·subst hx; rfl
  ·rw [decide_eq_true hx]
   simpa using fun e => hx (this.1 e)
 have HO := Lib.hid (hfl.trans ho)
 have hlen0 : 0 < (⟨(x0 :: xs).toArray⟩ : ByteArray).size := by rw [list_size2]; simp
 have hg0 : (⟨(x0 :: xs).toArray⟩ : ByteArray)[0] = x0 := rfl
 have hz0 : (w.alloc (.cells #[.slice none 0 0, .slice none 0 0, .slice none 0 0, .bool false, .int .i64 0, .pointer (some ⟨p, 0, none⟩), .bool false] 112)).heap.size = b + 1 := by simp [hb]
 have HQ0 := Lib.hid hq0
 have HBN := Lib.hid hbn
 clear hq0 hfl hL ho hbn
 go_enter Tryz.func61, Tryz.ntmps61
 go_wp2_with fail
 refine hDn.mono ?_
 rintro ev w1 ⟨rfl, rfl⟩
 go_wp2_with fail
 refine hSc.mono ?_
 rintro ev w1 ⟨rfl, rfl⟩
 go_wp2_with fail
 refine hRd.mono ?_
 rintro ev w2 ⟨rfl, hb2⟩
 have hq2 := HQ0.out.below hb2
 have hw2 := ext_trans HBN.out hb2
 have y2 := hq2.blk.c7
 obtain ⟨⟨-, -, -, y3, -⟩, -, -, -, y3f, -⟩ := y2
 have hq3 := hq2.setOther o
 have hb3 : Below w.heap.size w (w2.setCell ⟨b, 3, none⟩ (.bool o)) := hw2.setCell (p := ⟨b, 3, none⟩) (by show w.heap.size ≤ b; omega) _
 obtain ⟨w3, hw3⟩ : ∃ w3, w2.setCell ⟨b, 3, none⟩ (.bool o) = w3 := ⟨_, rfl⟩
 change QAt (w2.setCell ⟨b, 3, none⟩ (.bool o)) _ _ _ _ _ at hq3
 rw [hw3] at hq3 hb3
 have hBg := begin_any o hq3
 have hSz := size_any hq3
 have x3 := hq3.blk.c7.1.2.2.2.1
 dsimp only at hBg hSz x3
 have hsl := sz_lt h9 o
 have hdl := h.len
 have hBy := DBytes_any (beginN d.L.length o : Int) (szN d.L.length : Int) aN aW aS hq3.disk (hI.below hb3).d hq3.pos (by omega) (by unfold szN; omega)
 rw [bytes_up hd h.fit hsl.1, show (d.L.flatten.drop (beginN d.L.length o)).take (szN d.L.length) = areaN d.L.flatten d.L.length o from rfl] at hBy
 have hal : (areaN d.L.flatten d.L.length o).length ≤ 16384 := by
  unfold areaN
  rw [List.length_take]
  unfold szN
  omega
 have HOP := Lib.hid (show openN d = ⟨d, SN.nil.tells ((scanOf (areaN d.L.flatten d.L.length o)).1.map RecN.i), o, (scanOf (areaN d.L.flatten d.L.length o)).2, false⟩ from by unfold openN; rw [HO.out])
 obtain ⟨AR, hAR⟩ : ∃ AR, areaN d.L.flatten d.L.length o = AR := ⟨_, rfl⟩
 rw [hAR] at hBy hal HOP
 have hls := lay_scan (AR.length + 1) AR (Nat.lt_succ_self _)
 have hsm := scan_small AR
 have hScn := fun W (k : Below w.heap.size w W) => Scan_any ⟨AR.toArray⟩ (by rw [list_size2]; omega) W aA aT aN aW aS (hI.below k).c
 rw [show (⟨AR.toArray⟩ : ByteArray).data.toList = AR by simp] at hScn
 obtain ⟨rs, tl, hrt⟩ : ∃ rs tl, scanOf AR = (rs, tl) := ⟨_, _, rfl⟩
 rw [hrt] at hls hsm hScn HOP
 dsimp only at hls hsm hScn HOP
 have HSC := Lib.hid hScn
 have HLS := Lib.hid hls
 have HHI := Lib.hid hI
 have HQ3 := Lib.hid hq3
 have HB3 := Lib.hid hb3
 clear hq2 hw2 hb2 HQ0 HBN hRd hScn hls hAR hrt hq3 hI h
 go_wp2_with fail
 with_reducible refine hBg.mono ?_
 rintro ev w4 ⟨rfl, rfl⟩
 go_wp2_with fail
 with_reducible refine hSz.mono ?_
 rintro ev w4 ⟨rfl, rfl⟩
 go_wp2_with fail
 with_reducible refine hBy.mono ?_
 rintro ev w4 ⟨rfl, hb4⟩
 have hb04 := hb3.trans (hb4.mono hb3.size)
 go_wp2_with fail
 with_reducible refine (HSC.out w4 hb04).mono ?_
 rintro ev w5 ⟨V, rfl, hown, hb5⟩
 obtain ⟨A, cp, rfl⟩ := own_form hown
 have hown2 := own_base (base' := w.heap.size) hown hb04.size
 rw [cellsR_i] at hown2
 obtain ⟨ri, hri⟩ : ∃ ri, rs.map RecN.i = ri := ⟨_, rfl⟩
 have hrl : rs.length = ri.length := by rw [← hri, List.length_map]
 have hok : ∀ x ∈ ri, okNum x.id = true ∧ x.d.size ≤ 2000 := by
  intro x hx
  rw [← hri] at hx
  obtain ⟨y, hy, rfl⟩ := List.mem_map.1 hx
  have h2 := (rec_ok (HLS.out.1 y hy)).1
  have h3 := rightV_iff.1 (show rightV (y.i).op (y.i).id (y.i).d = true from h2)
  exact ⟨h3.2.2.1, h3.2.2.2⟩
 have hsok : ∀ k, (SN.nil.tells (ri.take k)).Ok := fun k => SN.nil_ok.tells fun x hx => (hok x (List.mem_of_mem_take hx)).1
 rw [hri, hrl] at hown2
 rw [hri] at HOP
 rw [hrl]
 have hB5 : Below w.heap.size w w5 := hb04.trans (hb5.mono hb04.size)
 have hst : OpB w ⟨b, .bool o, .int .i64 0, .pointer (some ⟨p, 0, none⟩), .bool false⟩ p g d o (.slice A ri.length cp) ri 0 w5 :=
  ⟨_, (HQ3.out.below hb4).below hb5, hown2, hB5, by
   rintro k (e | e | e | e)
   ·rw [e]; show w.heap.size ≤ b; omega
   ·cases e
   ·cases e
   ·cases e⟩
 have hrl2 : ri.length ≤ 16384 := by omega
 have HOK := Lib.hid hok
 have HSO := Lib.hid hsok
 clear hown hown2 hb4 hb5 hb04 hB5 hok hsok hri hrl hsm hal
 go_wp2_with fail
 go_loopw [65] (fun i wr => ∃ k : Nat, k ≤ ri.length ∧ i = .int .i64 (k : Int) ∧ OpB w ⟨b, .bool o, .int .i64 0, .pointer (some ⟨p, 0, none⟩), .bool false⟩ p g d o (.slice A ri.length cp) ri k wr) (fun i _ => ri.length - (intOf i).toNat)
 case atStart => exact ⟨0, Nat.zero_le _, rfl, hst⟩
 case round =>
  obtain ⟨k, hk, rfl, v, hqk, hok, hbk, hFk⟩ := hrel
  by_cases hlt : k < ri.length
  ·obtain ⟨-, A2, c2, e2, hrd⟩ := rdR_own hok
   injection e2 with e2 e3 e4
   subst e2
   clear e3 e4
   obtain ⟨ad, rfl, hadl, hc⟩ := hrd (by omega)
   obtain ⟨g1, g2, g3⟩ := hc k hlt
   obtain ⟨e, he⟩ : ∃ e, wr.heap.size = e := ⟨_, rfl⟩
   have i0 : (0 : Int) ≤ (k : Int) := by omega
   have i1 : (k : Int) < (ri.length : Int) := by omega
   have hbA := ext_new wr (.cells #[.int .i64 ri[k].op, .int .i64 ri[k].id, .string ri[k].d] 128)
   have hRA : Blk (wr.alloc (.cells #[.int .i64 ri[k].op, .int .i64 ri[k].id, .string ri[k].d] 128)).drew e 128 #[.int .i64 ri[k].op, .int .i64 ri[k].id, .string ri[k].d] := Blk.at_ (w := wr) he.symm
   have hqA := (hqk.below hbA).below (Below.refl _ _).drew
   have hTL := tell_any ri[k] aN aW aS ((HHI.out.below hbk).d.n.below (hbA.drew)) hqA.st (by have := (HSO.out k).most; show (SN.nil.tells (ri.take k)).K.length ≤ 1000; omega) (by have := (HSO.out k).len; show (SN.nil.tells (ri.take k)).L.length ≤ 1000; omega) (by have := (HOK.out ri[k] (List.getElem_mem hlt)).2; omega)
   have HEND := Lib.hid (fun (w7 : World) (hS7 : SWent _ _ v _ w7) => op_next (w := w) hlt hqA (own_below hok hbA.drew) (hbk.trans (hbA.drew.mono hbk.size)) hFk hRA hS7)
   unfold RI.val at hTL
   have yR7 := hRA
   clear hqk hok hbk hFk hc hbA hqA hRA
   generalize ri[k] = x at *
   obtain ⟨W6, hW6⟩ : ∃ W6, (wr.alloc (.cells #[.int .i64 x.op, .int .i64 x.id, .string x.d] 128)).drew = W6 := ⟨_, rfl⟩
   rw [hW6] at HEND hTL
   go_wp2_with fail
   refine wp_region_held_drew (S := (fun W : World => Blk W e 128 #[.int .i64 x.op, .int .i64 x.id, .string x.d])) (by kernel_rfl) yR7 (fun hHeld => ?_)
   rw [hW6] at hHeld ⊢
   refine tk_ 0 69 rfl rfl ?_
   refine tk_ 1 70 rfl rfl ?_
   refine tk_ 2 71 rfl rfl ?_
   refine tk_ 3 72 rfl rfl ?_ (fun wx hSx => by obtain ⟨k0, k1, k2, -⟩ := hSx.c3; go_simp; try with_reducible rfl)
   refine rdy1 4 rfl (fun K hK => ?_)
   go_simp
   with_reducible refine hTL.mono ?_
   rintro ev w7 ⟨rfl, hS7⟩
   have hfin := HEND.out w7 hS7
   try go_wp2_with fail
   refine hK.out _ _ hfin.1 (fun hHeld => ?_)
   clear hK K
   refine wpAnyH_done (by kernel_rfl) ?_ _
   try simp only [Act.put, List.setIfInBounds_toArray, List.set_cons_succ, List.set_cons_zero]
   go_wp2_with fail
   go_roundw
   ·exact ⟨k + 1, by omega, by go_num, hfin.2⟩
   ·simp [intOf]; omega
  ·obtain rfl : k = ri.length := by omega
   rw [List.take_length] at hqk
   have z4 := hqk.blk.c7.1.2.2.2.2.1
   have z4f := hqk.blk.c7.2.2.2.2.2.1
   dsimp only at z4 z4f
   have hqf := hqk.setTail tl
   have HEND := Lib.hid hqf
   have HBE := Lib.hid (hbk.setCell (p := ⟨b, 4, none⟩) (show w.heap.size ≤ b by omega) (.int .i64 (tl : Int)))
   have HFE := Lib.hid hFk
   clear hqk hok hbk hqf hFk
   go_wp2_with fail
   go_ret2
   exact ⟨⟨b, .bool o, .int .i64 (tl : Int), .pointer (some ⟨p, 0, none⟩), .bool false⟩, v, rfl, by rw [HOP.out]; exact HEND.out, HBE.out, HFE.out⟩
theorem open_qw (hf : d.Fit) (hd : d.down = false) (h9 : 9 ≤ d.L.length) : QW (openN d) := by
 have hl := lay_scan ((areaN d.L.flatten d.L.length (flagN d)).length + 1) (areaN d.L.flatten d.L.length (flagN d)) (Nat.lt_succ_self _)
 refine ⟨SN.nil_ok.tells fun x hx => ?_, h9, hf, fun _ => hd, fun _ => ?_⟩
 ·obtain ⟨y, hy, rfl⟩ := List.mem_map.1 hx
  exact ok_num (rec_ok (hl.1 y hy)).1
 ·have h1 := hl.2.2.1
  have : (areaN d.L.flatten d.L.length (flagN d)).length ≤ szN d.L.length := by unfold areaN; rw [List.length_take]; omega
  show (scanOf (areaN d.L.flatten d.L.length (flagN d))).2 ≤ szN d.L.length
  omega
def dropR (e : EI) : RI := ⟨4, e.id, ByteArray.empty⟩
theorem drop_ok {e : EI} (h : okNum e.id = true) : (dropR e).ok = true := rightV_iff.2 ⟨(by decide : (1 : Int) ≤ 4), (by decide : (4 : Int) ≤ 9), h, (by decide : ByteArray.empty.size ≤ 2000)⟩
theorem drops_qw (l : List EI) : ∀ {q : QN} (_ : QW q) (_ : q.down = false) (_ : ∀ e ∈ l, okNum e.id = true), QW (q.drops l).1 ∧ (q.drops l).1.d.L.length = q.d.L.length ∧ (q.drops l).1.d.n ≤ q.d.n + l.length * (2 * q.d.L.length + 2) ∧ ((q.drops l).2 = 0 → (q.drops l).1.down = false) := by
 induction l with
 | nil => intro q h hu _; exact ⟨h, rfl, by simp [QN.drops], fun _ => hu⟩
 | cons e l ih =>
  intro q h hu ho
  obtain ⟨a1, a2, a3, a4⟩ := log_qw h hu (drop_ok (ho e (by simp)))
  rw [QN.drops]
  have hlen : (e :: l).length * (2 * q.d.L.length + 2) = l.length * (2 * q.d.L.length + 2) + (2 * q.d.L.length + 2) := by rw [List.length_cons, Nat.succ_mul]
  by_cases h0 : (q.log ⟨4, e.id, ByteArray.empty⟩).2 = 0
  ·rw [if_pos h0]
   have hu2 : (q.log ⟨4, e.id, ByteArray.empty⟩).1.down = false := by
    rcases a4 with ⟨-, e⟩ | ⟨e, -⟩ | ⟨e, -⟩
    ·exact e
    ·have e : (q.log ⟨4, _, ByteArray.empty⟩).2 = 180 := e
     rw [h0] at e; cases e
    ·have e : (q.log ⟨4, _, ByteArray.empty⟩).2 = 194 := e
     rw [h0] at e; cases e
   obtain ⟨b1, b2, b3, b4⟩ := ih a1 hu2 fun x hx => ho x (by simp [hx])
   have a2' : (q.log ⟨4, e.id, ByteArray.empty⟩).1.d.L.length = q.d.L.length := a2
   have a3' : (q.log ⟨4, e.id, ByteArray.empty⟩).1.d.n ≤ q.d.n + (2 * q.d.L.length + 2) := a3
   rw [show (dropR e) = ⟨4, e.id, ByteArray.empty⟩ from rfl] at b2 b3
   rw [a2'] at b2 b3
   exact ⟨b1, b2, by omega, b4⟩
  ·rw [if_neg h0]
   exact ⟨a1, a2, by have a3' : (q.log ⟨4, e.id, ByteArray.empty⟩).1.d.n ≤ q.d.n + (2 * q.d.L.length + 2) := a3; omega, fun e => absurd e h0⟩
theorem drops_snoc (l : List EI) (e : EI) : ∀ {q : QN} (_ : (q.drops l).2 = 0), q.drops (l ++ [e]) = (q.drops l).1.log (dropR e) := by
 induction l with
 | nil =>
  intro q _
  rw [List.nil_append, QN.drops]
  show (if (q.log (dropR e)).2 = 0 then (q.log (dropR e)).1.drops [] else q.log (dropR e)) = q.log (dropR e)
  split
  ·rename_i h
   show ((q.log (dropR e)).1, (0 : Int)) = _
   rw [← h]
  ·rfl
 | cons x l ih =>
  intro q h
  rw [QN.drops] at h
  rw [List.cons_append, QN.drops, QN.drops]
  by_cases h0 : (q.log ⟨4, x.id, ByteArray.empty⟩).2 = 0
  ·rw [if_pos h0] at h
   rw [if_pos h0, if_pos h0, ih h]
  ·rw [if_neg h0] at h
   exact absurd h h0
theorem drops_stop (l m : List EI) (e : EI) : ∀ {q : QN} (_ : (q.drops l).2 = 0) (_ : ((q.drops l).1.log (dropR e)).2 ≠ 0), q.drops (l ++ e :: m) = (q.drops l).1.log (dropR e) := by
 induction l with
 | nil =>
  intro q _ h
  have h' : (q.log ⟨4, e.id, ByteArray.empty⟩).2 ≠ 0 := h
  show QN.drops q (e :: m) = q.log (dropR e)
  rw [QN.drops, if_neg h']
  rfl
 | cons x l ih =>
  intro q h h2
  rw [QN.drops] at h h2
  rw [List.cons_append, QN.drops, QN.drops]
  by_cases h0 : (q.log ⟨4, x.id, ByteArray.empty⟩).2 = 0
  ·rw [if_pos h0] at h h2
   rw [if_pos h0, if_pos h0, ih h h2]
  ·rw [if_neg h0] at h
   exact absurd h h0
theorem lost_take (l : List EI) {k : Nat} (h : k < l.length) : lostL (l.take (k + 1)) = if (l[k]).lost = true then lostL (l.take k) ++ [l[k]] else lostL (l.take k) := by
 unfold lostL
 rw [List.take_succ_eq_append_getElem h, List.filter_append, List.filter_cons]
 split <;> simp
theorem lost_part (l : List EI) {k : Nat} (h : k < l.length) (hl : (l[k]).lost = true) : ∃ m, lostL l = lostL (l.take k) ++ l[k] :: m := by
 refine ⟨lostL (l.drop (k + 1)), ?_⟩
 conv => lhs; rw [at_split l h]
 unfold lostL
 rw [List.filter_append, List.filter_cons, if_pos hl]
def NewAt (p g : Nat) (r : DN × Option QN × List EI × Int) (w : World) (e : Ending) (w' : World) : Prop :=
 ∃ qv lv, e = .returned (.tuple #[qv, lv, .int .i64 r.2.2.2]) ∧ w'.ownsRow w.heap.size 23 7 lv r.2.2.1.length (cellsE r.2.2.1) ∧ Foot (fun k => k = p ∨ k = g) w w' ∧ DAt w' p g r.1 ∧
  match r.2.1 with
  | none => qv = .pointer none
  | some q => ∃ c v, qv = .pointer (some ⟨c.b, 0, none⟩) ∧ QAt w' c v p g q ∧ ∀ k, QF c v k → w.heap.size ≤ k
theorem new_nil (w : World) (hI : SInv w) : Calls Tryz.prog 31 #[.pointer none] w (Ret (.tuple #[.pointer none, .slice none 0 0, .int .i64 1]) w) := by
 have h1 := open_nil w
 have h2 := fun W (hb : Below w.heap.size w W) => qtold_wr 1 W (hI.below hb)
 unfold QWrV at h1 h2
 go_enter Tryz.func31, Tryz.ntmps31
 go_wp2_with fail
 refine h1.mono ?_
 rintro e w1 ⟨rfl, hb1⟩
 go_wp2_with fail
 refine (h2 w1 hb1).mono ?_
 rintro e w2 ⟨rfl, hb2⟩
 go_wp2_with fail
 exact bodyPost_ret (v := .tuple #[.pointer none, .slice none 0 0, .int .i64 1]) (by simp [results, Tryz.results31]) rfl ⟨rfl, ext_trans hb1 hb2⟩
theorem new_err (x : Int) (hI : SInv w) (h1 : Calls Tryz.prog 61 #[.pointer (some ⟨p, 0, none⟩)] w (Ret (.tuple #[.pointer none, QWrV x]) w)) : Calls Tryz.prog 31 #[.pointer (some ⟨p, 0, none⟩)] w (Ret (.tuple #[.pointer none, .slice none 0 0, .int .i64 x]) w) := by
 have h2 := fun W (hb : Below w.heap.size w W) => qtold_wr x W (hI.below hb)
 unfold QWrV at h1 h2
 go_enter Tryz.func31, Tryz.ntmps31
 go_wp2_with fail
 refine h1.mono ?_
 rintro e w1 ⟨rfl, hb1⟩
 go_wp2_with fail
 refine (h2 w1 hb1).mono ?_
 rintro e w2 ⟨rfl, hb2⟩
 go_wp2_with fail
 exact bodyPost_ret (v := .tuple #[.pointer none, .slice none 0 0, .int .i64 x]) (by simp [results, Tryz.results31]) rfl ⟨rfl, ext_trans hb1 hb2⟩
structure NwB (w : World) (b p g : Nat) (q0 : QN) (L0 : List EI) (V : Value) (k : Nat) (lv : Value) (W : World) : Prop where
 ex : ∃ c v, c.b = b ∧ QAt W c v p g (q0.drops (lostL (L0.take k))).1 ∧ (∀ j, QF c v j → w.heap.size ≤ j) ∧ (∀ j, QF c v j → some j ≠ V.ownBlock ∧ some j ≠ lv.ownBlock)
 ok : (q0.drops (lostL (L0.take k))).2 = 0
 lost : W.ownsRow w.heap.size 23 7 lv (lostL (L0.take k)).length (cellsE (lostL (L0.take k)))
 row : W.ownsRow w.heap.size 23 7 V L0.length (cellsE L0)
 ne : ∀ j, some j = lv.ownBlock → some j ≠ V.ownBlock
 foot : Foot (fun k => k = p ∨ k = g) w W
theorem NwB.below (h : NwB w b p g q0 L0 V k lv W) (hb : Below W.heap.size W W') : NwB w b p g q0 L0 V k lv W' := by
 obtain ⟨c, v, h1, h2, h3, h4⟩ := h.ex
 exact ⟨⟨c, v, h1, h2.below hb, h3, h4⟩, h.ok, own_below h.lost hb, own_below h.row hb, h.ne, h.foot.ext hb⟩
theorem NwB.skip (h : NwB w b p g q0 L0 V k lv W) (hk : k < L0.length) (hl : (L0[k]).lost = false) : NwB w b p g q0 L0 V (k + 1) lv W := by
 have e : lostL (L0.take (k + 1)) = lostL (L0.take k) := by rw [lost_take L0 hk, if_neg (by rw [hl]; decide)]
 obtain ⟨h1, h2, h3, h4, h5, h6⟩ := h
 exact ⟨by rw [e]; exact h1, by rw [e]; exact h2, by rw [e]; exact h3, h4, h5, h6⟩
structure NwC (w : World) (b p g : Nat) (q : QN) (L0 ls : List EI) (V lv : Value) (W : World) : Prop where
 ex : ∃ c v, c.b = b ∧ QAt W c v p g q ∧ (∀ j, QF c v j → w.heap.size ≤ j) ∧ (∀ j, QF c v j → some j ≠ V.ownBlock ∧ some j ≠ lv.ownBlock)
 lost : W.ownsRow w.heap.size 23 7 lv ls.length (cellsE ls)
 row : W.ownsRow w.heap.size 23 7 V L0.length (cellsE L0)
 ne : ∀ j, some j = lv.ownBlock → some j ≠ V.ownBlock
 foot : Foot (fun k => k = p ∨ k = g) w W
theorem own_base_le (ho : w.ownsRow base T size V n xs) {k : Nat} (hk : some k = V.ownBlock) : base ≤ k := (ho.lt k hk.symm).1
theorem own_blk (ho : w.ownsRow base T size V n xs) {k : Nat} (hk : some k = V.ownBlock) : ∃ cs, Blk w k T cs := by
 rcases ho.2 with ⟨rfl, -⟩ | ⟨g, cap, cur, rfl, -, hh, -⟩
 ·cases hk
 ·injection hk with hk
  have hk : k = g := hk
  subst hk
  exact ⟨_, hh⟩
theorem NwB.logged {q1 : QN} (h : NwB w b p g q0 L0 V k lv W) (hb : c.b = b) (h2 : QAt W c v p g (q0.drops (lostL (L0.take k))).1) (h3 : ∀ j, QF c v j → w.heap.size ≤ j) (h4 : ∀ j, QF c v j → some j ≠ V.ownBlock ∧ some j ≠ lv.ownBlock) (hW : QWent W c v p g q1 W') :
  NwC w b p g q1 L0 (lostL (L0.take k)) V lv W' := by
 obtain ⟨c', v', e1, e2, e3, e4⟩ := hW
 have np : ∀ j, (some j = V.ownBlock ∨ some j = lv.ownBlock) → ¬ QF2 c v p g j := by
  rintro j hj (q | q | q)
  ·exact hj.elim (h4 j q).1 (h4 j q).2
  ·subst q
   rcases hj with hj | hj
   ·exact own_type h.row h2.disk.disk (by decide) hj
   ·exact own_type h.lost h2.disk.disk (by decide) hj
  ·subst q
   rcases hj with hj | hj
   ·exact own_type h.row h2.disk.secs (by decide) hj
   ·exact own_type h.lost h2.disk.secs (by decide) hj
 have hs := h.foot.size
 refine ⟨⟨c', v', e1.trans hb, e2, fun j hj => ?_, fun j hj => ?_⟩, own_keep h.lost fun j hj => e3.block j (own_lt h.lost hj) (np j (.inr hj)), own_keep h.row fun j hj => e3.block j (own_lt h.row hj) (np j (.inl hj)), h.ne, h.foot.trans e3 ?_⟩
 ·rcases e4 j (.inl hj) with (q | q | q) | q
  ·exact h3 j q
  ·subst q
   have hd : j < W.heap.size := h2.disk.disk.lt
   exfalso
   have := e2.disk.disk
   rcases hj with e | e | e | e
   ·exact blk_ne this e2.st.blk (by decide) e
   ·exact own_type e2.st.ids this (by decide) e
   ·exact own_type e2.st.txt this (by decide) e
   ·exact own_type e2.st.ent this (by decide) e
  ·subst q
   exfalso
   have := e2.disk.secs
   rcases hj with e | e | e | e
   ·exact blk_ne this e2.st.blk (by decide) e
   ·exact own_type e2.st.ids this (by decide) e
   ·exact own_type e2.st.txt this (by decide) e
   ·exact own_type e2.st.ent this (by decide) e
  ·omega
 ·refine ⟨fun hV => ?_, fun hV => ?_⟩
  ·have hlt := own_lt h.row hV
   rcases e4 j (.inl hj) with q | q
   ·exact np j (.inl hV) q
   ·omega
  ·have hlt := own_lt h.lost hV
   rcases e4 j (.inl hj) with q | q
   ·exact np j (.inr hV) q
   ·omega
 ·rintro j (q | q | q)
  ·exact .inr (h3 j q)
  ·exact .inl (.inl q)
  ·exact .inl (.inr q)
theorem NwC.below (h : NwC w b p g q L0 ls V lv W) (hb : Below W.heap.size W W') : NwC w b p g q L0 ls V lv W' := by
 obtain ⟨c, v, h1, h2, h3, h4⟩ := h.ex
 exact ⟨⟨c, v, h1, h2.below hb, h3, h4⟩, own_below h.lost hb, own_below h.row hb, h.ne, h.foot.ext hb⟩
theorem NwC.app {lv' : Value} {e : EI} (h : NwC w b p g q L0 ls V lv W) (ho : W'.ownsRow w.heap.size 23 7 lv' (ls.length + 1) (cellsE ls ++ e.cs)) (hg : W.grownBy W' lv.ownBlock) (hw : lv'.ownBlock = lv.ownBlock ∨ lv'.ownBlock = some W.heap.size) :
  NwC w b p g q L0 (ls ++ [e]) V lv' W' := by
 obtain ⟨c, v, h1, h2, h3, h4⟩ := h.ex
 have hq : ∀ j, QF2 c v p g j → some j ≠ lv.ownBlock := by
  rintro j (q | q | q) hj
  ·exact (h4 j q).2 hj
  ·subst q; exact own_type h.lost h2.disk.disk (by decide) hj
  ·subst q; exact own_type h.lost h2.disk.secs (by decide) hj
 refine ⟨⟨c, v, h1, h2.keptF fun j hj => hg.block j (h2.lt hj) (hq j hj), h3, fun j hj => ⟨(h4 j hj).1, fun e' => ?_⟩⟩, ?_, own_keep h.row fun j hj => hg.block j (own_lt h.row hj) (fun e' => h.ne j e' hj), fun j hj => ?_, h.foot.grown hg fun j hj => .inr (own_base_le h.lost hj)⟩
 ·rcases hw with hw | hw
  ·exact (h4 j hj).2 (e'.trans hw)
  ·rw [hw] at e'
   injection e' with e'
   have := h2.st.lt hj
   omega
 ·rw [List.length_append, cellsE_app]
  simpa [cellsE] using ho
 ·rcases hw with hw | hw
  ·exact h.ne j (hj.trans hw)
  ·intro hV
   have := own_lt h.row hV
   rw [hw] at hj
   injection hj with hj
   omega
theorem new_ok_eq (hd : d.down = false) (h9 : 9 ≤ d.L.length) (h : ((openN d).drops (lostL (openN d).s.L)).2 = 0) : newN d = (((openN d).drops (lostL (openN d).s.L)).1.d, some ((openN d).drops (lostL (openN d).s.L)).1, lostL (openN d).s.L, 0) := by
 unfold newN
 rw [if_neg (by rw [hd]; decide), if_neg (by omega), if_pos h]
theorem new_no_eq (hd : d.down = false) (h9 : 9 ≤ d.L.length) (h : ((openN d).drops (lostL (openN d).s.L)).2 ≠ 0) : newN d = (((openN d).drops (lostL (openN d).s.L)).1.d, none, [], ((openN d).drops (lostL (openN d).s.L)).2) := by
 unfold newN
 rw [if_neg (by rw [hd]; decide), if_neg (by omega), if_neg h]
set_option maxRecDepth 100000 in
theorem new_ok (h : DAt w p g d) (hG : Glb (fun k => k = p ∨ k = g) aA aT aN aW aS w) (hd : d.down = false) (h9 : 9 ≤ d.L.length) (hn : d.n ≤ 950000) :
  Calls Tryz.prog 31 #[.pointer (some ⟨p, 0, none⟩)] w (NewAt p g (newN d) w) := by
 obtain ⟨i0, hi0, hz0, hz1, hz2⟩ := info_parts infoEn
 have hO := open_ok h hG.here hd h9
 have hqw := open_qw h.fit hd h9
 have hnew1 := new_ok_eq hd h9
 have hnew2 := new_no_eq hd h9
 have hdl := h.len
 obtain ⟨q0, hq0⟩ : ∃ q0, openN d = q0 := ⟨_, rfl⟩
 unfold OpenRes at hO
 rw [hq0] at hO hqw hnew1 hnew2
 have hu0 : q0.down = false := by rw [← hq0]; rfl
 have hd0 : q0.d = d := by rw [← hq0]; rfl
 obtain ⟨L0, hL0⟩ : ∃ L0, q0.s.L = L0 := ⟨_, rfl⟩
 rw [hL0] at hnew1 hnew2
 have hL60 : L0.length ≤ 60 := by rw [← hL0]; exact hqw.ok.len
 have hids : ∀ e ∈ L0, okNum e.id = true := fun e he => (EI.right_iff.1 (hqw.ok.ents e (by rw [hL0]; exact he))).2.1
 have HN1 := Lib.hid hnew1
 have HN2 := Lib.hid hnew2
 have HID := Lib.hid hids
 have HQW := Lib.hid hqw
 have HG := Lib.hid hG
 clear hnew1 hnew2 hids hqw hG hq0
 go_enter Tryz.func31, Tryz.ntmps31
 go_wp2_with fail
 refine hO.mono ?_
 rintro ev w1 ⟨c, v, rfl, hq1, hb1, hF1⟩
 have he1 := hq1.st.ent
 rw [hL0] at he1
 have x2 := hq1.blk.c7.1.2.2.1
 obtain ⟨A1, c1, hv1⟩ := own_form he1
 rw [hv1] at x2 he1
 have hCl := cloneE_any he1 (by omega) (cellsE_one L0)
 clear hO he1 h
 go_wp2_with fail
 with_reducible refine hCl.mono ?_
 rintro ev w2 ⟨V, rfl, hown, hb2⟩
 obtain ⟨A, cp, rfl⟩ := own_form hown
 have hst : NwB w c.b p g q0 L0 (.slice A L0.length cp) 0 (.slice none 0 0) w2 := by
  refine ⟨⟨c, v, rfl, hq1.below hb2, hF1, fun j hj => ⟨fun e => ?_, fun e => (by cases e)⟩⟩, rfl, own_nil, own_base hown hb1.size, fun j e => (by cases e), (Foot.of_below hb1).ext hb2⟩
  have := (hown.lt j e.symm).1
  have := hq1.st.lt hj
  omega
 have hL0n : ∀ k, (lostL (L0.take k)).length ≤ 60 := fun k => Nat.le_trans (List.length_filter_le _ _) (by rw [List.length_take]; omega)
 have HLN := Lib.hid hL0n
 have HV := Lib.hid hv1
 clear hCl hown hb1 hb2 hq1 hF1 x2 hv1 hL0n
 obtain ⟨b, hb⟩ : ∃ b, c.b = b := ⟨_, rfl⟩
 rw [hb] at hst ⊢
 go_wp2_with fail
 go_loopw [7, 27] (fun lv i wr => ∃ k : Nat, k ≤ L0.length ∧ i = .int .i64 (k : Int) ∧ NwB w b p g q0 L0 (.slice A L0.length cp) k lv wr) (fun _ i _ => L0.length - (intOf i).toNat)
 case atStart => exact ⟨0, Nat.zero_le _, rfl, hst⟩
 case round =>
  obtain ⟨k, hk, rfl, hB⟩ := hrel
  by_cases hlt : k < L0.length
  ·obtain ⟨-, A2, c2, e2, hrd⟩ := rowE_own hB.row
   injection e2 with e2 e3 e4
   subst e2
   clear e3 e4
   obtain ⟨gr, rfl, hgl, hc⟩ := hrd (by omega)
   obtain ⟨g0, g1, g2, g3, g4, g5, g6⟩ := hc k hlt
   have i0' : (0 : Int) ≤ (k : Int) := by omega
   have i1' : (k : Int) < (L0.length : Int) := by omega
   obtain ⟨y, hy⟩ : ∃ y, L0[k] = y := ⟨_, rfl⟩
   rw [hy] at g0 g1 g2 g3 g4 g5 g6
   have hIL := isLost_any y (wr.alloc (.cells #[.int .i64 y.id, .int .i64 y.side, .string y.key, .string y.data, .int .i64 y.due, .bool y.cust, .bool y.sent] 23))
   have hbx := Blk.new_ wr 23 #[.int .i64 y.id, .int .i64 y.side, .string y.key, .string y.data, .int .i64 y.due, .bool y.cust, .bool y.sent]
   have hba := ext_new wr (.cells #[.int .i64 y.id, .int .i64 y.side, .string y.key, .string y.data, .int .i64 y.due, .bool y.cust, .bool y.sent] 23)
   unfold EI.val at hIL
   obtain ⟨eb, heb⟩ : ∃ eb, wr.heap.size = eb := ⟨_, rfl⟩
   rw [heb] at hbx
   have HB := Lib.hid hB
   clear hB hrd hc
   cases hlo : y.lost with
   | false =>
    rw [hlo] at hIL
    have HEND := Lib.hid (fun (w3 : World) (q : Below wr.heap.size wr w3) => (HB.out.below q).skip hlt (by rw [hy]; exact hlo))
    go_wp2_with fail
    with_reducible refine hIL.mono ?_
    rintro ev w3 ⟨rfl, hb3⟩
    have hE := HEND.out w3 (ext_trans hba hb3)
    go_wp2_with fail
    go_roundw
    ·exact ⟨k + 1, by omega, by go_num, hE⟩
    ·simp [intOf]; omega
   | true =>
    rw [hlo] at hIL
    go_wp2_with fail
    with_reducible refine hIL.mono ?_
    rintro ev w3 ⟨rfl, hb3⟩
    have hB3 := HB.out.below (ext_trans hba hb3)
    have hbx3 := hbx.below hb3
    obtain ⟨g0', g1', g2', g3', g4', g5', g6'⟩ := hbx3.c7.1
    obtain ⟨c, v, hcb, hq0, hqB, hqN⟩ := HB.out.ex
    have hlk : ∀ j, QF2 c v p g j → j < eb := fun j hj => by rw [← heb]; exact hq0.lt hj
    have hq := hq0.below (ext_trans hba hb3)
    have hids' : ∀ e ∈ lostL (L0.take k), okNum e.id = true := fun e he => HID.out e (List.mem_of_mem_take (List.mem_filter.1 he).1)
    obtain ⟨d1, d2, d3, d4⟩ := drops_qw (lostL (L0.take k)) HQW.out hu0 hids'
    have hyid : okNum y.id = true := HID.out y (by rw [← hy]; exact List.getElem_mem hlt)
    have hup := d4 hB3.ok
    have hnb : (lostL (L0.take k)).length * (2 * q0.d.L.length + 2) ≤ 60 * 514 := Nat.mul_le_mul (HLN.out k) (by rw [hd0]; omega)
    have hLg := log_any (dropR y) hq (HG.out.later hB3.foot fun j hj => by
     rcases hj with hj | hj | hj
     ·exact .inr (hqB j hj)
     ·exact .inl (.inl hj)
     ·exact .inl (.inr hj)) d1 hup (drop_ok hyid) (by rw [hd0] at d3 hnb; omega)
    have hqw := log_qw d1 hup (drop_ok hyid)
    have HB3 := Lib.hid hB3
    have HQ := Lib.hid hq
    have HQB := Lib.hid hqB
    have HQN := Lib.hid hqN
    have HOKB := Lib.hid hB3.ok
    change Calls _ _ #[.pointer (some ⟨c.b, 0, none⟩), .agg #[.int .i64 4, .int .i64 y.id, .string ⟨#[]⟩]] _ _ at hLg
    rw [hcb] at hLg
    have HHL := Lib.hid hlk
    have HST := Lib.hid (fun m => drops_stop (lostL (L0.take k)) m y HOKB.out)
    have HSN := Lib.hid (drops_snoc (lostL (L0.take k)) y HOKB.out)
    have hpt := lost_part L0 hlt (by rw [hy]; exact hlo)
    rw [hy] at hpt
    have hlt1 := lost_take L0 hlt
    rw [hy, if_pos hlo] at hlt1
    have HLT1 := Lib.hid hlt1
    obtain ⟨ls, hls⟩ : ∃ ls, lostL (L0.take k) = ls := ⟨_, rfl⟩
    have hll := HLN.out k
    rw [hls] at HST HSN hpt HLT1 hll hLg hqw HOKB
    have HPT := Lib.hid hpt
    clear hpt
    have HLL := Lib.hid hll
    have HLS := Lib.hid hls
    clear hB3 hq hqB hqN d1 d2 d3 d4 hids' hnb hup hlk hq0 hls hlt1 hll
    go_wp2_with fail
    with_reducible refine hLg.mono ?_
    rintro ev w4 ⟨rfl, q', hlk, hW⟩
    have hC := HB3.out.logged hcb HQ.out HQB.out HQN.out hW
    rw [HLS.out] at hC
    have hbx4 : Blk w4 eb 23 #[.int .i64 y.id, .int .i64 y.side, .string y.key, .string y.data, .int .i64 y.due, .bool y.cust, .bool y.sent] := by
     obtain ⟨-, -, -, -, hf, -⟩ := hW
     exact hbx3.kept (hf.block eb hbx3.lt fun q => by have := HHL.out eb q; omega)
    by_cases h0 : ((q0.drops ls).1.log (dropR y)).2 = 0
    ·rw [h0]
     have hdn : ((q0.drops ls).1.log (dropR y)).1.down = false := by
      rcases hqw.2.2.2 with ⟨-, e⟩ | ⟨e, -⟩ | ⟨e, -⟩
      ·exact e
      ·rw [h0] at e; cases e
      ·rw [h0] at e; cases e
     have hqe : q' = ((q0.drops ls).1.log (dropR y)).1 := hlk.up hdn
     rw [hqe] at hC
     obtain ⟨g0', g1', g2', g3', g4', g5', g6'⟩ := hbx4.c7.1
     have hb5 := ext_new w4 (.cells #[.int .i64 y.id, .int .i64 y.side, .string y.key, .string y.data, .int .i64 y.due, .bool y.cust, .bool y.sent] 23)
     have hC5 := hC.below hb5
     obtain ⟨A7, c7, rfl⟩ := own_form hC5.lost
     obtain ⟨lv', w6, hr, hown6, hgrow, -, hat⟩ := run_append_own_at (P := Tryz.prog) (w := w4.alloc (.cells #[.int .i64 y.id, .int .i64 y.side, .string y.key, .string y.data, .int .i64 y.due, .bool y.cust, .bool y.sent] 23)) w.heap.size 46 46 23 i0 (.agg #[.int .i64 0, .int .i64 0, .string ByteArray.empty, .string ByteArray.empty, .int .i64 0, .bool false, .bool false]) 7 64 Tryz.underlying46 hi0 hz0 hz1 hz2 rfl (by omega) _ _ _ hC5.lost ⟨w4.heap.size, 0, none⟩ 1 1 y.cs rfl (Blk.cells_ (Blk.new_ w4 23 #[.int .i64 y.id, .int .i64 y.side, .string y.key, .string y.data, .int .i64 y.due, .bool y.cust, .bool y.sent])) (fun u hu => by
      simp only [EI.cs, List.mem_cons, List.not_mem_nil, or_false] at hu
      obtain rfl | rfl | rfl | rfl | rfl | rfl | rfl := hu <;> rfl) (by have := HLL.out; unfold maxLen; omega) (by have := HLL.out; omega) hC5.foot.size
     have hC6 := hC5.app hown6 hgrow hat
     have HEND := Lib.hid (show NwB w b p g q0 L0 (.slice (some ⟨gr, 0, none⟩) L0.length cp) (k + 1) lv' w6 from ⟨by rw [HLT1.out, HSN.out]; exact hC6.ex, by rw [HLT1.out, HSN.out]; exact h0, by rw [HLT1.out]; exact hC6.lost, hC6.row, hC6.ne, hC6.foot⟩)
     unfold errQ
     rw [if_pos rfl]
     clear hC hC5 hC6 hown6 hgrow hat hlk hW hqw hqe hdn hLg hb5 hbx4 hbx3
     go_wp2_with (at_builtin; refine Lib.wpList_append_run _ rfl _ _ _ _ rfl _ _ rfl rfl _ _ hr ?_)
     go_roundw
     ·exact ⟨k + 1, by omega, by go_num, HEND.out⟩
     ·simp [intOf]; omega
    ·have hee : errQ ((q0.drops ls).1.log (dropR y)).2 = QWrV ((q0.drops ls).1.log (dropR y)).2 := by unfold errQ; rw [if_neg h0]
     rw [hee]
     have hT := qtold_wr ((q0.drops ls).1.log (dropR y)).2 w4 (HG.out _ hC.foot).d.s
     obtain ⟨m, hm⟩ := HPT.out
     have hst := HST.out m h0
     rw [← hm] at hst
     have hn2 := HN2.out
     rw [hst] at hn2
     obtain ⟨c', v', -, hq', -⟩ := hC.ex
     have hdk := hq'.disk
     rw [hlk.d] at hdk
     have HEND := Lib.hid (fun (w5 : World) (hb5 : Below w4.heap.size w4 w5) => (show NewAt p g (newN d) w (.returned (.tuple #[.pointer none, .slice none 0 0, .int .i64 ((q0.drops ls).1.log (dropR y)).2])) w5 from by
      rw [hn2 h0]
      exact ⟨_, _, rfl, own_nil, hC.foot.ext hb5, hdk.below hb5, rfl⟩))
     unfold QWrV at hT ⊢
     generalize ((q0.drops ls).1.log (dropR y)).2 = cx at *
     clear hC hW hqw hlk hq' hdk hn2 hst hm hLg hbx4 hbx3 hee h0
     go_wp2_with fail
     with_reducible refine hT.mono ?_
     rintro ev w5 ⟨rfl, hb5⟩
     have hE := HEND.out w5 hb5
     go_wp2_with fail
     exact bodyPost_ret (v := .tuple #[.pointer none, .slice none 0 0, .int .i64 cx]) (by simp [results, Tryz.results31]) rfl hE
  ·obtain rfl : k = L0.length := by omega
   obtain ⟨c, v, hcb, hq, hqB, hqN⟩ := hB.ex
   have hok := hB.ok
   have hlo := hB.lost
   rw [List.take_length] at hq hok hlo
   have HEND := Lib.hid (show NewAt p g (newN d) w (.returned (.tuple #[.pointer (some ⟨b, 0, none⟩), u7, .int .i64 0])) wr from by
    rw [HN1.out hok]
    exact ⟨_, u7, rfl, hlo, hB.foot, hq.disk, c, v, by rw [hcb], hq, hqB⟩)
   clear hB hq hqB hqN hok hlo
   go_wp2_with fail
   exact bodyPost_ret (v := .tuple #[.pointer (some ⟨b, 0, none⟩), u7, .int .i64 0]) (by simp [results, Tryz.results31]) rfl HEND.out
theorem new_any (h : DAt w p g d) (hG : Glb (fun k => k = p ∨ k = g) aA aT aN aW aS w) (hn : d.n ≤ 950000) :
  Calls Tryz.prog 31 #[.pointer (some ⟨p, 0, none⟩)] w (NewAt p g (newN d) w) := by
 rcases bool_cases d.down with hd | hd
 ·by_cases h9 : 9 ≤ d.L.length
  ·exact new_ok h hG hd h9 hn
  ·refine (new_err 190 hG.here.d.s (open_small h hd (by omega))).mono ?_
   rintro e w' ⟨rfl, hb⟩
   have e1 : newN d = (d, none, [], 190) := by unfold newN; rw [if_neg (by rw [hd]; decide), if_pos (by omega)]
   rw [e1]
   exact ⟨_, _, rfl, own_nil, Foot.of_below hb, h.below hb, rfl⟩
 ·refine (new_err 180 hG.here.d.s (open_down h hd)).mono ?_
  rintro e w' ⟨rfl, hb⟩
  have e1 : newN d = (d, none, [], 180) := by unfold newN; rw [if_pos hd]
  rw [e1]
  exact ⟨_, _, rfl, own_nil, Foot.of_below hb, h.below hb, rfl⟩
end Go.Proofs.YtmebjdbkngehiaaGreatDoor
