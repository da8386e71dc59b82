/-
  Package item: a reader's list. Conditions: as the theorems' own hypotheses say.
-/
import Derived.Test.YtmoghgmbpkpcfaaGreatDoorMgG
import Derived.Test.YtmoghgmbpkpcfaaGreatDoorMgA
import Derived.Maps.AppendAt
namespace Go.Proofs.YtmoghgmbpkpcfaaGreatDoor
open Go.RowKit Go.Shelf

theorem infoIt : (Tryz.prog.info? 24).map (fun i => (i.zero, i.size)) = some (some (.agg #[.int .i64 0, .int .i64 0, .string ByteArray.empty, .slice none 0 0]), 4) := by kernel_rfl
theorem infoIt2 : ((Tryz.prog.info? 24).map fun i => i.bytes) = some 56 := by kernel_rfl

def RRs.pre (l : List IN) : RRs → RRs
  | .bad e => .bad e
  | .ok c a m => .ok c a (l ++ m)
theorem pre_nil (r : RRs) : r.pre [] = r := by cases r <;> rfl
theorem pre_pre (l m : List IN) (r : RRs) : (r.pre m).pre l = r.pre (l ++ m) := by cases r <;> simp [RRs.pre]
theorem readL_bad {rd : Nat → Nat → RR} {m c a : Nat} {e : Int} (h : rd c a = .bad e) : readL rd (m + 1) c a = .bad e := by simp only [readL, h]
theorem readL_one {rd : Nat → Nat → RR} {m c a c2 a2 : Nat} {x : IN} (h : rd c a = .ok c2 a2 x) : readL rd (m + 1) c a = (readL rd m c2 a2).pre [x] := by
  simp only [readL, h]
  cases readL rd m c2 a2 <;> rfl
theorem items_snoc (l : List TV) (t : TV) : TV.items (l ++ [t]) = TV.items l ++ [t.item] := by simp [items_map]

/-- An item's lists lie where Q says. -/
inductive Off (Q : Nat → Prop) : TV → Prop
  | mk {k n : Int} {s : ByteArray} {a : Option Addr} {c : Nat} {l : List TV} (ha : ∀ ad, a = some ad → 0 < l.length → Q ad.block) (hk : ∀ x ∈ l, Off Q x) : Off Q (.mk k n s a c l)
theorem Over.off {L : Nat} {t : TV} (h : Over L t) : Off (fun k => L ≤ k) t := by
  induction h with
  | mk ha hk ih => exact .mk ha ih
theorem Off.over {L : Nat} {Q : Nat → Prop} {t : TV} (h : Off Q t) (hQ : ∀ k, Q k → L ≤ k) : Over L t := by
  induction h with
  | mk ha hk ih => exact .mk (fun ad e hp => hQ _ (ha ad e hp)) ih
theorem Off.imp {D : Nat} {W : World} {Q Q' : Nat → Prop} {t : TV} (h : Off Q t) (hi : ItAt D W t) (hQ : ∀ k, Q k → k < D → Q' k) : Off Q' t := by
  induction h with
  | mk ha hk ih =>
    cases hi with
    | mk hr hk2 =>
      refine .mk (fun ad e hp => hQ _ (ha ad e hp) ?_) (fun x hx => ih x hx (hk2 x hx))
      obtain ⟨ad', e', hl, _⟩ := hr hp
      rw [e] at e'
      injection e' with e'
      rw [e']; exact hl
theorem ItAt.keptQ {D D' : Nat} {Q : Nat → Prop} {W W' : World} {t : TV} (h : ItAt D W t) (ho : Off Q t) (hb : ∀ k, Q k → k < D → W'.heap[k]? = W.heap[k]?) (hD : D ≤ D') : ItAt D' W' t := by
  induction h with
  | mk hr hk ih =>
    cases ho with
    | mk ha ho2 =>
      refine .mk (fun hp => ?_) (fun x hx => ih x hx (ho2 x hx))
      obtain ⟨ad, h1, h2, h3⟩ := hr hp
      refine ⟨ad, h1, by omega, fun i hi => ?_⟩
      have hc : ∀ k o, k = ad.block → W'.cell? ⟨k, o, none⟩ = W.cell? ⟨k, o, none⟩ := fun k o e => by
        unfold World.cell?
        rw [hb k (by rw [e]; exact ha ad h1 hp) (by rw [e]; exact h2)]
      have hc0 : W'.cell? (ad.add (i * 4)) = W.cell? (ad.add (i * 4)) := by
        unfold World.cell?
        rw [ad_blk, hb ad.block (ha ad h1 hp) h2]
      obtain ⟨g1, g2, g3, g4⟩ := h3 i hi
      exact ⟨hc0.trans g1, (hc _ _ (ad_blk _ _)).trans g2, (hc _ _ (ad_blk _ _)).trans g3, (hc _ _ (ad_blk _ _)).trans g4⟩
/-- A tree that was read, beside a row that grows. -/
structure Tr (f base : Nat) (b : Option Nat) (W : World) (t : TV) : Prop where
  at_ : ItAt W.heap.size W t
  off : Off (fun k => base ≤ k ∧ some k ≠ b) t
  fit : Fits f t
theorem Tr.later {f base : Nat} {b : Option Nat} {W W' : World} {t : TV} (h : Tr f base b W t) (hs : W.heap.size ≤ W'.heap.size) (hb : ∀ k, base ≤ k → k < W.heap.size → some k ≠ b → W'.heap[k]? = W.heap[k]?) : Tr f base b W' t :=
  ⟨h.at_.keptQ h.off (fun k hk hd => hb k hk.1 hd hk.2) hs, h.off, h.fit⟩
theorem Tr.row {f base D : Nat} {b b' : Option Nat} {W : World} {t : TV} (h : Tr f base b W t) (hb : b' = b ∨ b' = some D) (hD : W.heap.size ≤ D) : Tr f base b' W t :=
  ⟨h.at_, h.off.imp h.at_ fun k hk hd => ⟨hk.1, by
    rcases hb with e | e
    · rw [e]; exact hk.2
    · rw [e]; intro q; injection q with q; omega⟩, h.fit⟩

theorem Tr.grow {f base : Nat} {b b' : Option Nat} {W W' : World} {t : TV} (h : Tr f base b W t) (hg : W.grownBy W' b) (hb : b' = b ∨ b' = some W.heap.size) : Tr f base b' W' t :=
  ⟨h.at_.keptQ h.off (fun k hk hd => hg.block k hd hk.2) hg.size, (h.row hb (Nat.le_refl _)).off, h.fit⟩
theorem own_lo {w : World} {base n size k : Nat} {V : Value} {t : TypeId} {xs : List Value} (h : w.ownsRow base t size V n xs) (hk : k < base) : some k ≠ V.ownBlock := by
  obtain ⟨h0, ⟨rfl, -⟩ | ⟨g, cap, cur, rfl, hg, -⟩⟩ := h
  · intro e; cases e
  · intro e
    injection e with e
    have e2 : k = g := e
    omega
theorem own_hi {w : World} {base n size k : Nat} {V : Value} {t : TypeId} {xs : List Value} (h : w.ownsRow base t size V n xs) (hk : w.heap.size ≤ k) : some k ≠ V.ownBlock := by
  obtain ⟨h0, ⟨rfl, -⟩ | ⟨g, cap, cur, rfl, hg, hh, -⟩⟩ := h
  · intro e; cases e
  · intro e
    injection e with e
    have e2 : k = g := e
    have := (Array.getElem?_eq_some_iff.1 hh).1
    omega
theorem RdEnd.grown {p : Nat} {s : ByteArray} {a c : Int} {w W W' : World} {b : Option Nat} (h : RdEnd p s a c w W) (hg : W.grownBy W' b) (hp : p < w.heap.size) (hb : ∀ k, k < w.heap.size → some k ≠ b) : RdEnd p s a c w W' :=
  ⟨h.rd.kept (hg.block _ h.rd.lt (hb _ hp)), ⟨hg.os.trans h.bes.os, hg.tape.trans h.bes.tape, hg.output.trans h.bes.output, Nat.le_trans h.bes.size hg.size,
    fun k hk hn => (hg.block k (Nat.lt_of_lt_of_le hk h.bes.size) (hb k hk)).trans (h.bes.block k hk hn)⟩⟩

/-- Where a list's reader stands. -/
structure LiI (f p : Nat) (s : ByteArray) (n c a : Nat) (w wr : World) (k : Nat) (v : Value) (ts : List TV) (c' a' : Nat) : Prop where
  len : ts.length = k
  kn : k ≤ n
  kc : k ≤ c'
  c60 : c' ≤ 60
  rd : RdEnd p s (a' : Int) (c' : Int) w wr
  st : readL (readI s.data.toList f) n c a = (readL (readI s.data.toList f) (n - k) c' a').pre (TV.items ts)
  r0 : Blk wr w.heap.size 24 #[.int .i64 0, .int .i64 0, .string ⟨#[]⟩, .slice none 0 0]
  r1 : Blk wr (w.heap.size + 1) 24 #[.int .i64 4, .int .i64 0, .string ⟨#[]⟩, v]
  own : wr.ownsRow (w.heap.size + 2) 24 4 v k (cellsT ts)
  tr : ∀ t ∈ ts, Tr f (w.heap.size + 2) v.ownBlock wr t

set_option maxRecDepth 100000 in
set_option maxHeartbeats 2000000 in
theorem list_any {f p : Nat} {s : ByteArray} {n c a : Nat} {d : Int} {w : World} {A : Nat → Addr} {aN aW aS : Addr} (h : RdA w p s (a : Int) (c : Int)) (hI : HIp p w A aN aW aS) (hc : c ≤ 60) (hn : n ≤ 281474976710655) (hd0 : 0 ≤ d) (hd : d ≤ 100)
    (hC : ∀ (c a : Nat) W, RdA W p s (a : Int) (c : Int) → HIp p W A aN aW aS → c ≤ 60 → Calls Tryz.prog 23 #[.pointer (some ⟨p, 0, none⟩), .int .i64 (d + 1)] W (ItR f p s (readI s.data.toList f c a) W)) :
    Calls Tryz.prog 40 #[.pointer (some ⟨p, 0, none⟩), .int .i64 (n : Int), .int .i64 d] w (ItR (f + 1) p s ((readL (readI s.data.toList f) n c a).one 0) w) := by
  obtain ⟨i0, hi0, hzz⟩ := Option.map_eq_some_iff.1 infoIt
  have hz0 := congrArg Prod.fst hzz
  have hz1 := congrArg Prod.snd hzz
  dsimp only at hz0 hz1
  have hz2 : i0.bytes = 56 := by have := infoIt2; rw [hi0] at this; simpa using this
  have hp := h.lt
  go_enter Tryz.func40, Tryz.ntmps40
  go_wp2_with fail
  go_loopw [13] (fun i wr => ∃ (k : Nat) (v : Value) (ts : List TV) (c' a' : Nat), i = .int .i64 (k : Int) ∧ LiI f p s n c a w wr k v ts c' a') (fun i _ => n - (intOf i).toNat)
  case atStart =>
    refine ⟨0, _, [], c, a, rfl, rfl, by omega, by omega, hc, ((RdEnd.refl h).ext (ext_new _ _)).ext (ext_new _ _), (pre_nil _).symm, (Blk.new_ w _ _).alloc _, by rw [← World.size_alloc w]; exact Blk.new_ _ _ _, own_nil, by simp⟩
  case round =>
    obtain ⟨k, v, ts, c', a', rfl, L⟩ := hrel
    have hgs : w.heap.size + 2 ≤ wr.heap.size := by have := L.r1.lt; omega
    by_cases hlt : k < n
    · have i1 : (k : Int) < (n : Int) := by omega
      have hC1 := hC c' a' wr L.rd.rd (hI.bes L.rd.bes) L.c60
      have hst := L.st
      obtain ⟨m, hm⟩ : ∃ m, n - k = m + 1 := ⟨n - k - 1, by omega⟩
      rw [hm] at hst
      rcases hrr : readI s.data.toList f c' a' with er | ⟨c2, a2, x⟩
      · rw [hrr] at hC1
        rw [readL_bad hrr] at hst
        rw [hst]
        show Code.wp _ _ _ _ _
        go_wp2_with fail
        refine hC1.mono ?_
        rintro e w3 ⟨t, er', rfl, rfl, a5, c5, r5⟩
        have k0 := L.r0.kept (r5.bes.block _ L.r0.lt (by omega))
        have r6 := L.rd.trans r5
        have hgl := k0.lt
        have n1 : ¬ w.heap.size = w3.heap.size := by omega
        have n2 : ¬ w3.heap.size = w.heap.size := by omega
        unfold WrV
        obtain ⟨z0, z1, z2, z3, v0, v1, v2, v3⟩ := k0.c4
        go_wp2_with fail
        refine bodyPost_ret (v := _) (ret_item (pt := 6) (u := 7) (by kernel_rfl) rfl ((blk_set4 k0 _ _ _ _).alloc _)) rfl ⟨TV.mk 0 0 ByteArray.empty none 0 [], _, rfl, rfl, a5, c5, (r6.new4 hp (Nat.le_refl _) _ _ _ _).ext (ext_new _ _)⟩
      · rw [hrr] at hC1
        rw [readL_one hrr] at hst
        obtain ⟨q1, q2, -⟩ := readI_sound _ _ _ _ _ _ _ hrr
        have q3 := x.size_pos
        show Code.wp _ _ _ _ _
        go_wp2_with fail
        refine hC1.mono ?_
        rintro e w3 ⟨t, er', rfl, rfl, hx, r5, hIt, hOv, hFit⟩
        have k0 := L.r0.kept (r5.bes.block _ L.r0.lt (by omega))
        have k1 := L.r1.kept (r5.bes.block _ L.r1.lt (by omega))
        have own3 := own_besides L.own r5.bes (by omega)
        have hgl := k1.lt
        have n1 : ¬ w.heap.size + 1 = w3.heap.size := by omega
        have n2 : ¬ w3.heap.size = w.heap.size + 1 := by omega
        obtain ⟨z0, z1, z2, z3, v0, v1, v2, v3⟩ := k1.c4
        have own5 := (own3.alloc (.cells #[.int .i64 t.kind, .int .i64 t.num, .string t.txt, .slice t.at_ t.kids.length t.cap] 24)).alloc (.cells #[.int .i64 t.kind, .int .i64 t.num, .string t.txt, .slice t.at_ t.kids.length t.cap] 24)
        have kk := (k1.alloc (.cells #[.int .i64 t.kind, .int .i64 t.num, .string t.txt, .slice t.at_ t.kids.length t.cap] 24)).alloc (.cells #[.int .i64 t.kind, .int .i64 t.num, .string t.txt, .slice t.at_ t.kids.length t.cap] 24)
        have h60 : k ≤ 60 := Nat.le_trans L.kc L.c60
        go_wp2_with (at_builtin; refine wpList_append_own_at _ rfl _ _ 22 rfl (w.heap.size + 2) 24 i0 (.agg #[.int .i64 0, .int .i64 0, .string ByteArray.empty, .slice none 0 0]) 4 56 Tryz.underlying22 hi0 hz0 hz1 hz2 rfl (by omega) _ _ _ rfl own5 ⟨w3.heap.size + 1, 0, none⟩ 1 1 [.int .i64 t.kind, .int .i64 t.num, .string t.txt, .slice t.at_ t.kids.length t.cap] rfl rfl (fun j u hj => by have := new_cells (w3.alloc (.cells #[.int .i64 t.kind, .int .i64 t.num, .string t.txt, .slice t.at_ t.kids.length t.cap] 24)) [.int .i64 t.kind, .int .i64 t.num, .string t.txt, .slice t.at_ t.kids.length t.cap] 24 j u hj; rw [World.size_alloc] at this; exact this) (by intro u hu; simp only [List.mem_cons, List.not_mem_nil, or_false] at hu; obtain rfl | rfl | rfl | rfl := hu <;> rfl) (by unfold maxLen; omega) (by omega) (by simp; omega) ?_; intro v' w6 own6 hgrow _ hat; obtain ⟨A1, cp1, rfl⟩ := own_form own6; have k6 := kk.kept (hgrow.block _ kk.lt (own_lo own5 (by omega))); obtain ⟨y0, y1, y2, y3, yy0, yy1, yy2, yy3⟩ := k6.c4)
        go_roundw
        case rel =>
          have b5 : Below w3.heap.size w3 _ := ((Below.refl _ w3).alloc (Nat.le_refl _) (.cells #[.int .i64 t.kind, .int .i64 t.num, .string t.txt, .slice t.at_ t.kids.length t.cap] 24)).alloc (by simp) (.cells #[.int .i64 t.kind, .int .i64 t.num, .string t.txt, .slice t.at_ t.kids.length t.cap] 24)
          have r6 := ((((L.rd.trans r5).ext (ext_new _ (.cells #[.int .i64 t.kind, .int .i64 t.num, .string t.txt, .slice t.at_ t.kids.length t.cap] 24))).ext (ext_new _ (.cells #[.int .i64 t.kind, .int .i64 t.num, .string t.txt, .slice t.at_ t.kids.length t.cap] 24))).grown hgrow hp (fun j hj => own_lo own5 (by omega))).new_ hp (show w.heap.size ≤ w.heap.size + 1 by omega) 3 (.slice A1 (k + 1) cp1)
          have g5 := b5.size
          have hold : ∀ u, Tr f (w.heap.size + 2) v.ownBlock w3 u → Tr f (w.heap.size + 2) (Value.slice A1 (k + 1) cp1).ownBlock (w6.setCell ⟨w.heap.size + 1, 3, none⟩ (.slice A1 (k + 1) cp1)) u := fun u hu => by
            refine ((hu.later g5 (fun j hj hj2 hj3 => b5.block j hj2)).grow hgrow hat).later (by rw [World.size_setCell]; exact Nat.le_refl _) ?_
            intro j hj hj2 hj3
            rw [Below.heap_setCell _ _ _ _ (by simp; omega)]
          have hkc := L.kc
          refine ⟨k + 1, _, ts ++ [t], c2, a2, by go_num, by rw [List.length_append, L.len]; rfl, by omega, by omega, q2, r6, ?_, ?_, k6.set_ 3 _, ?_, ?_⟩
          · rw [hst, pre_pre, items_snoc, hx, show n - (k + 1) = m by omega]
          · exact (((k0.alloc _).alloc _).kept (hgrow.block _ (k0.alloc _ |>.alloc _ |>.lt) (own_lo own5 (by omega)))).set_other (by omega) _ _
          · rw [cellsT_snoc]
            exact own_besides own6 ((Besides.refl (w.heap.size + 1) _).set_ 3 _) (by omega)
          · intro u hu
            rcases List.mem_append.1 hu with hu | hu
            · exact hold u ((L.tr u hu).later r5.bes.size fun j hj hj2 hj3 => r5.bes.block j hj2 (by omega))
            · rw [List.mem_singleton.1 hu]
              exact hold t ⟨hIt, hOv.off.imp hIt (fun j hj hj2 => ⟨by omega, own_hi L.own hj⟩), hFit⟩
        case measure => simp [intOf]; omega
    · obtain rfl : k = n := Nat.le_antisymm L.kn (by omega)
      have i1 : ¬ ((k : Int) < (k : Int)) := by omega
      have hst := L.st
      rw [Nat.sub_self] at hst
      have hst2 : readL (readI s.data.toList f) k c a = .ok c' a' (TV.items ts) := by rw [hst]; show RRs.ok c' a' (TV.items ts ++ []) = _; rw [List.append_nil]
      clear hst
      rw [hst2]
      obtain ⟨A0, cp, rfl⟩ := own_form L.own
      obtain ⟨z0, z1, z2, z3, v0, v1, v2, v3⟩ := L.r0.c4
      obtain ⟨y0, y1, y2, y3, yy0, yy1, yy2, yy3⟩ := L.r1.c4
      have hlen := L.len
      have hkc := L.kc
      have h60 := L.c60
      show Code.wp _ _ _ _ _
      go_wp2_with fail
      refine bodyPost_ret (v := _) (ret_item (pt := 6) (u := 7) (by kernel_rfl) rfl (blk_set4 L.r0 _ _ _ _)) rfl ⟨TV.mk 4 0 ByteArray.empty A0 cp ts, .nilIface, ?_, rfl, rfl, L.rd.new4 hp (Nat.le_refl _) _ _ _ _, ?_, ?_, ?_⟩
      · show _ = Ending.returned (.tuple #[.agg #[.int .i64 4, .int .i64 0, .string ByteArray.empty, .slice A0 ts.length cp], .nilIface])
        rw [hlen]
        rfl
      · have hown := own_besides (g0 := w.heap.size) L.own (((((Besides.refl w.heap.size wr).set_ 0 (.int .i64 4)).set_ 1 (.int .i64 0)).set_ 2 (.string ⟨#[]⟩)).set_ 3 (.slice A0 k cp)) (by omega)
        obtain ⟨-, A', c9, e9, hr⟩ := rowT_own hown
        injection e9 with e9
        rw [← e9] at hr
        refine .mk hr fun u hu => (L.tr u hu).at_.keptQ (L.tr u hu).off (fun j hj hj2 => ?_) (by simp)
        rw [Below.heap_setCell _ _ _ _ (by simp; omega), Below.heap_setCell _ _ _ _ (by simp; omega), Below.heap_setCell _ _ _ _ (by simp; omega), Below.heap_setCell _ _ _ _ (by simp; omega)]
      · refine .mk (fun ad e _ => ?_) fun u hu => (L.tr u hu).off.over fun j hj => by omega
        rw [e] at L
        exact Nat.le_of_not_lt fun hlt => own_lo L.own (k := ad.block) (by omega) rfl
      · exact .mk (by omega) (by simp) fun u hu => (L.tr u hu).fit

end Go.Proofs.YtmoghgmbpkpcfaaGreatDoor
