/-
  A queue's state in memory: snapshot. Conditions: as the theorem's own hypotheses say. A queue's state in memory: owed (with slices.Grow, slices.Concat). Conditions: as the theorems' own hypotheses say.
-/
import Derived.Test.YtmebjdbkngehiaaGreatDoorQhE
import Derived.Test.YtmebjdbkngehiaaGreatDoorQhB
import Derived.Test.YtmebjdbkngehiaaGreatDoorQuE
import Derived.Deep.Upon
import Derived.Lib.AppendZeros
namespace Go.Proofs.YtmebjdbkngehiaaGreatDoor
open Go.RowKit Go.Shelf
set_option maxHeartbeats 40000000
variable {w A W B : World} {n e : Nat} {xs rs : List RI} {V : Value} {c : QC}
attribute [local go_sem] Oper.semAt_some
theorem find_place (l : List EI) (id : Int) : l.find? (fun e => decide (e.id = id)) = (placeL l id).bind fun i => l[i]? := by
 induction l with
 | nil => rfl
 | cons e l ih =>
  rw [List.find?_cons, placeL]
  by_cases h : e.id = id
  ·rw [if_pos h, decide_eq_true h]; rfl
  ·rw [if_neg h, decide_eq_false h]
   dsimp only
   rw [ih]
   cases placeL l id <;> simp
theorem snap_snoc (s : SN) (pre : List KI) (x : KI) : (pre ++ [x]).flatMap s.recs = pre.flatMap s.recs ++ s.recs x := by simp
def MoreAt (w : World) (A : Option Addr) (n : Nat) (xs : List RI) : Prop := xs.length = n ∧ ((A = none ∧ n = 0) ∨ ∃ ad, A = some ad ∧ ad.block < w.heap.size ∧ ∀ j u, (cellsQ xs)[j]? = some u → w.cell? (ad.add j) = some u)
theorem MoreAt.below {w' : World} {A : Option Addr} (h : MoreAt w A n xs) (hb : Below w.heap.size w w') : MoreAt w' A n xs := by
 refine ⟨h.1, h.2.imp id ?_⟩
 rintro ⟨ad, h1, h2, h3⟩
 exact ⟨ad, h1, Nat.lt_of_lt_of_le h2 hb.size, fun j u hj => (hb.cell (by rw [add_blk]; exact h2)).trans (h3 j u hj)⟩
theorem cellsQ_one (l : List RI) : ∀ u ∈ cellsQ l, u.oneCell' = true := by
 intro u hu
 obtain ⟨r, -, hr⟩ := List.mem_flatMap.1 hu
 simp only [RI.cs, List.mem_cons, List.not_mem_nil, or_false] at hr
 obtain rfl | rfl | rfl := hr <;> rfl
theorem run_more {base m : Nat} {A : Option Addr} {cp : Nat} {cs : List Value} (hx : MoreAt W A n xs) (hown : W.ownsRow base 128 3 V m cs) (h63 : m + n ≤ 1000) (hb : base ≤ W.heap.size) (ty : TypeId) :
  ∃ V' W', (Builtin.append_ #[132, 132] ty #[V, .slice A n cp]).run Tryz.prog W = .ok V' W' ∧ W'.ownsRow base 128 3 V' (m + n) (cs ++ cellsQ xs) ∧ W.grownBy W' V.ownBlock := by
 obtain ⟨i0, hi0, hz0, hz1, hz2⟩ := info_parts infoR
 obtain ⟨hn, ⟨rfl, rfl⟩ | ⟨ad, rfl, -, hc⟩⟩ := hx
 ·obtain rfl : xs = [] := List.length_eq_zero_iff.1 hn
  have hle : ∃ A1 c1, V = .slice A1 m c1 ∧ m ≤ c1 := by
   obtain ⟨h0, ⟨rfl, h1⟩ | ⟨g, cap, cur, rfl, h1, h2, h3, h4, h5, h6⟩⟩ := hown
   ·exact ⟨none, 0, by rw [h1], by omega⟩
   ·exact ⟨_, _, rfl, by omega⟩
  obtain ⟨A1, c1, rfl, hle⟩ := hle
  exact ⟨_, W, run_append_nothing W _ _ ty 128 i0 Tryz.underlying132 hi0 A1 m c1 hle _ (Src.ofNil W Tryz.underlying132 cp), by simpa [cellsQ] using hown, World.grownBy.refl _ _⟩
 ·obtain ⟨V', W', h1, h2, h3, -⟩ := run_append_own (P := Tryz.prog) W base 132 ty 128 i0 (.agg #[.int .i64 0, .int .i64 0, .string ByteArray.empty]) 3 32 Tryz.underlying132 hi0 hz0 hz1 hz2 rfl (by omega) V m cs hown ad n cp (cellsQ xs) (by rw [cellsQ_length, hn]) hc (cellsQ_one xs) (by unfold maxLen; omega) (by omega) hb
  exact ⟨V', W', h1, h2, h3⟩
structure SnB (e : Nat) (c : QC) (w : World) (rs : List RI) (W : World) (V : Value) : Prop where
 l : Blk W (e + 1) 132 #[V]
 box : Blk W e 159 #[.pointer (some ⟨c.b, 0, none⟩)]
 own : W.ownsRow (e + 5) 128 3 V rs.length (cellsQ rs)
 below : Below e w W
 size : e + 3 ≤ W.heap.size
structure Tr (e : Nat) (A B : World) : Prop where
 keeps : KeepsOthers A B
 low : ∀ k, k ≤ e + 2 → k ≠ e + 1 → B.heap[k]? = A.heap[k]?
theorem Tr.trans {C : World} (h : Tr e A B) (k : Tr e B C) : Tr e A C := ⟨h.keeps.trans k.keeps, fun i a b => (k.low i a b).trans (h.low i a b)⟩
theorem Tr.of_below (h : Below A.heap.size A B) (hs : e + 3 ≤ A.heap.size) : Tr e A B :=
 ⟨⟨h.size, fun k o hk _ => (h.block k (Array.getElem?_eq_some_iff.1 hk).1).trans hk⟩, fun k hk _ => h.block k (by omega)⟩
theorem SnB.later (h : SnB e c w rs A V) (hb : Below A.heap.size A B) : SnB e c w rs B V :=
 ⟨h.l.below hb, h.box.below hb, own_below h.own hb, h.below.trans (hb.mono (by have := h.size; omega)), Nat.le_trans h.size hb.size⟩
theorem SnB.app {v' : Value} {r : RI} {o : Obj} (h : SnB e c w rs A V) (hown : W.ownsRow (e + 5) 128 3 v' (rs.length + 1) (cellsQ rs ++ r.cs)) (hg : (A.alloc o).grownBy W V.ownBlock) (he : e ≤ w.heap.size) :
  SnB e c w (rs ++ [r]) (W.setCell ⟨e + 1, 0, none⟩ v') v' ∧ Tr e A (W.setCell ⟨e + 1, 0, none⟩ v') ∧ Blk W (e + 1) 132 #[V] ∧ Tr e A W := by
 have hs := h.size
 have ho : ∀ k, some k = V.ownBlock → e + 5 ≤ k := fun k hk => (h.own.lt k hk.symm).1
 have low : ∀ k, k ≤ e + 2 → W.heap[k]? = A.heap[k]? := fun k hk => (hg.block k (by rw [World.size_alloc]; omega) (fun q => by have := ho k q; omega)).trans (Below.heap_alloc _ _ _ (by omega))
 have hl : Blk W (e + 1) 132 #[V] := h.l.kept (low _ (by omega))
 refine ⟨⟨hl.set_ 0 v', (h.box.kept (low e (by omega))).set_other (by show e ≠ e + 1; omega) _ _, ?_, ?_, ?_⟩, ⟨?_, fun k a b => (Below.heap_setCell _ _ _ _ (by simpa using b)).trans (low k a)⟩, hl, ⟨?_, fun k a _ => low k a⟩⟩
 ·rw [List.length_append, cellsQ_snoc]
  exact own_besides hown ((Besides.refl (e + 1) W).set_ 0 v') (by omega)
 ·exact (below_append (h.below.alloc (by omega) o) (h.own.alloc o) (by omega) he hg).setCell (p := ⟨e + 1, 0, none⟩) (show e ≤ e + 1 by omega) _
 ·rw [World.size_setCell]; have := hg.size; rw [World.size_alloc] at this; omega
 ·exact ((KeepsOthers.alloc A o).trans (KeepsOthers.of_grownBy hg (fun j o' ej hj => own_cells (h.own.alloc o) ej hj))).trans (KeepsOthers.setCell W _ _)
 ·exact (KeepsOthers.alloc A o).trans (KeepsOthers.of_grownBy hg (fun j o' ej hj => own_cells (h.own.alloc o) ej hj))
set_option maxRecDepth 100000 in
theorem snap_any {v : QV} {s : SN} (h : SAt w c v s) (hk : s.K.length ≤ 60) (hl : s.L.length ≤ 1000) (hr : ∀ x ∈ s.L, x.right = true) (A : Option Addr) (cp n : Nat) (xs : List RI) (hx : MoreAt w A n xs) (hxl : n ≤ 100) (aA aT aN aW aS : Addr) (hIn : CInv w aA aT aN aW aS) :
  Calls Tryz.prog 99 #[.pointer (some ⟨c.b, 0, none⟩), .slice A n cp] w (Ret (.string (layV (s.snap ++ xs)).1) w) := by
 obtain ⟨i0, hi0, hz0, hz1, hz2⟩ := info_parts infoR
 obtain ⟨vi, vl, ve⟩ := v
 obtain ⟨Ae, ce, hve⟩ := own_form h.ent
 obtain ⟨N, hN⟩ : ∃ N, s.L.length = N := ⟨_, rfl⟩
 dsimp only at hve
 rw [hN] at hve hl
 subst hve
 have HX := Lib.hid hx
 have HI := Lib.hid hIn
 clear hx hIn
 refine callsIn_wide.1 (callsIn_of_wp_marks (n := 5) Tryz.func99 rfl trivial ?_ rfl)
 simp only [Tryz.ntmps99, List.size_toArray, List.length_cons, List.length_nil, Nat.reduceAdd, Nat.reduceSub, Array.replicate_succ, Array.replicate_zero, List.push_toArray, List.append_toArray, List.nil_append, List.cons_append]
 refine wpIn_wide.2 ?_
 go_wp2_with fail
 refine (each_any c.b _).mono ?_
 rintro ev w5 ⟨rfl, rfl⟩
 go_wp2_with fail
 have hlt : ∀ k, QF c ⟨vi, vl, .slice Ae N ce⟩ k → k < w.heap.size := fun k q => h.lt q
 obtain ⟨e, he⟩ : ∃ e, w.heap.size = e := ⟨_, rfl⟩
 have p0 : SnB e c w [] (((w.alloc (.cells #[.pointer (some ⟨c.b, 0, none⟩)] 159)).alloc (.cells #[.slice none 0 0] 132)).alloc (.cells #[.pointer (some ⟨c.b, 0, none⟩)] 254)) (.slice none 0 0) :=
  ⟨(Blk.at_ (by simp [he])).alloc _, ((Blk.at_ (by simp [he])).alloc _).alloc _, own_nil, by rw [← he]; exact ext_alloc (ext_alloc (ext_new w _) _) _, by simp [he]⟩
 have p1 : Blk (((w.alloc (.cells #[.pointer (some ⟨c.b, 0, none⟩)] 159)).alloc (.cells #[.slice none 0 0] 132)).alloc (.cells #[.pointer (some ⟨c.b, 0, none⟩)] 254)) (e + 1 + 1) 254 #[.pointer (some ⟨c.b, 0, none⟩)] := Blk.at_ (by simp [he])
 have hW5s : (((w.alloc (.cells #[.pointer (some ⟨c.b, 0, none⟩)] 159)).alloc (.cells #[.slice none 0 0] 132)).alloc (.cells #[.pointer (some ⟨c.b, 0, none⟩)] 254)).heap.size = e + 3 := by simp [he]
 have HE := Lib.hid he
 rw [he] at hlt ⊢
 generalize ((w.alloc (.cells #[.pointer (some ⟨c.b, 0, none⟩)] 159)).alloc (.cells #[.slice none 0 0] 132)).alloc (.cells #[.pointer (some ⟨c.b, 0, none⟩)] 254) = W5 at *
 have HSA := Lib.hid (fun (W : World) (q : Below e w W) => h.below (he ▸ q))
 clear he
 refine wpIn_wide.1 (wpIn_rangeX (n := 5) (gf := 164) (lb := #[.pointer (some ⟨e + 1 + 1, 0, none⟩)]) rfl (by omega) rfl trivial (enters_of Tryz.func164 (by kernel_rfl) rfl)
  (keys_seq c ⟨vi, vl, .slice Ae N ce⟩ s (by omega) (e + 1 + 1) _) (fun _ => rfl) ?hSt ?hSe (fun h k i hi => (k i hi).trans (h i hi)) ?hKb ?hMb
  (fun pre W => ∃ V, SnB e c w (pre.flatMap s.recs) W V) (fun _ _ _ => False) ?hI (fun _ _ _ _ _ h _ _ => h) ?hIM (fun _ _ _ _ h _ => h) ⟨_, p0⟩ ?hround ?hdone (fun _ _ _ _ h _ => h.elim))
 case hSt => exact fun o o' => ⟨(p1.alloc _).alloc _, ((HSA.out _ p0.below).below (ext_new _ o)).below (ext_new _ o')⟩
 case hSe => exact fun xs W l o o' _ _ _ h => h
 case hKb =>
  intro W l o o' hl2 ho _ k hk
  refine World.putObj_heap_other ?_
  rcases hk with rfl | hk
  ·omega
  ·have := hlt k hk; omega
 case hMb =>
  rintro A B hM l o hl2 ho _
  have hM : B = A := hM
  rw [hM]; exact ho
 case hI =>
  rintro pre A B row ⟨V, b⟩ hgr hr
  have := hgr.size
  have q : ∀ k, k ≤ e + 2 → B.heap[k]? = A.heap[k]? := fun k hk => hgr.block k (by have := b.size; omega) (fun q => by have := (hr k q.symm).1; omega)
  exact ⟨V, b.l.kept (q _ (by omega)), b.box.kept (q _ (by omega)), own_other b.own hgr (fun r e => (hr r e).2), b.below.grown hgr (by have := b.size; omega) (fun r e => by have := (hr r e).1; omega), by have := b.size; omega⟩
 case hIM =>
  rintro pre A B b hM
  have hM : B = A := hM
  rw [hM]; exact b
 case hround =>
  rintro l pre x W hIp ⟨t, ht⟩ hlW
  unfold keyE
  simp only [List.zip_toArray, List.zip_cons_cons, List.zip_nil_right, List.foldl_toArray, List.foldl_cons, List.foldl_nil, List.setIfInBounds_toArray, List.set_cons_succ, List.set_cons_zero]
  gi_wp2
  refine ⟨KeepsFrom.refl _ _, fun _ _ => trivial, hIp, ?_⟩
  rintro Wb ⟨V, hS⟩ hWb
  have hs4 : e + 4 ≤ Wb.heap.size := by
   have h1 : Wb.heap[e + 3]? = W.heap[e + 3]? := hWb (e + 3) (by omega)
   rw [Array.getElem?_eq_getElem (show e + 3 < W.heap.size by omega)] at h1
   have := (Array.getElem?_eq_some_iff.1 h1).1
   omega
  clear hWb hIp hlW
  have hlen : (pre.flatMap s.recs).length ≤ 120 := by
   have h1 : ∀ K : List KI, (K.flatMap s.recs).length ≤ 2 * K.length := by
    intro K
    induction K with
    | nil => simp
    | cons k K ih =>
     rw [List.flatMap_cons, List.length_append, List.length_cons]
     have := recs_length s k
     omega
   have h2 := congrArg List.length ht
   rw [List.length_append, List.length_cons] at h2
   have := h1 pre
   omega
  have HSN := Lib.hid (snap_snoc s pre x)
  have HTR := Lib.hid (fun (B : World) (q : Tr e Wb B) => (show KeepsFrom W5.heap.size Wb B ∧ ∀ k, k = e + 1 + 1 ∨ QF c ⟨vi, vl, .slice Ae N ce⟩ k → B.heap[k]? = Wb.heap[k]? from ⟨q.keeps.from _, fun k hk => q.low k (by
   rcases hk with rfl | hk
   ·omega
   ·have := hlt k hk; omega) (by
   rcases hk with rfl | hk
   ·omega
   ·have := hlt k hk; omega)⟩))
  have hst := HSA.out _ hS.below
  have hA := at_any x.id hst (by omega)
  have bx := hS.box.c1.1
  generalize pre.flatMap s.recs = rs at *
  clear ht
  cases hp : placeL s.L x.id with
  | none =>
   have hz : placeZ s.L x.id = -1 := by unfold placeZ; rw [hp]
   have hrec : s.recs x = [⟨5, x.id, x.text⟩] := by rw [SN.recs, find_place, hp]; rfl
   rw [hz] at hA
   have HREC := Lib.hid hrec
   clear hz hp hrec
   gi_wp2
   refine ⟨trivial, (CallsIn.inRound _ (callsIn_wide.2 hA)).mono ?_⟩
   rintro ev w3 ⟨rfl, hb3⟩
   have hT : Tr e Wb w3 := Tr.of_below hb3 (by omega)
   have hS3 := hS.later hb3
   have hw3 := hb3.size
   obtain ⟨A1, c1, rfl⟩ := own_form hS3.own
   have cV := hS3.l.c1.1
   have hown := hS3.own
   have hone : ∀ u ∈ (⟨5, x.id, x.text⟩ : RI).cs, u.oneCell' = true := by
    intro u hu
    simp only [RI.cs, List.mem_cons, List.not_mem_nil, or_false] at hu
    obtain rfl | rfl | rfl := hu <;> rfl
   have hnw := new_cells w3 (⟨5, x.id, x.text⟩ : RI).cs 128
   have HAP := Lib.hid (fun (v' : Value) (W2 : World) q1 q2 => SnB.app (v' := v') (W := W2) (r := ⟨5, x.id, x.text⟩) (o := .cells #[.int .i64 5, .int .i64 x.id, .string x.text] 128) hS3 q1 q2 (Nat.le_of_eq HE.out.symm))
   unfold RI.cs at hone hnw
   clear hA hst hS hb3 bx hlt
   gi_wp2_with (gi_at_builtin; refine wpListIn_append_own _ rfl (.tmp 26) (.tmp 30) 132 rfl (e + 5) 128 i0 (.agg #[.int .i64 0, .int .i64 0, .string ByteArray.empty]) 3 32 Tryz.underlying132 hi0 hz0 hz1 hz2 rfl (by omega) (.slice A1 rs.length c1) rs.length (cellsQ rs) rfl (hown.alloc _) ⟨w3.heap.size, 0, none⟩ 1 1 [.int .i64 5, .int .i64 x.id, .string x.text] rfl rfl hnw hone (by unfold maxLen; omega) (by omega) (by simp; omega) ?_; intro v' w4 hown4 hgrow _; obtain ⟨A', c', rfl⟩ := own_form hown4; have hfin := HAP.out _ w4 hown4 hgrow; have cbx := hfin.2.2.1.c1.1; have fbx := hfin.2.2.1.c1.2)
   exact ⟨(HTR.out _ (hT.trans hfin.2.1)).1, (HTR.out _ (hT.trans hfin.2.1)).2, _, by rw [HSN.out, HREC.out]; exact hfin.1⟩
  | some i =>
   have hz : placeZ s.L x.id = (i : Int) := by unfold placeZ; rw [hp]
   obtain ⟨hi, -, -⟩ := placeL_some hp
   obtain ⟨en, hen⟩ : ∃ en, s.L[i] = en := ⟨_, rfl⟩
   obtain ⟨q, hq⟩ : ∃ q, en.ri = q := ⟨_, rfl⟩
   have hrec : s.recs x = q :: if en.sent then [⟨2, x.id, ByteArray.empty⟩] else [] := by rw [SN.recs, find_place, hp, Option.bind_some, List.getElem?_eq_getElem hi, hen, ← hq]
   obtain ⟨-, A3, c3, e3, hr3⟩ := rowE_own hst.ent
   obtain ⟨g, hg, -⟩ := hr3 (by omega)
   dsimp only at e3
   rw [hN] at e3
   injection e3 with e3 _ e4
   rw [hg] at e3
   subst e3 e4
   have HEN := Lib.hid (fun (X : World) (q : SAt X c ⟨vi, vl, .slice (some ⟨g, 0, none⟩) N ce⟩ s) => (show X.cell? ⟨c.b, 2, none⟩ = some (.slice (some ⟨g, 0, none⟩) N ce) ∧ EAt X g (i * 7) en from ⟨q.blk.c7.1.2.2.1, by
    obtain ⟨-, A3, c3, e3, hr3⟩ := rowE_own q.ent
    obtain ⟨g3, hg3, -, hc⟩ := hr3 (by omega)
    dsimp only at e3
    injection e3 with e3 _ _
    rw [hg3] at e3
    injection e3 with e3
    injection e3 with e3
    rw [e3, ← hen]
    exact hc i hi⟩))
   have hright := hr en (by rw [← hen]; exact List.getElem_mem hi)
   rw [hz, decide_eq_true (show (0 : Int) ≤ (i : Int) by omega)] at hA
   have HREC := Lib.hid (fun (X : World) (b : Below w.heap.size w X) => (show Calls Tryz.prog 105 #[.agg #[.int .i64 en.id, .int .i64 en.side, .string en.key, .string en.data, .int .i64 en.due, .bool en.cust, .bool en.sent]] X (Ret (.agg #[.int .i64 q.op, .int .i64 q.id, .string q.d]) X) from by
    have := record_any en X aN aW aS (HI.out.below b).nums hright
    rw [hq] at this
    exact this))
   have HRC := Lib.hid hrec
   have HHE := Lib.hid (show e ≤ w.heap.size from Nat.le_of_eq HE.out.symm)
   have HKP := Lib.hid (fun (X : World) (t : Tr e Wb X) => (show Blk X e 159 #[.pointer (some ⟨c.b, 0, none⟩)] ∧ SAt X c ⟨vi, vl, .slice (some ⟨g, 0, none⟩) N ce⟩ s from ⟨hS.box.kept (t.low e (by omega) (by omega)), hst.kept fun k hk => t.low k (by have := hlt k hk; omega) (by have := hlt k hk; omega)⟩))
   have i0' : (0 : Int) ≤ (i : Int) := by omega
   have i1 : (i : Int) < (N : Int) := by omega
   clear hz hp hrec hright hen hq hr3 hg hi
   gi_wp2
   refine ⟨trivial, (CallsIn.inRound _ (callsIn_wide.2 hA)).mono ?_⟩
   rintro ev w3 ⟨rfl, hb3⟩
   have hT : Tr e Wb w3 := Tr.of_below hb3 (by omega)
   have hS0 := (hS.later hb3).later (Below.refl _ w3).drew
   have hw3 := hb3.size
   have hT0 : Tr e Wb w3.drew := hT.trans (Tr.of_below (Below.refl _ w3).drew (by omega))
   obtain ⟨A1, c1, rfl⟩ := own_form hS0.own
   have hL := hS0.l
   have hw0 : Below w.heap.size w w3.drew := HE.out ▸ hS0.below
   have hwz : w3.drew.heap.size = w3.heap.size := rfl
   clear hA hst hS hb3 bx hlt hT
   gi_wp2
   refine round_held (S := (fun V : World => Blk V e 159 #[.pointer (some ⟨c.b, 0, none⟩)] ∧ SAt V c ⟨vi, vl, .slice (some ⟨g, 0, none⟩) N ce⟩ s)) (by kernel_rfl) (fun q => by obtain ⟨_, _, q⟩ := q; exact q) (by kernel_rfl) (HKP.out _ hT0) (fun hHeld => ?_)
   generalize w3.drew = W0 at *
   refine tk_ 1 33 rfl rfl ?_ (fun wx hSx => by have g0 := hSx.1.c1.1; have g1 := (HEN.out _ hSx.2).1; obtain ⟨c0, c1, c2, c3, c4, c5, c6⟩ := (HEN.out _ hSx.2).2; go_simp; try with_reducible rfl)
   refine tk_ 2 34 rfl rfl ?_
   refine tk_ 3 35 rfl rfl ?_
   refine tk_ 4 36 rfl rfl ?_ (fun wx hSx => by have g0 := hSx.1.c1.1; have g1 := (HEN.out _ hSx.2).1; obtain ⟨c0, c1, c2, c3, c4, c5, c6⟩ := (HEN.out _ hSx.2).2; go_simp; try with_reducible rfl)
   refine tk_ 5 37 rfl rfl ?_
   refine tk_ 6 38 rfl rfl ?_
   refine tk_ 7 39 rfl rfl ?_ (fun wx hSx => by have g0 := hSx.1.c1.1; have g1 := (HEN.out _ hSx.2).1; obtain ⟨c0, c1, c2, c3, c4, c5, c6⟩ := (HEN.out _ hSx.2).2; go_simp; try with_reducible rfl)
   refine rdy2 0 8 rfl rfl (fun K hK => ?_) (fun K hK => ?_)
   ·have x2 := hL.c1.1
    go_simp
    refine hK.out _ _ hHeld (fun hHeld => ?_)
    clear hK K
    refine rdy1 8 rfl (fun K hK => ?_)
    go_simp
    with_reducible refine (HREC.out _ hw0).mono ?_
    rintro ev w4 ⟨rfl, hb4⟩
    replace hL := hL.below hb4
    have hS4 := hS0.later hb4
    have hT4 := hT0.trans (Tr.of_below hb4 (by have := hS0.size; omega))
    have hs4 := hb4.size
    try go_wp2_with fail
    refine hK.out _ _ (HKP.out _ hT4) (fun hHeld => ?_)
    clear hK K
    refine rdy1 9 rfl (fun K hK => ?_)
    have hN := Blk.new_ w4 128 #[.int .i64 q.op, .int .i64 q.id, .string q.d]
    go_simp
    replace hL := hL.alloc (.cells #[.int .i64 q.op, .int .i64 q.id, .string q.d] 128)
    refine hK.out _ _ (HKP.out _ (hT4.trans (Tr.of_below (ext_new _ _) (by omega)))) (fun hHeld => ?_)
    clear hK K
    refine rdy1 10 rfl (fun K hK => ?_)
    refine step_append_lies _ (by rfl) _ _ _ (by rfl) (e + 5) 128 i0 (.agg #[.int .i64 0, .int .i64 0, .string ByteArray.empty]) 3 32 Tryz.underlying132 hi0 hz0 hz1 hz2 rfl (by omega) (.slice A1 rs.length c1) rs.length _ (by rfl) (hS4.own.alloc (.cells #[.int .i64 q.op, .int .i64 q.id, .string q.d] 128)) ⟨_, 0, none⟩ 1 1 [.int .i64 q.op, .int .i64 q.id, .string q.d] (by rfl) rfl hN.cells_ (by intro u hu; simp only [List.mem_cons, List.not_mem_nil, or_false] at hu; obtain rfl | rfl | rfl := hu <;> rfl) (by omega) (by unfold maxLen; omega) (by omega) (by rw [World.size_alloc]; omega) _ rfl ?_
    intro g1 cap1 w5 hN2 hgrow hat hlt5
    have hfin := hS4.app (r := q) hN2 hgrow HHE.out
    refine hK.out _ _ (HKP.out _ (hT4.trans hfin.2.2.2)) (fun hHeld => ?_)
    clear hK K
    refine rdy1 11 rfl (fun K hK => ?_)
    have x := hfin.2.2.1.c1.1
    have y := hfin.2.2.1.c1.2
    go_simp
    clear x y
    refine hK.out _ _ (HKP.out _ (hT4.trans hfin.2.1)) (fun hHeld => ?_)
    clear hK K
    refine wpAnyH_done (by kernel_rfl) ?_ _
    try simp only [Act.put, List.setIfInBounds_toArray, List.set_cons_succ, List.set_cons_zero]
    have hT6 := hT4.trans hfin.2.1
    have hS6 := hfin.1
    have hK6 := HKP.out _ hT6
    have b6 := hK6.1.c1.1
    have b7 := (HEN.out _ hK6.2).1
    obtain ⟨-, -, -, -, -, -, b8⟩ := (HEN.out _ hK6.2).2
    generalize hW6 : w5.setCell ⟨e + 1, 0, none⟩ (.slice (some ⟨g1, 0, none⟩) (rs.length + 1) cap1) = W6 at *
    clear hW6 hfin hgrow hat hlt5 hK6 hS4 hT4 hN2 hN hL
    generalize en.sent = se at *
    cases se with
    | false =>
     gi_wp2
     exact ⟨(HTR.out _ hT6).1, (HTR.out _ hT6).2, _, by rw [HSN.out, HRC.out]; exact hS6⟩
    | true =>
     have b9 := hS6.l.c1.1
     have hone : ∀ u ∈ (⟨2, x.id, ByteArray.empty⟩ : RI).cs, u.oneCell' = true := by
      intro u hu
      simp only [RI.cs, List.mem_cons, List.not_mem_nil, or_false] at hu
      obtain rfl | rfl | rfl := hu <;> rfl
     have hnw := new_cells W6 (⟨2, x.id, ByteArray.empty⟩ : RI).cs 128
     have HAP := Lib.hid (fun (v' : Value) (W2 : World) q1 q2 => SnB.app (v' := v') (W := W2) (r := ⟨2, x.id, ByteArray.empty⟩) (o := .cells #[.int .i64 2, .int .i64 x.id, .string ByteArray.empty] 128) hS6 q1 q2 HHE.out)
     unfold RI.cs at hone hnw
     have hown6 := hS6.own
     rw [List.length_append, List.length_singleton] at hown6 HAP
     have hz6 := hT6.keeps.size
     have HT6 := Lib.hid hT6
     clear hS6 hT6
     gi_wp2_with (gi_at_builtin; refine wpListIn_append_own _ rfl (.tmp 51) (.tmp 54) 132 rfl (e + 5) 128 i0 (.agg #[.int .i64 0, .int .i64 0, .string ByteArray.empty]) 3 32 Tryz.underlying132 hi0 hz0 hz1 hz2 rfl (by omega) (.slice (some ⟨g1, 0, none⟩) (rs.length + 1) cap1) (rs.length + 1) (cellsQ (rs ++ [q])) rfl (hown6.alloc _) ⟨W6.heap.size, 0, none⟩ 1 1 [.int .i64 2, .int .i64 x.id, .string ByteArray.empty] rfl rfl hnw hone (by unfold maxLen; omega) (by omega) (by simp; omega) ?_; intro v' w7 hown7 hgrow _; obtain ⟨A', c', rfl⟩ := own_form hown7; have hfin := HAP.out _ w7 hown7 hgrow; have cbx := hfin.2.2.1.c1.1; have fbx := hfin.2.2.1.c1.2)
     have hZ := HTR.out _ (HT6.out.trans hfin.2.1)
     rw [hW5s] at hZ
     exact ⟨hZ.1, ⟨hZ.2 _ (.inl rfl), fun a q => hZ.2 a (.inr q)⟩, _, by rw [HSN.out, HRC.out]; simpa using hfin.1⟩
   ·go_simp
    with_reducible refine (HREC.out _ hw0).mono ?_
    rintro ev w4 ⟨rfl, hb4⟩
    replace hL := hL.below hb4
    have hS4 := hS0.later hb4
    have hT4 := hT0.trans (Tr.of_below hb4 (by have := hS0.size; omega))
    have hs4 := hb4.size
    try go_wp2_with fail
    refine hK.out _ _ (HKP.out _ hT4) (fun hHeld => ?_)
    clear hK K
    refine rdy2 0 9 rfl rfl (fun K hK => ?_) (fun K hK => ?_)
    ·have x2 := hL.c1.1
     go_simp
     refine hK.out _ _ hHeld (fun hHeld => ?_)
     clear hK K
     refine rdy1 9 rfl (fun K hK => ?_)
     have hN := Blk.new_ w4 128 #[.int .i64 q.op, .int .i64 q.id, .string q.d]
     go_simp
     replace hL := hL.alloc (.cells #[.int .i64 q.op, .int .i64 q.id, .string q.d] 128)
     refine hK.out _ _ (HKP.out _ (hT4.trans (Tr.of_below (ext_new _ _) (by omega)))) (fun hHeld => ?_)
     clear hK K
     refine rdy1 10 rfl (fun K hK => ?_)
     refine step_append_lies _ (by rfl) _ _ _ (by rfl) (e + 5) 128 i0 (.agg #[.int .i64 0, .int .i64 0, .string ByteArray.empty]) 3 32 Tryz.underlying132 hi0 hz0 hz1 hz2 rfl (by omega) (.slice A1 rs.length c1) rs.length _ (by rfl) (hS4.own.alloc (.cells #[.int .i64 q.op, .int .i64 q.id, .string q.d] 128)) ⟨_, 0, none⟩ 1 1 [.int .i64 q.op, .int .i64 q.id, .string q.d] (by rfl) rfl hN.cells_ (by intro u hu; simp only [List.mem_cons, List.not_mem_nil, or_false] at hu; obtain rfl | rfl | rfl := hu <;> rfl) (by omega) (by unfold maxLen; omega) (by omega) (by rw [World.size_alloc]; omega) _ rfl ?_
     intro g1 cap1 w5 hN2 hgrow hat hlt5
     have hfin := hS4.app (r := q) hN2 hgrow HHE.out
     refine hK.out _ _ (HKP.out _ (hT4.trans hfin.2.2.2)) (fun hHeld => ?_)
     clear hK K
     refine rdy1 11 rfl (fun K hK => ?_)
     have x := hfin.2.2.1.c1.1
     have y := hfin.2.2.1.c1.2
     go_simp
     clear x y
     refine hK.out _ _ (HKP.out _ (hT4.trans hfin.2.1)) (fun hHeld => ?_)
     clear hK K
     refine wpAnyH_done (by kernel_rfl) ?_ _
     try simp only [Act.put, List.setIfInBounds_toArray, List.set_cons_succ, List.set_cons_zero]
     have hT6 := hT4.trans hfin.2.1
     have hS6 := hfin.1
     have hK6 := HKP.out _ hT6
     have b6 := hK6.1.c1.1
     have b7 := (HEN.out _ hK6.2).1
     obtain ⟨-, -, -, -, -, -, b8⟩ := (HEN.out _ hK6.2).2
     generalize hW6 : w5.setCell ⟨e + 1, 0, none⟩ (.slice (some ⟨g1, 0, none⟩) (rs.length + 1) cap1) = W6 at *
     clear hW6 hfin hgrow hat hlt5 hK6 hS4 hT4 hN2 hN hL
     generalize en.sent = se at *
     cases se with
     | false =>
      gi_wp2
      exact ⟨(HTR.out _ hT6).1, (HTR.out _ hT6).2, _, by rw [HSN.out, HRC.out]; exact hS6⟩
     | true =>
      have b9 := hS6.l.c1.1
      have hone : ∀ u ∈ (⟨2, x.id, ByteArray.empty⟩ : RI).cs, u.oneCell' = true := by
       intro u hu
       simp only [RI.cs, List.mem_cons, List.not_mem_nil, or_false] at hu
       obtain rfl | rfl | rfl := hu <;> rfl
      have hnw := new_cells W6 (⟨2, x.id, ByteArray.empty⟩ : RI).cs 128
      have HAP := Lib.hid (fun (v' : Value) (W2 : World) q1 q2 => SnB.app (v' := v') (W := W2) (r := ⟨2, x.id, ByteArray.empty⟩) (o := .cells #[.int .i64 2, .int .i64 x.id, .string ByteArray.empty] 128) hS6 q1 q2 HHE.out)
      unfold RI.cs at hone hnw
      have hown6 := hS6.own
      rw [List.length_append, List.length_singleton] at hown6 HAP
      have hz6 := hT6.keeps.size
      have HT6 := Lib.hid hT6
      clear hS6 hT6
      gi_wp2_with (gi_at_builtin; refine wpListIn_append_own _ rfl (.tmp 51) (.tmp 54) 132 rfl (e + 5) 128 i0 (.agg #[.int .i64 0, .int .i64 0, .string ByteArray.empty]) 3 32 Tryz.underlying132 hi0 hz0 hz1 hz2 rfl (by omega) (.slice (some ⟨g1, 0, none⟩) (rs.length + 1) cap1) (rs.length + 1) (cellsQ (rs ++ [q])) rfl (hown6.alloc _) ⟨W6.heap.size, 0, none⟩ 1 1 [.int .i64 2, .int .i64 x.id, .string ByteArray.empty] rfl rfl hnw hone (by unfold maxLen; omega) (by omega) (by simp; omega) ?_; intro v' w7 hown7 hgrow _; obtain ⟨A', c', rfl⟩ := own_form hown7; have hfin := HAP.out _ w7 hown7 hgrow; have cbx := hfin.2.2.1.c1.1; have fbx := hfin.2.2.1.c1.2)
      have hZ := HTR.out _ (HT6.out.trans hfin.2.1)
      rw [hW5s] at hZ
      exact ⟨hZ.1, ⟨hZ.2 _ (.inl rfl), fun a q => hZ.2 a (.inr q)⟩, _, by rw [HSN.out, HRC.out]; simpa using hfin.1⟩
    ·have hN := Blk.new_ w4 128 #[.int .i64 q.op, .int .i64 q.id, .string q.d]
     go_simp
     replace hL := hL.alloc (.cells #[.int .i64 q.op, .int .i64 q.id, .string q.d] 128)
     refine hK.out _ _ (HKP.out _ (hT4.trans (Tr.of_below (ext_new _ _) (by omega)))) (fun hHeld => ?_)
     clear hK K
     refine rdy1 0 rfl (fun K hK => ?_)
     have x2 := hL.c1.1
     go_simp
     refine hK.out _ _ hHeld (fun hHeld => ?_)
     clear hK K
     refine rdy1 10 rfl (fun K hK => ?_)
     refine step_append_lies _ (by rfl) _ _ _ (by rfl) (e + 5) 128 i0 (.agg #[.int .i64 0, .int .i64 0, .string ByteArray.empty]) 3 32 Tryz.underlying132 hi0 hz0 hz1 hz2 rfl (by omega) (.slice A1 rs.length c1) rs.length _ (by rfl) (hS4.own.alloc (.cells #[.int .i64 q.op, .int .i64 q.id, .string q.d] 128)) ⟨_, 0, none⟩ 1 1 [.int .i64 q.op, .int .i64 q.id, .string q.d] (by rfl) rfl hN.cells_ (by intro u hu; simp only [List.mem_cons, List.not_mem_nil, or_false] at hu; obtain rfl | rfl | rfl := hu <;> rfl) (by omega) (by unfold maxLen; omega) (by omega) (by rw [World.size_alloc]; omega) _ rfl ?_
     intro g1 cap1 w5 hN2 hgrow hat hlt5
     have hfin := hS4.app (r := q) hN2 hgrow HHE.out
     refine hK.out _ _ (HKP.out _ (hT4.trans hfin.2.2.2)) (fun hHeld => ?_)
     clear hK K
     refine rdy1 11 rfl (fun K hK => ?_)
     have x := hfin.2.2.1.c1.1
     have y := hfin.2.2.1.c1.2
     go_simp
     clear x y
     refine hK.out _ _ (HKP.out _ (hT4.trans hfin.2.1)) (fun hHeld => ?_)
     clear hK K
     refine wpAnyH_done (by kernel_rfl) ?_ _
     try simp only [Act.put, List.setIfInBounds_toArray, List.set_cons_succ, List.set_cons_zero]
     have hT6 := hT4.trans hfin.2.1
     have hS6 := hfin.1
     have hK6 := HKP.out _ hT6
     have b6 := hK6.1.c1.1
     have b7 := (HEN.out _ hK6.2).1
     obtain ⟨-, -, -, -, -, -, b8⟩ := (HEN.out _ hK6.2).2
     generalize hW6 : w5.setCell ⟨e + 1, 0, none⟩ (.slice (some ⟨g1, 0, none⟩) (rs.length + 1) cap1) = W6 at *
     clear hW6 hfin hgrow hat hlt5 hK6 hS4 hT4 hN2 hN hL
     generalize en.sent = se at *
     cases se with
     | false =>
      gi_wp2
      exact ⟨(HTR.out _ hT6).1, (HTR.out _ hT6).2, _, by rw [HSN.out, HRC.out]; exact hS6⟩
     | true =>
      have b9 := hS6.l.c1.1
      have hone : ∀ u ∈ (⟨2, x.id, ByteArray.empty⟩ : RI).cs, u.oneCell' = true := by
       intro u hu
       simp only [RI.cs, List.mem_cons, List.not_mem_nil, or_false] at hu
       obtain rfl | rfl | rfl := hu <;> rfl
      have hnw := new_cells W6 (⟨2, x.id, ByteArray.empty⟩ : RI).cs 128
      have HAP := Lib.hid (fun (v' : Value) (W2 : World) q1 q2 => SnB.app (v' := v') (W := W2) (r := ⟨2, x.id, ByteArray.empty⟩) (o := .cells #[.int .i64 2, .int .i64 x.id, .string ByteArray.empty] 128) hS6 q1 q2 HHE.out)
      unfold RI.cs at hone hnw
      have hown6 := hS6.own
      rw [List.length_append, List.length_singleton] at hown6 HAP
      have hz6 := hT6.keeps.size
      have HT6 := Lib.hid hT6
      clear hS6 hT6
      gi_wp2_with (gi_at_builtin; refine wpListIn_append_own _ rfl (.tmp 51) (.tmp 54) 132 rfl (e + 5) 128 i0 (.agg #[.int .i64 0, .int .i64 0, .string ByteArray.empty]) 3 32 Tryz.underlying132 hi0 hz0 hz1 hz2 rfl (by omega) (.slice (some ⟨g1, 0, none⟩) (rs.length + 1) cap1) (rs.length + 1) (cellsQ (rs ++ [q])) rfl (hown6.alloc _) ⟨W6.heap.size, 0, none⟩ 1 1 [.int .i64 2, .int .i64 x.id, .string ByteArray.empty] rfl rfl hnw hone (by unfold maxLen; omega) (by omega) (by simp; omega) ?_; intro v' w7 hown7 hgrow _; obtain ⟨A', c', rfl⟩ := own_form hown7; have hfin := HAP.out _ w7 hown7 hgrow; have cbx := hfin.2.2.1.c1.1; have fbx := hfin.2.2.1.c1.2)
      have hZ := HTR.out _ (HT6.out.trans hfin.2.1)
      rw [hW5s] at hZ
      exact ⟨hZ.1, ⟨hZ.2 _ (.inl rfl), fun a q => hZ.2 a (.inr q)⟩, _, by rw [HSN.out, HRC.out]; simpa using hfin.1⟩
 case hdone =>
  rintro xs W hxs ⟨V, b⟩ hD
  have hxs : xs = s.K := hxs
  subst hxs
  rw [show s.K.flatMap s.recs = s.snap from rfl] at b
  have hsl : s.snap.length ≤ 120 := by
   have h1 : ∀ K : List KI, (K.flatMap s.recs).length ≤ 2 * K.length := by
    intro K
    induction K with
    | nil => simp
    | cons k K ih =>
     rw [List.flatMap_cons, List.length_append, List.length_cons]
     have := recs_length s k
     omega
   have := h1 s.K
   unfold SN.snap
   omega
  have hwE : w.heap.size = e := HE.out
  have hxr := HX.out.below (hwE ▸ b.below)
  obtain ⟨A1, c1, rfl⟩ := own_form b.own
  have bV := b.l.c1.1
  have hd3 : W.heap[e + 3]? = some (.deferred (some [])) := by rw [← hW5s]; exact hD
  have hown0 := own_base b.own (show e + 3 ≤ e + 5 by omega)
  obtain ⟨V', w8, hrun, hown8, hgrow⟩ := run_more (cp := cp) hxr hown0 (by omega) b.size 132
  have hd8 : w8.heap[e + 3]? = some (.deferred (some [])) := (hgrow.block (e + 3) (Array.getElem?_eq_some_iff.1 hd3).1 (fun q => by have := own_cells hown0 q.symm hd3; cases this)).trans hd3
  have hbl8 : Below e w w8 := below_append (by rw [← hwE]; exact hwE ▸ b.below) hown0 (by omega) (Nat.le_of_eq hwE.symm) hgrow
  have hcq : cellsQ s.snap ++ cellsQ xs = cellsQ (s.snap ++ xs) := by simp [cellsQ]
  have hln : s.snap.length + n = (s.snap ++ xs).length := by rw [List.length_append, hxr.1]
  rw [hcq] at hown8
  obtain ⟨-, A8, c8, rfl, hrd⟩ := rdR_own hown8
  have hL := Lay_any A8 c8 (s.snap.length + n) (s.snap ++ xs) w8 aA aT aN aW aS (HI.out.below (hwE ▸ hbl8)) hln.symm hrd (by omega)
  have HD8 := Lib.hid hd8
  have HB8 := Lib.hid hbl8
  generalize layV (s.snap ++ xs) = lv at *
  obtain ⟨out, eo⟩ := lv
  clear hd8 hbl8 hcq hln hrd hown8 hown0 hgrow hxr hD hd3
  go_wp2_with (at_builtin; refine Lib.wpList_append_run _ rfl _ _ _ _ rfl _ _ rfl rfl _ _ hrun ?_)
  refine hL.mono ?_
  rintro ev w9 ⟨rfl, hb9⟩
  have hD9 : w9.heap[e + 3]? = some (.deferred (some [])) := (hb9.block _ (Array.getElem?_eq_some_iff.1 HD8.out).1).trans HD8.out
  have HB9 := Lib.hid (HB8.out.trans (hb9.mono (by have := HB8.out.size; omega)))
  go_wp2_with fail
  refine ⟨by simp, .inl ⟨_, _, rfl, run_takeDeferred hD9, ?_⟩⟩
  exact ⟨_, results_tmp rfl _ _ _, rfl, by rw [hwE]; exact HB9.out.grown (grownBy_putObj' w9 (e + 3) _) (by have := HB9.out.size; omega) (fun k q => by cases q; omega)⟩
end Go.Proofs.YtmebjdbkngehiaaGreatDoor
namespace Go.Proofs.YtmebjdbkngehiaaGreatDoor
open Go.RowKit
set_option maxHeartbeats 4000000
variable {w : World} {A A2 : Option Addr} {n base n2 c2 : Nat} {l l2 : List EI}
set_option maxRecDepth 100000 in
theorem grow_any (n : Nat) (w : World) (h0 : 0 < n) (hn : n ≤ 2000) :
  Calls Tryz.prog 167 #[.slice none 0 0, .int .i64 (n : Int)] w fun e w' => ∃ V, e = .returned V ∧ w'.ownsRow w.heap.size 23 7 V 0 [] ∧ Below w.heap.size w w' := by
 obtain ⟨i0, hi0, hz0, hz1, hz2⟩ := info_parts infoEn
 have hr := Lib.run_append_nil_zeros w 46 3 46 23 i0 _ .i64 .i64 Tryz.underlying46 Tryz.underlying3 hi0 hz0 n h0 (by omega) (by omega) (by rw [hz2]; omega)
 have g1 := grownCap_ge w n 0 23
 have g2 := grownCap_le_maxLen w n 0 23 (by unfold maxLen; omega)
 have hsz : (Builtin.zeroCells (Value.agg #[.int .i64 0, .int .i64 0, .string ByteArray.empty, .string ByteArray.empty, .int .i64 0, .bool false, .bool false]).cells n ++ Builtin.zeroCells (Value.agg #[.int .i64 0, .int .i64 0, .string ByteArray.empty, .string ByteArray.empty, .int .i64 0, .bool false, .bool false]).cells (grownCap w n 0 23 - n)).size = grownCap w n 0 23 * 7 := by
  rw [Array.size_append, size_zeroCells, size_zeroCells, show (Value.agg #[.int .i64 0, .int .i64 0, .string ByteArray.empty, .string ByteArray.empty, .int .i64 0, .bool false, .bool false]).cells.size = 7 from rfl]
  omega
 generalize Builtin.zeroCells (Value.agg #[.int .i64 0, .int .i64 0, .string ByteArray.empty, .string ByteArray.empty, .int .i64 0, .bool false, .bool false]).cells n ++ Builtin.zeroCells (Value.agg #[.int .i64 0, .int .i64 0, .string ByteArray.empty, .string ByteArray.empty, .int .i64 0, .bool false, .bool false]).cells (grownCap w n 0 23 - n) = zs at *
 generalize grownCap w n 0 23 = G at *
 have hown : (w.drew.alloc (.cells zs 23)).ownsRow w.heap.size 23 7 (.slice (some ⟨w.heap.size, 0, none⟩) 0 G) 0 [] := ⟨by simp, .inr ⟨_, G, zs, rfl, Nat.le_refl _, World.alloc_heap_new w.drew _, Nat.zero_le _, g2, hsz, by simp⟩⟩
 have hb := ext_alloc (Below.refl w.heap.size w).drew (.cells zs 23)
 have q1 : (0 : Int) < (n : Int) := by omega
 have q2 : ¬ ((n : Int) < 0) := by omega
 have HO := Lib.hid hown
 have HB := Lib.hid hb
 have q3 : (G : Int) ≤ 9223372036854775807 := by unfold maxLen at g2; omega
 clear hown hb hsz
 generalize w.drew.alloc (.cells zs 23) = W at *
 go_enter Tryz.func167, Tryz.ntmps167
 go_wp2_with (at_builtin; refine Lib.wpList_append_run _ rfl _ _ _ _ rfl _ _ rfl rfl _ _ hr ?_)
 go_ret
 exact ⟨_, rfl, HO.out, HB.out⟩
def EntsAt (w : World) (A : Option Addr) (n : Nat) (l : List EI) : Prop := l.length = n ∧ ((A = none ∧ n = 0) ∨ ∃ ad, A = some ad ∧ ad.block < w.heap.size ∧ ∀ j u, (cellsE l)[j]? = some u → w.cell? (ad.add j) = some u)
theorem EntsAt.below {w' : World} (h : EntsAt w A n l) (hb : Below w.heap.size w w') : EntsAt w' A n l := by
 refine ⟨h.1, h.2.imp id ?_⟩
 rintro ⟨ad, h1, h2, h3⟩
 exact ⟨ad, h1, Nat.lt_of_lt_of_le h2 hb.size, fun j u hj => (hb.cell (by rw [add_blk]; exact h2)).trans (h3 j u hj)⟩
theorem entsAt_own {c : Nat} (h : w.ownsRow base 23 7 (.slice A n c) n (cellsE l)) : EntsAt w A n l := by
 have hn : l.length = n := by have := h.1; rw [cellsE_length] at this; omega
 refine ⟨hn, ?_⟩
 have h' := h
 obtain ⟨h0, ⟨h1, h2⟩ | ⟨g, cap, cur, h1, -, hh, -⟩⟩ := h'
 ·injection h1 with h1 _ _
  exact .inl ⟨h1, h2⟩
 ·injection h1 with h1 h3 h4
  subst h1
  refine .inr ⟨⟨g, 0, none⟩, rfl, (Array.getElem?_eq_some_iff.1 hh).1, fun j u hj => ?_⟩
  exact World.ownsRow.cells (w := w) (v := .slice (some ⟨g, 0, none⟩) n c) h rfl j u hj
theorem run_moreE {W : World} {m : Nat} {V : Value} {cp : Nat} {cs : List Value} {xs : List EI} (hx : EntsAt W A n xs) (hown : W.ownsRow base 23 7 V m cs) (h63 : m + n ≤ 2000) (hb : base ≤ W.heap.size) (ty : TypeId) :
  ∃ V' W', (Builtin.append_ #[46, 46] ty #[V, .slice A n cp]).run Tryz.prog W = .ok V' W' ∧ W'.ownsRow base 23 7 V' (m + n) (cs ++ cellsE xs) ∧ W.grownBy W' V.ownBlock := by
 obtain ⟨i0, hi0, hz0, hz1, hz2⟩ := info_parts infoEn
 obtain ⟨hn, ⟨rfl, rfl⟩ | ⟨ad, rfl, -, hc⟩⟩ := hx
 ·obtain rfl : xs = [] := List.length_eq_zero_iff.1 hn
  have hle : ∃ A1 c1, V = .slice A1 m c1 ∧ m ≤ c1 := by
   obtain ⟨h0, ⟨rfl, h1⟩ | ⟨g, cap, cur, rfl, h1, h2, h3, h4, h5, h6⟩⟩ := hown
   ·exact ⟨none, 0, by rw [h1], by omega⟩
   ·exact ⟨_, _, rfl, by omega⟩
  obtain ⟨A1, c1, rfl, hle⟩ := hle
  exact ⟨_, W, run_append_nothing W _ _ ty 23 i0 Tryz.underlying46 hi0 A1 m c1 hle _ (Src.ofNil W Tryz.underlying46 cp), by simpa [cellsE] using hown, World.grownBy.refl _ _⟩
 ·obtain ⟨V', W', h1, h2, h3, -⟩ := run_append_own (P := Tryz.prog) W base 46 ty 23 i0 (.agg #[.int .i64 0, .int .i64 0, .string ByteArray.empty, .string ByteArray.empty, .int .i64 0, .bool false, .bool false]) 7 64 Tryz.underlying46 hi0 hz0 hz1 hz2 rfl (by omega) V m cs hown ad n cp (cellsE xs) (by rw [cellsE_length, hn]) hc (cellsE_one xs) (by unfold maxLen; omega) (by omega) hb
  exact ⟨V', W', h1, h2, h3⟩
set_option maxRecDepth 100000 in
theorem concat_any {sb n1 c1 : Nat} {A1 : Option Addr} {l1 : List EI} (hB : Blk w sb 46 #[.slice A1 n1 c1, .slice A2 n2 c2]) (h1 : EntsAt w A1 n1 l1) (h2 : EntsAt w A2 n2 l2) (hn1 : n1 ≤ 500) (hn2 : n2 ≤ 500) (h0 : 0 < n2) :
  Calls Tryz.prog 140 #[.slice (some ⟨sb, 0, none⟩) 2 2] w fun e w' => ∃ V, e = .returned V ∧ w'.ownsRow w.heap.size 23 7 V (n1 + n2) (cellsE (l1 ++ l2)) ∧ Below w.heap.size w w' := by
 obtain ⟨b0, b1, -⟩ := hB.c2
 have hG := fun W => grow_any (n1 + n2) W (by omega) (by omega)
 rw [Int.natCast_add] at hG
 have HB := Lib.hid hB
 have H1 := Lib.hid h1
 have H2 := Lib.hid h2
 clear hB h1 h2
 go_enter Tryz.func140, Tryz.ntmps140
 go_wp2_with fail
 refine wp_loop_rounds 3 ?_
 rw [rounds_succ]
 go_wp2_with fail
 rw [rounds_succ]
 go_wp2_with fail
 rw [rounds_succ]
 go_wp2_with fail
 refine (hG w).mono ?_
 rintro e w3 ⟨V, rfl, hown, hb3⟩
 have e1 := H1.out.below hb3
 have HB3 := HB.out.below hb3
 obtain ⟨b0, b1, -⟩ := HB3.c2
 obtain ⟨V4, w4, hr4, hown4, hg4⟩ := run_moreE (cp := c1) e1 hown (by omega) hb3.size 46
 have hb4 := below_append hb3 hown (Nat.le_refl _) (Nat.le_refl _) hg4
 obtain ⟨d0, d1, -⟩ := (HB.out.below hb4).c2
 have e2 := H2.out.below hb4
 obtain ⟨V5, w5, hr5, hown5, hg5⟩ := run_moreE (cp := c2) e2 hown4 (by omega) hb4.size 46
 have hb5 := below_append hb4 hown4 (Nat.le_refl _) (Nat.le_refl _) hg5
 obtain ⟨f0, f1, -⟩ := (HB.out.below hb5).c2
 rw [Nat.zero_add, List.nil_append] at hown5
 rw [← cellsE_app] at hown5
 have HO := Lib.hid hown5
 have HBE := Lib.hid hb5
 clear hown hown4 hown5 hb3 hb4 hb5 hg4 hg5 e1 e2 HB3
 go_wp2_with fail
 refine wp_loop_rounds 3 ?_
 rw [rounds_succ]
 go_wp2_with (at_builtin; refine Lib.wpList_append_run _ rfl _ _ _ _ rfl _ _ rfl rfl _ _ hr4 ?_)
 rw [rounds_succ]
 go_wp2_with (at_builtin; refine Lib.wpList_append_run _ rfl _ _ _ _ rfl _ _ rfl rfl _ _ hr5 ?_)
 rw [rounds_succ]
 go_wp2_with fail
 go_ret
 exact ⟨_, rfl, HO.out, HBE.out⟩
def costL (l : List EI) : Nat := (l.map EI.cost).sum
theorem cost_take (l : List EI) {k : Nat} (h : k < l.length) : costL (l.take (k + 1)) = costL (l.take k) + (l[k]).cost := by
 rw [List.take_succ_eq_append_getElem h, costL, costL, List.map_append, List.sum_append]
 simp
theorem cost_le (l : List EI) : costL l ≤ 28 * l.length := by
 induction l with
 | nil => simp [costL]
 | cons e l ih =>
  have : e.cost ≤ 28 := by unfold EI.cost; split <;> omega
  simp only [costL, List.map_cons, List.sum_cons, List.length_cons] at ih ⊢
  omega
set_option maxRecDepth 100000 in
theorem owed_any {c : QC} {v : QV} {s : SN} (h : SAt w c v s) (hl : s.L.length ≤ 500) (h2 : EntsAt w A2 n2 l2) (hn2 : n2 ≤ 500) (h0 : 0 < n2) :
  Calls Tryz.prog 106 #[.pointer (some ⟨c.b, 0, none⟩), .slice A2 n2 c2] w (Ret (.int .i64 (costL (s.L ++ l2) : Int)) w) := by
 obtain ⟨A1, c1, e1⟩ := own_form h.ent
 have h' := h.ent
 rw [e1] at h'
 have he := entsAt_own h'
 have x2 := h.blk.c7.1.2.2.1
 rw [e1] at x2
 have hall := (cost_le (s.L ++ l2))
 have hlen : (s.L ++ l2).length = s.L.length + n2 := by rw [List.length_append, h2.1]
 obtain ⟨N, hN⟩ : ∃ N, s.L.length = N := ⟨_, rfl⟩
 rw [hN] at x2 he hl hlen
 obtain ⟨al, hal⟩ : ∃ al, s.L ++ l2 = al := ⟨_, rfl⟩
 have hC := fun (W : World) (sb : Nat) (hb : Below w.heap.size w W) (hB : Blk W sb 46 #[.slice A1 N c1, .slice A2 n2 c2]) => concat_any hB (he.below hb) (h2.below hb) hl hn2 h0
 simp only [hal] at hC
 rw [hal] at hall hlen ⊢
 have HC := Lib.hid hC
 clear h h' e1 he h2 hC hal hN
 go_enter Tryz.func106, Tryz.ntmps106
 go_wp2_with fail
 refine (HC.out _ w.heap.size (ext_new w _) (Blk.new_ w _ _)).mono ?_
 rintro e w3 ⟨V, rfl, hown, hb3⟩
 have hb := ext_trans (ext_new w _) hb3
 obtain ⟨-, A3, c3, rfl, hr⟩ := rowE_own hown
 rw [← hlen]
 have HR := Lib.hid hr
 have HL := Lib.hid hlen
 have hle : al.length ≤ 1000 := by omega
 clear hown hb3 hr x2 hlen
 go_wp2_with fail
 go_loopw [5, 16] (fun n i wr => ∃ k : Nat, k ≤ al.length ∧ i = .int .i64 (k : Int) ∧ n = .int .i64 (costL (al.take k) : Int) ∧ Below w3.heap.size w3 wr) (fun _ i _ => al.length - (intOf i).toNat)
 case atStart => exact ⟨0, Nat.zero_le _, rfl, rfl, ext_refl _⟩
 case round =>
  obtain ⟨k, hk, rfl, rfl, hbr⟩ := hrel
  have hct := cost_le (al.take k)
  rw [List.length_take, Nat.min_eq_left hk] at hct
  by_cases hlt : k < al.length
  ·obtain ⟨g, rfl, hg, hc⟩ := HR.out (by omega)
   obtain ⟨g0, g1, g2, g3, g4, g5, g6⟩ := (hc k hlt).below hg hbr
   have i0 : (0 : Int) ≤ (k : Int) := by omega
   have i1 : (k : Int) < (al.length : Int) := by omega
   have hnx := cost_take al hlt
   have HNX := Lib.hid hnx
   have HB := Lib.hid (hbr.alloc hbr.size (.cells #[.int .i64 al[k].id, .int .i64 al[k].side, .string al[k].key, .string al[k].data, .int .i64 al[k].due, .bool al[k].cust, .bool al[k].sent] 23))
   have hsz := hbr.size
   generalize hm : costL (al.take k) = m at *
   have c0 : (0 : Int) ≤ (m : Int) := by omega
   have c1' : (m : Int) ≤ 28000 := by omega
   clear hnx hc hm hbr hg
   unfold EI.cost at HNX
   generalize al[k] = y at *
   obtain ⟨y0, y1, y2, y3, y4, y5, y6⟩ := y
   dsimp only at g0 g1 g2 g3 g4 g5 g6 HNX HB
   cases y6 with
   | true =>
    go_wp2_with fail
    go_roundw
    ·exact ⟨k + 1, by omega, by go_num, by rw [HNX.out]; go_num, HB.out⟩
    ·simp [intOf]; omega
   | false =>
    go_wp2_with fail
    go_roundw
    ·exact ⟨k + 1, by omega, by go_num, by rw [HNX.out]; go_num, HB.out⟩
    ·simp [intOf]; omega
  ·obtain rfl : k = al.length := by omega
   rw [List.take_length] at hct ⊢
   go_wp2_with fail
   go_ret
   exact ⟨rfl, ext_trans hb hbr⟩
end Go.Proofs.YtmebjdbkngehiaaGreatDoor
