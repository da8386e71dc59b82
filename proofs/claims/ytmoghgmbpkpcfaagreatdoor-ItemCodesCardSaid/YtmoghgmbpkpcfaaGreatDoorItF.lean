/-
  Package item: all items in an item, one by one (items). Conditions: as the theorems' own hypotheses say.
-/
import Derived.Test.YtmoghgmbpkpcfaaGreatDoorItE
import Derived.Deep.AppendLies
import Derived.Maps.OwnIn
namespace Go.Proofs.YtmoghgmbpkpcfaaGreatDoor
open Go.RowKit Go.Shelf
attribute [local go_sem] Oper.semAt_some

/-- A row of bytes. -/
def isBy (o : Obj) : Prop := ∃ c fr, o = .cells c 5 fr
/-- What the iterator turns: places of its own, from N on, that are no bytes. -/
structure MvI (N : Nat) (A B : World) : Prop where
  os : B.os = A.os
  tape : B.tape = A.tape
  output : B.output = A.output
  size : A.heap.size ≤ B.heap.size
  keep : ∀ k o, A.heap[k]? = some o → (k < N ∨ isBy o) → B.heap[k]? = some o
/-- What a round keeps. -/
structure KpI (D Bc N : Nat) (A B : World) : Prop where
  below : Below D A B
  box : B.heap[Bc]? = A.heap[Bc]?
  keep : ∀ k o, N ≤ k → A.heap[k]? = some o → ¬ isBy o → B.heap[k]? = some o
/-- What a round keeps that stops. -/
def KsI (N : Nat) (A B : World) : Prop := ∀ (k : Nat) (o : Obj), N ≤ k → A.heap[k]? = some o → o.isCells = false → B.heap[k]? = some o
theorem MvI.refl (N : Nat) (A : World) : MvI N A A := ⟨rfl, rfl, rfl, Nat.le_refl _, fun _ _ h _ => h⟩
theorem MvI.trans {N : Nat} {A B C : World} (h : MvI N A B) (k : MvI N B C) : MvI N A C := ⟨k.os.trans h.os, k.tape.trans h.tape, k.output.trans h.output, Nat.le_trans h.size k.size, fun i o hi hc => k.keep i o (h.keep i o hi hc) hc⟩
theorem MvI.of_below {N : Nat} {A B : World} (h : Below A.heap.size A B) : MvI N A B := ⟨h.os, h.tape, h.output, h.size, fun k _ hk _ => (h.block k (Array.getElem?_eq_some_iff.1 hk).1).trans hk⟩
/-- One of its own places turned. -/
theorem MvI.other {N g : Nat} {A B : World} {o : Obj} (h : A.grownBy B (some g)) (ho : A.heap[g]? = some o) (hN : N ≤ g) (hb : ¬ isBy o) : MvI N A B :=
  ⟨h.os, h.tape, h.output, h.size, fun k o' hk hc => by
    by_cases e : k = g
    · subst e
      rw [ho] at hk
      injection hk with hk
      subst hk
      rcases hc with hc | hc
      · omega
      · exact absurd hc hb
    · exact (h.block k (Array.getElem?_eq_some_iff.1 hk).1 (fun q => e (by injection q))).trans hk⟩
theorem grownBy_setCell (w : World) (g i : Nat) (v : Value) : w.grownBy (w.setCell ⟨g, i, none⟩ v) (some g) :=
  ⟨rfl, rfl, rfl, by rw [World.size_setCell]; exact Nat.le_refl _, fun k _ hk => Below.heap_setCell _ _ _ _ (fun e => hk (by rw [e]))⟩
theorem not_by {t : TypeId} (ht : t ≠ 5) (cs : Array Value) (fr : Nat × Nat) : ¬ isBy (.cells cs t fr) := by
  rintro ⟨c, f, e⟩
  injection e with e1 e2 e3
  exact ht e2
theorem not_by' {o : Obj} (h : o.isCells = false) : ¬ isBy o := by
  rintro ⟨c, f, rfl⟩
  cases h

/-- An item and how deep it stands, as cells. -/
def ansCs (p : Nat × TV) : List Value := p.2.cs ++ [.int .i64 (p.1 : Int)]
def cellsA (l : List (Nat × TV)) : List Value := l.flatMap ansCs
theorem cellsA_length (l : List (Nat × TV)) : (cellsA l).length = l.length * 5 := by
  induction l with
  | nil => rfl
  | cons r l ih => rw [show cellsA (r :: l) = ansCs r ++ cellsA l by simp [cellsA], List.length_append, ih, List.length_cons]; show 5 + _ = _; omega
theorem cellsA_snoc (l : List (Nat × TV)) (r : Nat × TV) : cellsA (l ++ [r]) = cellsA l ++ ansCs r := by simp [cellsA]
def itemE (p : Nat × TV) : Array Value := #[.int .i64 (p.1 : Int), p.2.val]
/-- What still comes of a stack. -/
def still (st : List (Nat × TV)) : List (Nat × TV) := st.reverse.flatMap fun p => p.2.pre p.1
theorem still_pop (st : List (Nat × TV)) (p : Nat × TV) : still (st ++ [p]) = p :: still (st ++ (p.2.kids.reverse.map fun x => (p.1 + 1, x))) := by
  rw [still, still, List.reverse_append, List.reverse_append, ← List.map_reverse, List.reverse_reverse, List.reverse_singleton]
  simp only [List.singleton_append, List.flatMap_cons, List.flatMap_append]
  rw [TV.pre_eq, List.cons_append]
  congr 2
  rw [List.flatMap_map]
  generalize p.2.kids = l
  generalize p.1 + 1 = d
  induction l with
  | nil => rfl
  | cons x l ih => rw [List.flatMap_cons, TV.preL, ih]

/-- Where the push of an item's items stands. -/
structure Push (N T Lb Bs D sz : Nat) (Ds : List Nat) (wr : World) (Jp : World → Prop) (cs bcs : Array Value) (st : List (Nat × TV)) (W : World) : Prop where
  j : Jp W
  ex : ∃ V, Blk W T 73 #[V] ∧ W.ownsRow N 62 5 V st.length (cellsA st) ∧ V.ownBlock ≠ some Lb
  box : Blk W Bs 22 bcs
  last : Blk W Lb 62 cs
  mks : ∀ E ∈ Ds, N ≤ E ∧ E < sz ∧ W.heap[E]? = some (.deferred (some []))
  bel : Below D wr W
  size : sz ≤ W.heap.size
theorem Push.move {N T Lb Bs D sz : Nat} {Ds : List Nat} {wr : World} {Jp : World → Prop} {cs bcs : Array Value} {st : List (Nat × TV)} {A B : World} {row : Option Nat} (h : Push N T Lb Bs D sz Ds wr Jp cs bcs st A) (hJ : ∀ A B, Jp A → MvI N A B → Jp B)
    (hT : T < sz) (hLb : Lb < sz) (hBs : Bs < sz) (hN : N ≤ sz) (hD : D ≤ N) (hg : A.grownBy B row) (hr : ∀ r, row = some r → sz ≤ r ∧ ∃ o : Obj, A.heap[r]? = some o ∧ o.isCells = false) : Push N T Lb Bs D sz Ds wr Jp cs bcs st B := by
  obtain ⟨j, ⟨V, e1, e2, e3⟩, bo, l, m, b, s⟩ := h
  have keep : ∀ k, k < sz → B.heap[k]? = A.heap[k]? := fun k hk => hg.block k (by omega) (fun q => by have := (hr k q.symm).1; omega)
  refine ⟨?_, ⟨V, e1.kept (keep _ hT), own_other e2 hg (fun r q => (hr r q).2), e3⟩, bo.kept (keep _ hBs), l.kept (keep _ hLb), fun E hE => ⟨(m E hE).1, (m E hE).2.1, (keep E (m E hE).2.1).trans (m E hE).2.2⟩, b.grown hg (by omega) (fun k q => by have := (hr k q).1; omega), Nat.le_trans s hg.size⟩
  cases row with
  | none => exact hJ _ _ j ⟨hg.os, hg.tape, hg.output, hg.size, fun k o hk _ => (hg.block k (Array.getElem?_eq_some_iff.1 hk).1 (by simp)).trans hk⟩
  | some r =>
    obtain ⟨h1, o, h2, h3⟩ := hr r rfl
    exact hJ _ _ j (MvI.other hg h2 (by omega) (not_by' h3))

theorem MvI.append {N n : Nat} {A B : World} {V : Value} {xs : List Value} (hown : A.ownsRow N 62 5 V n xs) (hg : A.grownBy B V.ownBlock) : MvI N A B := by
  have h' := hown
  obtain ⟨h0, ⟨rfl, -⟩ | ⟨g, cap, cur, rfl, hb, hgg, -⟩⟩ := h'
  · exact ⟨hg.os, hg.tape, hg.output, hg.size, fun k o hk _ => (hg.block k (Array.getElem?_eq_some_iff.1 hk).1 (by simp [Value.ownBlock])).trans hk⟩
  · exact MvI.other hg hgg hb (not_by (by decide) _ _)
theorem infoAns : (Tryz.prog.info? 62).map (fun i => (i.size, i.bytes)) = some (5, 64) := by kernel_rfl
theorem infoAns2 : ((Tryz.prog.info? 62).map fun i => i.zero) = some (some (.agg #[.int .i64 0, .int .i64 0, .string ByteArray.empty, .slice none 0 0, .int .i64 0])) := by kernel_rfl
theorem items_mk (x : TV) (w : World) : Calls Tryz.prog 18 #[x.val] w fun e w' => e = .returned (.func (.func 30) #[] #[.pointer (some ⟨w.heap.size, 0, none⟩)]) ∧ w.alloc (.cells #[.int .i64 x.kind, .int .i64 x.num, .string x.txt, x.row] 24) = w' := by
  unfold TV.val TV.row
  go_enter Tryz.func18, Tryz.ntmps18
  go_wp2
  go_ret
  exact ⟨rfl, rfl⟩

/-- A loop with a number that falls. -/
theorem wpIn_loop_ghost {F : Fence} {n : Nat} {P : Program} {Q : Exit → Act → World → Prop} {a : Act} {w : World} {c : Code} (I : Nat → Act → World → Prop) (n₀ : Nat) (h₀ : I n₀ a w)
    (round : ∀ g a w, I g a w → c.wpIn F n P (Exit.then (fun a' w' => ∃ g', g' < g ∧ I g' a' w') Q) a w) : (Code.loop c).wpIn F n P Q a w := by
  refine wpIn_loop_rounds (n₀ + 1) ?_
  have key : ∀ m g a w, g < m → I g a w → Code.roundsIn F n P c Q m a w := by
    intro m
    induction m with
    | zero => intro g a w h _; omega
    | succ m ih =>
      intro g a w hg hI
      rw [roundsIn_succ]
      refine Code.wpIn_mono (fun e a w q => ?_) (round g a w hI)
      cases e with
      | normal =>
        obtain ⟨g', h1, h2⟩ := q
        exact ih g' a w (by omega) h2
      | _ => exact q
  exact key _ _ _ _ (Nat.lt_succ_self _) h₀
/-- A mark among the deferred calls. -/
def mkD (D : Nat) : Deferred := { target := .collected D, args := #[] }
/-- All marks taken. -/
def marksOff : List Nat → World → World
  | [], w => w
  | D :: Ds, w => marksOff Ds (w.putObj D (.deferred none))
theorem leaves_marks {F : Fence} {n : Nat} {P : Program} {fn : Func} {tmps : Array Value} {R : Ending → World → Prop} : ∀ (Ds : List Nat) (w : World), Ds.Nodup → (∀ D ∈ Ds, w.heap[D]? = some (.deferred (some []))) →
    (∃ v, (results fn tmps).run P (marksOff Ds w) = .ok v (marksOff Ds w) ∧ R (.returned v) (marksOff Ds w)) → LeavesInM F n P fn tmps R (Ds.map mkD) .returning w
  | [], w, _, _, h => h
  | D :: Ds, w, hn, hd, h => by
    rw [List.nodup_cons] at hn
    refine ⟨by simp, .inl ⟨D, _, rfl, run_takeDeferred (hd D (by simp)), ?_⟩⟩
    exact leaves_marks Ds _ hn.2 (fun E hE => (World.putObj_heap_other (fun e => hn.1 (by rw [← e]; exact hE))).trans (hd E (by simp [hE]))) h
theorem marks_mv {N : Nat} : ∀ (Ds : List Nat) (w : World), Ds.Nodup → (∀ D ∈ Ds, N ≤ D ∧ w.heap[D]? = some (.deferred (some []))) → MvI N w (marksOff Ds w)
  | [], w, _, _ => MvI.refl N w
  | D :: Ds, w, hn, hd => by
    rw [List.nodup_cons] at hn
    obtain ⟨h1, h2⟩ := hd D (by simp)
    have hm : MvI N w (w.putObj D (.deferred none)) := MvI.other (grownBy_putObj' w D _) h2 h1 (not_by' rfl)
    exact hm.trans (marks_mv Ds _ hn.2 fun E hE => ⟨(hd E (by simp [hE])).1, (World.putObj_heap_other (fun e => hn.1 (by rw [← e]; exact hE))).trans (hd E (by simp [hE])).2⟩)
theorem own_take {w : World} {base n m g c size : Nat} {t : TypeId} {xs : List Value} (h : w.ownsRow base t size (.slice (some ⟨g, 0, none⟩) n c) n xs) (hm : m ≤ n) : w.ownsRow base t size (.slice (some ⟨g, 0, none⟩) m c) m (xs.take (m * size)) := by
  have hmn := Nat.mul_le_mul_right size hm
  obtain ⟨h0, ⟨h1, -⟩ | ⟨g', cap, cur, h1, hb, hg, hn, hm2, hs, ht⟩⟩ := h
  · cases h1
  · injection h1 with e1 e2 e3
    injection e1 with e1
    injection e1 with e1
    subst e1 e3
    refine ⟨by rw [List.length_take]; omega, .inr ⟨_, _, cur, rfl, hb, hg, by omega, hm2, hs, ?_⟩⟩
    rw [← ht, List.take_take, Nat.min_eq_left hmn]
theorem own_ne {w : World} {base n g c size k : Nat} {t t' : TypeId} {xs : List Value} {cs : Array Value} (h : w.ownsRow base t size (.slice (some ⟨g, 0, none⟩) n c) n xs) (hb : Blk w k t' cs) (ht : t ≠ t') : g ≠ k := by
  obtain ⟨h0, ⟨h1, -⟩ | ⟨g', cap, cur, h1, hb', hg, -⟩⟩ := h
  · cases h1
  · injection h1 with e1 e2 e3
    injection e1 with e1
    injection e1 with e1
    subst e1
    intro e
    subst e
    unfold Blk at hb
    rw [hg] at hb
    injection hb with hb
    injection hb with e1 e2 e3
    exact ht e2
theorem own_cap {w : World} {base n g c size : Nat} {t : TypeId} {xs : List Value} (h : w.ownsRow base t size (.slice (some ⟨g, 0, none⟩) n c) n xs) : n ≤ c := by
  obtain ⟨h0, ⟨h1, -⟩ | ⟨g', cap, cur, h1, hb', hg, hn, -⟩⟩ := h
  · cases h1
  · injection h1 with e1 e2 e3
    omega
theorem own_same {w w' : World} {base n g c size : Nat} {t : TypeId} {xs : List Value} (h : w.ownsRow base t size (.slice (some ⟨g, 0, none⟩) n c) n xs) (hk : ∀ cur, w.heap[g]? = some (.cells cur t (0, 0)) → w'.heap[g]? = some (.cells cur t (0, 0))) : w'.ownsRow base t size (.slice (some ⟨g, 0, none⟩) n c) n xs := by
  obtain ⟨h0, ⟨h1, -⟩ | ⟨g', cap, cur, h1, hb, hg, hr⟩⟩ := h
  · cases h1
  · injection h1 with e1 e2 e3
    injection e1 with e1
    injection e1 with e1
    subst e1 e3
    exact ⟨h0, .inr ⟨_, _, cur, rfl, hb, hk _ hg, hr⟩⟩
theorem own_row_ne {w : World} {base n size k : Nat} {V : Value} {t t' : TypeId} {xs : List Value} {cs : Array Value} (h : w.ownsRow base t size V n xs) (hb : Blk w k t' cs) (ht : t ≠ t') : some k ≠ V.ownBlock := by
  have h' := h
  obtain ⟨h0, ⟨rfl, -⟩ | ⟨g, cap, cur, rfl, -⟩⟩ := h'
  · intro e; cases e
  · intro e
    injection e with e
    exact own_ne h hb ht e.symm
theorem ansCs_one (p : Nat × TV) : ∀ u ∈ ansCs p, u.oneCell' = true := by
  intro u hu
  have hu : u ∈ [Value.int .i64 p.2.kind, .int .i64 p.2.num, .string p.2.txt, p.2.row, .int .i64 (p.1 : Int)] := hu
  simp only [List.mem_cons, List.not_mem_nil, or_false] at hu
  rcases hu with rfl | rfl | rfl | rfl | rfl <;> rfl
/-- A stack fits: no place of it is too high. -/
def StOk (D : Nat) (W : World) (st : List (Nat × TV)) : Prop := ∀ (i : Nat) (h : i < st.length), ItAt D W st[i].2 ∧ ∃ hh, Fits hh st[i].2 ∧ i + 61 * hh ≤ 427 ∧ st[i].1 + hh ≤ 8
theorem StOk.push {D : Nat} {W W' : World} {init : List (Nat × TV)} {d h : Nat} {x : TV} (hst : StOk D W (init ++ [(d, x)])) (hx : ItAt D W x) (hb : Below D W W') (hk : ∀ y ∈ x.kids, Fits h y) (h62 : x.kids.length ≤ 62) (h1 : init.length + 61 * (h + 1) ≤ 427) (h2 : d + (h + 1) ≤ 8) :
    StOk D W' (init ++ x.kids.reverse.map fun y => (d + 1, y)) := by
  intro i hi
  by_cases hlt : i < init.length
  · obtain ⟨g1, g2⟩ := hst i (by rw [List.length_append]; omega)
    rw [List.getElem_append_left hlt] at g1 g2 ⊢
    exact ⟨g1.later hb (Nat.le_refl _), g2⟩
  · rw [List.length_append, List.length_map, List.length_reverse] at hi
    have hm : (init ++ x.kids.reverse.map fun y => (d + 1, y))[i]'(by rw [List.length_append, List.length_map, List.length_reverse]; exact hi) ∈ x.kids.reverse.map fun y => (d + 1, y) := by
      rw [List.getElem_append_right (by omega)]
      exact List.getElem_mem _
    obtain ⟨y, hy, e⟩ := List.mem_map.1 hm
    rw [← e]
    have hy : y ∈ x.kids := List.mem_reverse.1 hy
    exact ⟨(hx.kid y hy).later hb (Nat.le_refl _), h, hk y hy, by omega, by show d + 1 + h ≤ 8; omega⟩
/-- Where the iterator stands. -/
structure IStep (D Bc N T : Nat) (L : List (Nat × TV)) (J : List (Nat × TV) → World → Prop) (Ds : List Nat) (g : Nat) (W : World) : Prop where
  ex : ∃ (pre st : List (Nat × TV)) (V : Value), J pre W ∧ L = pre ++ still st ∧ g = (still st).length ∧ Blk W T 73 #[V] ∧ W.ownsRow N 62 5 V st.length (cellsA st) ∧ StOk D W st
  mks : ∀ D ∈ Ds, N ≤ D ∧ W.heap[D]? = some (.deferred (some []))
  nd : Ds.Nodup

set_option maxRecDepth 100000 in
set_option maxHeartbeats 4000000 in
theorem items_seq (t : TV) (Bc D N m : Nat) (hm : 5 ≤ m) (hD : D ≤ N) (hfit : Fits 7 t) :
    SeqS Fence.wide m Tryz.prog 30 #[.pointer (some ⟨Bc, 0, none⟩)] itemE (KpI D Bc N) (KsI N) (MvI N) (fun pre x => ∃ r, t.pre 1 = pre ++ x :: r)
      (fun xs _ => xs = t.pre 1) (fun _ => True)
      (fun W => N ≤ W.heap.size ∧ Blk W Bc 24 #[.int .i64 t.kind, .int .i64 t.num, .string t.txt, t.row] ∧ ItAt D W t) := by
  rintro l J Jx W ⟨hN, hbc, hat⟩ hJ hJx hY h0
  refine callsIn_of_wp_marks Tryz.func30 rfl trivial ?_ rfl
  simp only [Tryz.ntmps30, List.size_toArray, List.length_cons, List.length_nil, Nat.reduceAdd, Nat.reduceSub, Array.replicate_succ, Array.replicate_zero, List.push_toArray, List.append_toArray, List.nil_append, List.cons_append]
  obtain ⟨cx0, cx1, cx2, cx3, -⟩ := hbc.c4
  unfold TV.row at cx3
  obtain ⟨i0, hi0, hz12⟩ := Option.map_eq_some_iff.1 infoAns
  have hz1 := congrArg Prod.fst hz12
  have hz2 := congrArg Prod.snd hz12
  dsimp only at hz1 hz2
  have hz0 : i0.zero = some (.agg #[.int .i64 0, .int .i64 0, .string ByteArray.empty, .slice none 0 0, .int .i64 0]) := by have := infoAns2; rw [hi0] at this; simpa using this
  clear hz12
  refine wpIn_scope ?_
  gi_wp2
  refine wpIn_label ?_
  gi_wp2
  refine wpIn_loop_ghost (fun g a wr => ∃ (u4 u10 u11 u12 u13 u14 u15 u16 u17 u18 u19 u20 u21 u22 u23 u24 u25 u26 u27 u28 u29 u30 u31 u32 u33 u34 : Value) (Ds : List Nat), IStep D Bc N (W.heap.size + 1) (t.pre 1) J Ds g wr ∧ a = { tmps := #[Value.func (Fn.yield l) #[] #[], Value.pointer (some ⟨Bc, 0, none⟩), undef, Value.pointer (some ⟨W.heap.size + 1, 0, none⟩), u4, undef, undef, Value.agg #[Value.int IntKind.i64 t.kind, Value.int IntKind.i64 t.num, Value.string t.txt, Value.slice t.at_ t.kids.length t.cap], Value.agg #[Value.int IntKind.i64 t.kind, Value.int IntKind.i64 t.num, Value.string t.txt, Value.slice t.at_ t.kids.length t.cap, Value.int IntKind.i64 1], Value.slice (some ⟨W.heap.size, 0, none⟩) 1 1, u10, u11, u12, u13, u14, u15, u16, u17, u18, u19, u20, u21, u22, u23, u24, u25, u26, u27, u28, u29, u30, u31, u32, u33, u34, undef, undef, undef, undef, undef, undef, undef, undef, undef, undef], defers := Ds.map mkD }) (t.pre 1).length ?_ ?_
  · refine ⟨_, _, _, _, _, _, _, _, _, _, _, _, _, _, _, _, _, _, _, _, _, _, _, _, _, _, [], ⟨⟨[], [(1, t)], _, ?_, ?_, ?_, Blk.at_ (by simp), ?_, ?_⟩, (fun D h => by cases h), List.nodup_nil⟩, rfl⟩
    · exact hJ _ _ _ h0 (MvI.of_below (ext_alloc (ext_new W _) _))
    · simp [still]
    · simp [still]
    · refine World.ownsRow.alloc ?_ _
      exact ⟨by rw [cellsA_length], .inr ⟨W.heap.size, 1, _, rfl, hN, World.alloc_heap_new W _, Nat.le_refl _, by decide, rfl, rfl⟩⟩
    · intro i hi
      obtain rfl : i = 0 := by simpa using hi
      exact ⟨hat.later (((Below.refl D W).alloc (by omega) _).alloc (by simp; omega) _) (Nat.le_refl _), 7, hfit, by omega, by show 1 + 7 ≤ 8; omega⟩
  · rintro g a wr ⟨u4, u10, u11, u12, u13, u14, u15, u16, u17, u18, u19, u20, u21, u22, u23, u24, u25, u26, u27, u28, u29, u30, u31, u32, u33, u34, Ds, ⟨⟨pre, st, V, hJp, hL, hg, hT, hown, hst⟩, hmk, hnd⟩, rfl⟩
    obtain ⟨cT, fT⟩ := hT.c1
    rcases List.eq_nil_or_concat st with rfl | ⟨init, p, rfl⟩
    · -- all have come
      obtain ⟨A', c', rfl⟩ := own_form hown
      gi_wp2
      rw [still, List.reverse_nil, List.flatMap_nil, List.append_nil] at hL
      subst hL
      simp only [Exit.noGoto]
      show LeavesInM _ _ _ _ _ _ (Ds.map mkD) .returning wr
      exact leaves_marks Ds wr hnd (fun D hD => (hmk D hD).2) ⟨_, results_none rfl _ _ _, ⟨_, rfl⟩, .inl ⟨_, rfl, hJ _ _ _ hJp (marks_mv Ds wr hnd hmk)⟩⟩
    · rw [List.concat_eq_append] at *
      rw [List.length_append, List.length_singleton] at hown
      obtain ⟨gb, cap, rfl, hgb, hgl⟩ := hown.form (by omega)
      obtain ⟨hatp, hh, hfp, hb1, hb2⟩ := hst init.length (by simp)
      rw [List.getElem_concat_length rfl] at hatp hfp hb2
      obtain ⟨d, x⟩ := p
      dsimp only at hatp hfp hb2
      obtain ⟨hh', rfl⟩ := hfp.pos
      obtain ⟨k62, ks, kk⟩ := hfp.kid
      have hsp := still_pop init (d, x)
      rw [hsp] at hL hg
      have hTl := hT.lt
      have hlt5 : ∀ (i : Nat) (v : Value), (ansCs (d, x))[i]? = some v → wr.cell? ⟨gb, init.length * 5 + i, none⟩ = some v := fun i v hv => by
        have := hown.cells rfl (init.length * 5 + i) v (by rw [cellsA_snoc, List.getElem?_append_right (by rw [cellsA_length]; omega), cellsA_length, Nat.add_sub_cancel_left]; exact hv)
        rwa [show (⟨gb, 0, none⟩ : Addr).add (init.length * 5 + i) = ⟨gb, init.length * 5 + i, none⟩ by unfold Addr.add; split <;> simp_all] at this
      have z0 := hlt5 0 _ rfl
      have z1 := hlt5 1 _ rfl
      have z2 := hlt5 2 _ rfl
      have z3 : wr.cell? ⟨gb, init.length * 5 + 3, none⟩ = some (.slice x.at_ x.kids.length x.cap) := hlt5 3 _ rfl
      have z4 := hlt5 4 _ rfl
      rw [Nat.add_zero] at z0
      have hown2 := own_take hown (m := init.length) (by omega)
      rw [cellsA_snoc, List.take_left' (cellsA_length init)] at hown2
      have hcap := own_cap hown
      have i1 : (0 : Int) ≤ (init.length : Int) := by omega
      have i3 : (init.length : Int) ≤ (cap : Int) := by omega
      have i4 : init.length ≤ cap := by omega
      have i2 : (init.length : Int) < (init.length : Int) + 1 := by omega
      have hm1 : MvI N wr (wr.setCell ⟨W.heap.size + 1, 0, none⟩ (.slice (some ⟨gb, 0, none⟩) init.length cap)) := MvI.other (grownBy_setCell _ (W.heap.size + 1) 0 (.slice (some ⟨gb, 0, none⟩) init.length cap)) hT (by omega) (not_by (by decide) _ _)
      have hm2 : MvI N wr ((wr.setCell ⟨W.heap.size + 1, 0, none⟩ (.slice (some ⟨gb, 0, none⟩) init.length cap)).alloc (.cells #[.int .i64 x.kind, .int .i64 x.num, .string x.txt, .slice x.at_ x.kids.length x.cap, .int .i64 (d : Int)] 62)) := hm1.trans (MvI.of_below (ext_new _ _))
      have hJ2 := hJ _ _ _ hJp hm2
      have hB2 : Blk ((wr.setCell ⟨W.heap.size + 1, 0, none⟩ (.slice (some ⟨gb, 0, none⟩) init.length cap)).alloc (.cells #[.int .i64 x.kind, .int .i64 x.num, .string x.txt, .slice x.at_ x.kids.length x.cap, .int .i64 (d : Int)] 62)) wr.heap.size 62 #[.int .i64 x.kind, .int .i64 x.num, .string x.txt, .slice x.at_ x.kids.length x.cap, .int .i64 (d : Int)] := Blk.at_ (by simp)
      have hT3 : Blk ((wr.setCell ⟨W.heap.size + 1, 0, none⟩ (.slice (some ⟨gb, 0, none⟩) init.length cap)).alloc (.cells #[.int .i64 x.kind, .int .i64 x.num, .string x.txt, .slice x.at_ x.kids.length x.cap, .int .i64 (d : Int)] 62)) (W.heap.size + 1) _ _ := (hT.set_ 0 (.slice (some ⟨gb, 0, none⟩) init.length cap)).alloc _
      have hown3 : ((wr.setCell ⟨W.heap.size + 1, 0, none⟩ (.slice (some ⟨gb, 0, none⟩) init.length cap)).alloc (.cells #[.int .i64 x.kind, .int .i64 x.num, .string x.txt, .slice x.at_ x.kids.length x.cap, .int .i64 (d : Int)] 62)).ownsRow N _ 5 _ _ _ := (ownsRow_setCell_other hown2 (fun e => own_ne hown hT (by decide) (by injection e)) _).alloc _
      have hbl2 : Below N wr ((wr.setCell ⟨W.heap.size + 1, 0, none⟩ (.slice (some ⟨gb, 0, none⟩) init.length cap)).alloc (.cells #[.int .i64 x.kind, .int .i64 x.num, .string x.txt, .slice x.at_ x.kids.length x.cap, .int .i64 (d : Int)] 62)) := ((Below.refl N wr).setCell (show N ≤ W.heap.size + 1 by omega) _).alloc (by simp; omega) _
      have hsz2 : ((wr.setCell ⟨W.heap.size + 1, 0, none⟩ (.slice (some ⟨gb, 0, none⟩) init.length cap)).alloc (.cells #[.int .i64 x.kind, .int .i64 x.num, .string x.txt, .slice x.at_ x.kids.length x.cap, .int .i64 (d : Int)] 62)).heap.size = wr.heap.size + 1 := by simp
      simp only [List.setIfInBounds_toArray, List.set_cons_zero] at hT3
      have hmk2 : ∀ D ∈ Ds, ((wr.setCell ⟨W.heap.size + 1, 0, none⟩ (.slice (some ⟨gb, 0, none⟩) init.length cap)).alloc (.cells #[.int .i64 x.kind, .int .i64 x.num, .string x.txt, .slice x.at_ x.kids.length x.cap, .int .i64 (d : Int)] 62)).heap[D]? = some (.deferred (some [])) := fun E hE => by
        have hE2 := (hmk E hE).2
        have hne : E ≠ W.heap.size + 1 := fun e => by
          rw [e] at hE2
          have hT' : wr.heap[W.heap.size + 1]? = _ := hT
          rw [hE2] at hT'
          cases hT'
        exact (Below.heap_alloc _ _ _ (by simp; exact (Array.getElem?_eq_some_iff.1 hE2).1)).trans ((Below.heap_setCell _ _ _ _ hne).trans hE2)
      have hy := hY pre (d, x) _ hJ2 ⟨_, hL⟩
      obtain ⟨fnn, tmps, assign, body, hy, hR2⟩ := hy
      unfold itemE TV.val TV.row at hy
      dsimp only at hy
      clear hlt5
      gi_wp2
      refine ⟨fun hd => (by cases hd), hR2.mono ?_⟩
      rintro e W3 (⟨rfl, hJ3, hk3⟩ | ⟨rfl, hJx3, hs3⟩)
      · generalize ((wr.setCell ⟨W.heap.size + 1, 0, none⟩ (.slice (some ⟨gb, 0, none⟩) init.length cap)).alloc (.cells #[.int .i64 x.kind, .int .i64 x.num, .string x.txt, .slice x.at_ x.kids.length x.cap, .int .i64 (d : Int)] 62)) = w2 at *
        have hsz3 := hk3.below.size
        have hT4 : Blk W3 (W.heap.size + 1) _ _ := hk3.keep _ _ (by omega) hT3 (not_by (by decide) _ _)
        have hB4 : Blk W3 wr.heap.size _ _ := hk3.keep _ _ (by omega) hB2 (not_by (by decide) _ _)
        have hown4 : W3.ownsRow N _ 5 _ _ _ := own_same hown3 (fun cur hc => hk3.keep _ _ hgb hc (not_by (by decide) _ _))
        have hmk4 : ∀ D ∈ Ds, N ≤ D ∧ W3.heap[D]? = some (.deferred (some [])) := fun E hE => ⟨(hmk E hE).1, hk3.keep _ _ (hmk E hE).1 (hmk2 E hE) (not_by' rfl)⟩
        have hbD : Below D wr W3 := (hbl2.mono hD).trans hk3.below
        obtain ⟨b0, b1, b2, b3, b4, -⟩ := hB4.c5
        clear hB2 hT3 hown3 hmk2 hmk hm1 hm2 hJ2 hk3 hT hown z0 z1 z2 z3 z4 hy hR2 hown2
        gi_wp2
        refine ⟨trivial, fun h => (by cases h), (callsIn_wide.2 (backward_mk _ _ _ _)).mono ?_⟩
        rintro e W4 ⟨rfl, hW4⟩
        have hsz4 : W4.heap.size = W3.heap.size + 1 := by rw [← hW4]; simp
        have hbox : Blk W4 W3.heap.size 22 #[.slice x.at_ x.kids.length x.cap] := by rw [← hW4]; exact Blk.new_ W3 _ _
        have hB5 : Below W3.heap.size W3 W4 := by rw [← hW4]; exact ext_new W3 _
        clear hW4
        have hTl3 := hT4.lt
        have hLl3 := hB4.lt
        have hrow4 := hatp.row.below (hbD.trans (hB5.mono (by omega))) (Nat.le_refl D)
        have hP : Push N (W.heap.size + 1) wr.heap.size W3.heap.size D W4.heap.size Ds wr (J (pre ++ [(d, x)])) #[.int .i64 x.kind, .int .i64 x.num, .string x.txt, .slice x.at_ x.kids.length x.cap, .int .i64 (d : Int)] #[.slice x.at_ x.kids.length x.cap] init W4 :=
          ⟨hJ _ _ _ hJ3 (MvI.of_below hB5), ⟨_, hT4.below hB5, own_below hown4 hB5, (fun e => absurd (Option.some.inj (show some gb = some wr.heap.size from e)) (by omega))⟩, hbox, hB4.below hB5, fun E hE => ⟨(hmk4 E hE).1, by have := (Array.getElem?_eq_some_iff.1 (hmk4 E hE).2).1; omega, (hB5.block E (Array.getElem?_eq_some_iff.1 (hmk4 E hE).2).1).trans (hmk4 E hE).2⟩, hbD.trans (hB5.mono (by omega)), Nat.le_refl _⟩
        clear hT4 hB4 hown4 hmk4 hbD hJ3 b0 b1 b2 b3 b4
        gi_wp2
        refine wpIn_rangeY (gf := 48) (lb := #[.pointer (some ⟨W3.heap.size, 0, none⟩)]) rfl (by omega) rfl trivial (enters_of Tryz.func48 (by kernel_rfl) rfl)
          (back_seq x.kids x.at_ x.cap W3.heap.size D _ (by omega)) (fun _ => rfl) ?hSt ?hSe (fun h k => ⟨h.1.trans k.1, k.2.trans h.2⟩) ?hKb ?hMb (fun _ _ _ => trivial)
          (fun pre' Wx => Push N (W.heap.size + 1) wr.heap.size W3.heap.size D W4.heap.size Ds wr (J (pre ++ [(d, x)])) #[.int .i64 x.kind, .int .i64 x.num, .string x.txt, .slice x.at_ x.kids.length x.cap, .int .i64 (d : Int)] #[.slice x.at_ x.kids.length x.cap] (init ++ pre'.map fun q => (d + 1, q.2)) Wx) (fun _ _ _ => False) ?hI (fun _ _ _ _ _ h _ _ => h) ?hIM (fun _ _ _ _ h _ => h) ?h0 ?hround ?hdone (fun _ _ _ _ h _ => h.elim)
        case hSt => exact fun o o' => ⟨(hbox.alloc _).alloc _, hrow4.below (((Below.refl D W4).alloc (by omega) _).alloc (by simp; omega) _) (Nat.le_refl _)⟩
        case hSe => exact fun xs W l o o' _ _ _ h => h
        case hKb =>
          intro Wk o o' ho _
          have hlt := (Array.getElem?_eq_some_iff.1 ho).1
          exact ⟨(Below.refl D Wk).grown (grownBy_putObj' Wk _ _) (by omega) (fun k q => by cases q; omega), World.putObj_heap_other (by omega)⟩
        case hMb =>
          rintro A B hM l o hl _ ho _
          exact (hM.block l (Array.getElem?_eq_some_iff.1 ho).1).trans ho
        case hI =>
          rintro pre' A B row h hgr hr
          exact h.move (fun A B h1 h2 => hJ _ _ _ h1 h2) (by omega) (by omega) (by omega) (by omega) hD hgr hr
        case hIM =>
          rintro pre' A B h hM
          have hgr : A.grownBy B none := ⟨hM.os, hM.tape, hM.output, hM.size, fun k hk _ => hM.block k hk⟩
          exact h.move (fun A B h1 h2 => hJ _ _ _ h1 h2) (by omega) (by omega) (by omega) (by omega) hD hgr (fun r q => by cases q)
        case h0 => simpa using hP
        case hround =>
          rintro l' pre' ⟨i, y⟩ Wr hPr ⟨rest, hrest⟩ hlW
          have hlenp := congrArg List.length hrest
          rw [backL_length, List.length_append, List.length_cons] at hlenp
          unfold backE TV.val TV.row
          dsimp only
          simp only [List.zip_toArray, List.zip_cons_cons, List.zip_nil_right, List.foldl_toArray, List.foldl_cons, List.foldl_nil, List.setIfInBounds_toArray, List.set_cons_succ, List.set_cons_zero]
          gi_wp2
          refine ⟨KeepsFrom.of_grownBy (World.grownBy_alloc Wr _ none) (fun j hj => by cases hj), ⟨(Below.refl D Wr).alloc (by omega) _, Below.heap_alloc _ _ _ (by omega)⟩, hPr.move (fun A B h1 h2 => hJ _ _ _ h1 h2) (by omega) (by omega) (by omega) (by omega) hD (World.grownBy_alloc Wr _ none) (fun r q => by cases q), ?_⟩
          rintro Wb ⟨pj, ⟨V', pe1, pe2, pe3⟩, pbo, pl, pm, pb, ps⟩ hWb
          have bx : Blk Wb Wr.heap.size 24 #[.int .i64 y.kind, .int .i64 y.num, .string y.txt, .slice y.at_ y.kids.length y.cap] := (hWb _ (by omega)).trans (World.alloc_heap_new Wr _)
          have hn := new_cells Wb (ansCs (d + 1, y)) 62
          have hone := ansCs_one (d + 1, y)
          have hsn := cellsA_snoc (init ++ pre'.map fun q => (d + 1, q.2)) (d + 1, y)
          have hst' : (init ++ pre'.map fun q => (d + 1, q.2)) ++ [(d + 1, y)] = init ++ (pre' ++ [(i, y)]).map fun q => (d + 1, q.2) := by simp
          have hMl : (init ++ pre'.map fun q => (d + 1, q.2)).length ≤ 1000 := by rw [List.length_append, List.length_map]; omega
          generalize (init ++ pre'.map fun q => (d + 1, q.2)) = st' at *
          rw [show ansCs (d + 1, y) = [Value.int .i64 y.kind, .int .i64 y.num, .string y.txt, .slice y.at_ y.kids.length y.cap, .int .i64 ((d : Int) + 1)] from rfl] at hn hone hsn
          have j1 : (d : Int) ≤ 8 := by omega
          have hpl := pe1.lt
          have hps1 := pl.lt
          have hne1 := own_row_ne (pe2.alloc (.cells #[.int .i64 y.kind, .int .i64 y.num, .string y.txt, .slice y.at_ y.kids.length y.cap, .int .i64 ((d : Int) + 1)] 62)) (pe1.alloc _) (by decide)
          obtain ⟨p0, p1, p2, p3, p4, -⟩ := pl.c5
          obtain ⟨y0, y1, y2, y3, -⟩ := bx.c4
          obtain ⟨cT', fT'⟩ := pe1.c1
          have HSN := Lib.hid hsn
          have HST := Lib.hid hst'
          have HRE := Lib.hid hrest
          clear hsn hst' hrest hWb cx0 cx1 cx2 cx3 cT fT hPr
          gi_wp2_with (gi_at_builtin; (refine wpListIn_append_own_at _ rfl (.tmp 37) (.tmp 43) 73 rfl N 62 i0 (.agg #[.int .i64 0, .int .i64 0, .string ByteArray.empty, .slice none 0 0, .int .i64 0]) 5 64 Tryz.underlying73 hi0 hz0 hz1 hz2 rfl (by omega) V' st'.length (cellsA st') rfl (pe2.alloc _) ⟨Wb.heap.size, 0, none⟩ 1 1 [.int .i64 y.kind, .int .i64 y.num, .string y.txt, .slice y.at_ y.kids.length y.cap, .int .i64 ((d : Int) + 1)] rfl rfl hn hone (by unfold maxLen; omega) (by omega) (by simp; omega) ?_; intro v' w3 hown3 hgrow _ hat3; obtain ⟨A', c', rfl⟩ := own_form hown3; have hbx := (pe1.alloc (.cells #[.int .i64 y.kind, .int .i64 y.num, .string y.txt, .slice y.at_ y.kids.length y.cap, .int .i64 ((d : Int) + 1)] 62)).kept (hgrow.block _ (by simp; omega) hne1); obtain ⟨cbx, fbx⟩ := hbx.c1))
          have k1 := (KeepsOthers.alloc Wb (.cells #[.int .i64 y.kind, .int .i64 y.num, .string y.txt, .slice y.at_ y.kids.length y.cap, .int .i64 ((d : Int) + 1)] 62)).trans (KeepsOthers.of_grownBy hgrow (fun j o e ho => own_cells (pe2.alloc _) e ho))
          have k2 : Below D Wb w3 := below_append ((Below.refl D Wb).alloc (by omega) _) (pe2.alloc _) hD (by omega) hgrow
          have hne2 := own_row_ne (pe2.alloc (.cells #[.int .i64 y.kind, .int .i64 y.num, .string y.txt, .slice y.at_ y.kids.length y.cap, .int .i64 ((d : Int) + 1)] 62)) (pbo.alloc _) (by decide)
          have k3 : w3.heap[W3.heap.size]? = Wb.heap[W3.heap.size]? := (hgrow.block _ (by simp; omega) hne2).trans (Below.heap_alloc _ _ _ (by omega))
          have k4 : w3.heap[wr.heap.size]? = Wb.heap[wr.heap.size]? := (hgrow.block _ (by simp; omega) (fun e => pe3 e.symm)).trans (Below.heap_alloc _ _ _ (by omega))
          have k5 : MvI N Wb w3 := (MvI.of_below (ext_new Wb (.cells #[.int .i64 y.kind, .int .i64 y.num, .string y.txt, .slice y.at_ y.kids.length y.cap, .int .i64 ((d : Int) + 1)] 62))).trans (MvI.append (pe2.alloc _) hgrow)
          have hgs := hgrow.size
          rw [World.size_alloc] at hgs
          have hne3 := own_row_ne hown3 hbx (by decide)
          refine ⟨(k1.trans (KeepsOthers.setCell w3 _ _)).from _, ⟨k2.setCell (p := ⟨W.heap.size + 1, 0, none⟩) (show D ≤ W.heap.size + 1 by omega) _, (Below.heap_setCell _ _ _ _ (show W3.heap.size ≠ W.heap.size + 1 by omega)).trans k3⟩, ?_⟩
          have hS := grownBy_setCell w3 (W.heap.size + 1) 0 (.slice A' (st'.length + 1) c')
          refine ⟨hJ _ _ _ (hJ _ _ _ pj k5) (MvI.other hS hbx (by omega) (not_by (by decide) _ _)), ⟨_, hbx.set_ 0 _, ?_, ?_⟩, pbo.kept ((Below.heap_setCell _ _ _ _ (show W3.heap.size ≠ W.heap.size + 1 by omega)).trans k3), pl.kept ((Below.heap_setCell _ _ _ _ (show wr.heap.size ≠ W.heap.size + 1 by omega)).trans k4), fun E hE => ⟨(pm E hE).1, (pm E hE).2.1, ?_⟩, (pb.trans (k2.mono (by omega))).setCell (p := ⟨W.heap.size + 1, 0, none⟩) (show D ≤ W.heap.size + 1 by omega) _, by rw [World.size_setCell]; omega⟩
          · rw [← HST.out, HSN.out, List.length_append, List.length_singleton]
            exact ownsRow_setCell_other hown3 (fun e => hne3 e.symm) _
          · rcases hat3 with e | e
            · rw [e]; exact pe3
            · rw [e, World.size_alloc]
              exact fun q => absurd (Option.some.inj q) (by omega)
          · have hE := (pm E hE).2.2
            have hEl := (Array.getElem?_eq_some_iff.1 hE).1
            have hne4 : E ≠ W.heap.size + 1 := fun e => by
              rw [e] at hE
              have hT' : Wb.heap[W.heap.size + 1]? = _ := pe1
              rw [hE] at hT'
              cases hT'
            have hEa : (Wb.alloc (.cells #[.int .i64 y.kind, .int .i64 y.num, .string y.txt, .slice y.at_ y.kids.length y.cap, .int .i64 ((d : Int) + 1)] 62)).heap[E]? = some (.deferred (some [])) := (Below.heap_alloc _ _ _ hEl).trans hE
            exact (Below.heap_setCell _ _ _ _ hne4).trans ((hgrow.block E (Array.getElem?_eq_some_iff.1 hEa).1 (fun q => by have := own_cells (pe2.alloc (.cells #[.int .i64 y.kind, .int .i64 y.num, .string y.txt, .slice y.at_ y.kids.length y.cap, .int .i64 ((d : Int) + 1)] 62)) q.symm hEa; cases this)).trans hEa)
        case hdone =>
          rintro xs Wd rfl ⟨pj, ⟨V', pe1, pe2, pe3⟩, pbo, pl, pm, pb, ps⟩ hDd
          gi_wp2
          refine ⟨(still (init ++ x.kids.reverse.map fun y => (d + 1, y))).length, by rw [hg, List.length_cons]; exact Nat.lt_succ_self _, _, _, _, _, _, _, _, _, _, _, _, _, _, _, _, _, _, _, _, _, _, _, _, _, _, _, W4.heap.size :: Ds, ⟨⟨pre ++ [(d, x)], init ++ x.kids.reverse.map (fun y => (d + 1, y)), V', pj, ?_, rfl, pe1, ?_, ?_⟩, ?_, ?_⟩, rfl⟩
          · rw [hL, List.append_assoc]
            rfl
          · have e : (backL x.kids).map (fun q => (d + 1, q.2)) = x.kids.reverse.map fun y => (d + 1, y) := by
              rw [← backL_kids, List.map_map]
              rfl
            rw [e] at pe2
            exact pe2
          · exact hst.push hatp pb kk k62 (by omega) (by omega)
          · intro E hE
            rcases List.mem_cons.1 hE with rfl | hE
            · exact ⟨by omega, hDd⟩
            · exact ⟨(pm E hE).1, (pm E hE).2.2⟩
          · exact List.nodup_cons.2 ⟨fun h => absurd (pm _ h).2.1 (Nat.lt_irrefl _), hnd⟩
      · gi_wp2
        simp only [Exit.noGoto]
        have hmk3 : ∀ D ∈ Ds, N ≤ D ∧ W3.heap[D]? = some (.deferred (some [])) := fun E hE => ⟨(hmk E hE).1, hs3 _ _ (hmk E hE).1 (hmk2 E hE) rfl⟩
        show LeavesInM _ _ _ _ _ _ (Ds.map mkD) .returning W3
        exact leaves_marks Ds W3 hnd (fun D hD => (hmk3 D hD).2) ⟨_, results_none rfl _ _ _, ⟨_, rfl⟩, .inr ⟨_, trivial, hJx _ _ _ hJx3 (marks_mv Ds W3 hnd hmk3)⟩⟩

end Go.Proofs.YtmoghgmbpkpcfaaGreatDoor
