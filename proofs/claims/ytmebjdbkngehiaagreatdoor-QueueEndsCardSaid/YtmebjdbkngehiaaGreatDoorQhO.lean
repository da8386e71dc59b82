/-
  Rows that stand besides a pair. Conditions: as the theorems' own hypotheses say. A queue that stands while a newer one is made on its disk. Conditions: as the theorems' own hypotheses say. One call in a slice of its own. Conditions: as the theorems' own hypotheses say.
-/
import Derived.Test.YtmebjdbkngehiaaGreatDoorQhN
import Derived.Test.YtmebjdbkngehiaaGreatDoorQhJ
namespace Go.Proofs.YtmebjdbkngehiaaGreatDoor
open Go.RowKit Go.Shelf

/-- A row's block is none of a pair's. -/
def Apart (w : World) (p g : Nat) (o : Option (QC × QV)) (A : Option Addr) : Prop := ∀ k, A = some ⟨k, 0, none⟩ → k < w.heap.size ∧ ¬ KF o p g k
theorem Apart.of_own {w w' : World} {p g : Nat} {o : Option (QC × QV)} {k : KN} {T : TypeId} {sz n c : Nat} {A : Option Addr} {vs : List Value} (hP : PairAt w p g o k) (h : w'.ownsRow w.heap.size T sz (.slice A n c) n vs) : Apart w' p g o A := fun j hj =>
  ⟨(h.lt j (by rw [hj]; rfl)).2, fun q => Nat.lt_irrefl _ (Nat.lt_of_lt_of_le (hP.lt q) (h.lt j (by rw [hj]; rfl)).1)⟩
theorem Apart.below {w w' : World} {p g : Nat} {o : Option (QC × QV)} {A : Option Addr} (h : Apart w p g o A) (hb : Below w.heap.size w w') : Apart w' p g o A := fun j hj => ⟨Nat.lt_of_lt_of_le (h j hj).1 hb.size, (h j hj).2⟩
theorem Apart.went {w w' : World} {p g : Nat} {o o' : Option (QC × QV)} {k : KN} {A : Option Addr} (h : Apart w p g o A) (hw : PairWent w p g o k o' w') : Apart w' p g o' A := fun j hj => by
  obtain ⟨-, h2, h3⟩ := hw.keep (h j hj).1 (h j hj).2
  exact ⟨h3, h2⟩
theorem eAt_heap {w w' : World} {r i : Nat} {e : EI} (h : EAt w r i e) (hb : w'.heap[r]? = w.heap[r]?) : EAt w' r i e := by
  obtain ⟨h0, h1, h2, h3, h4, h5, h6⟩ := h
  exact ⟨(cell_heap (p := ⟨r, _, none⟩) hb).trans h0, (cell_heap (p := ⟨r, _, none⟩) hb).trans h1, (cell_heap (p := ⟨r, _, none⟩) hb).trans h2, (cell_heap (p := ⟨r, _, none⟩) hb).trans h3, (cell_heap (p := ⟨r, _, none⟩) hb).trans h4, (cell_heap (p := ⟨r, _, none⟩) hb).trans h5, (cell_heap (p := ⟨r, _, none⟩) hb).trans h6⟩
theorem RowE.went {w w' : World} {p g : Nat} {o o' : Option (QC × QV)} {k : KN} {A : Option Addr} {l : List EI} (h : RowE w A l) (ha : Apart w p g o A) (hw : PairWent w p g o k o' w') : RowE w' A l := fun hp => by
  obtain ⟨r, h1, h2, h3⟩ := h hp
  obtain ⟨k1, -, k3⟩ := hw.keep (ha r h1).1 (ha r h1).2
  exact ⟨r, h1, k3, fun i hi => eAt_heap (h3 i hi) k1⟩
theorem RowAt.went {w w' : World} {p g : Nat} {o o' : Option (QC × QV)} {k : KN} {A : Option Addr} {vs : List Value} (h : RowAt w A vs) (ha : Apart w p g o A) (hw : PairWent w p g o k o' w') : RowAt w' A vs := fun hp => by
  obtain ⟨r, h1, h2, h3⟩ := h hp
  obtain ⟨k1, -, k3⟩ := hw.keep (ha r h1).1 (ha r h1).2
  exact ⟨r, h1, k3, fun i hi => (cell_heap (p := ⟨r, i, none⟩) k1).trans (h3 i hi)⟩
/-- What QueueAgain says. -/
theorem again_full {m : Nat} {q : QN} (hq : Made m q) {x : QO} (hx : x.kind ≤ 3) : ∃ q1 r r2 an, KN.act ⟨q.d, some q⟩ x = (⟨q1.d, some q1⟩, an) ∧ newN q1.d = (r.d, some r, lostL q1.s.L, 0) ∧ r.s = ⟨leftL q1.s.L, q1.s.K⟩ ∧ newN r.d = (r2.d, some r2, [], 0) ∧ r2.s = ⟨leftL q1.s.L, q1.s.K⟩ ∧ q1.s.Ok ∧ q1.d.n ≤ q.d.n + (2 * m + 2) ∧ r.d.n ≤ q1.d.n + 60 * (2 * m + 2) := by
  obtain ⟨q1, an, b1, b2, b4, b5, b6⟩ : ∃ q1 an, KN.act ⟨q.d, some q⟩ x = (⟨q1.d, some q1⟩, an) ∧ QG q1 ∧ q1.d.left = 0 ∧ q1.d.L.length = m ∧ q1.d.n ≤ q.d.n + (2 * m + 2) := by
    by_cases h0 : x.kind < 0
    · exact ⟨q, _, act_other _ x (.inl h0), hq.qg, hq.left, hq.len, by omega⟩
    · obtain ⟨q1, b1, b2, b3, b4, b5, b6⟩ := calm_act (x := x) hq.qg hq.left ⟨by omega, hx⟩
      rw [hq.len] at b5 b6
      exact ⟨q1, _, b1, b2, b4, b5, b6⟩
  have hn := (new_law b2.dg b2.qi.dup).2.1
  obtain ⟨r, f1, f2, f3, f4, f5, f6, f7⟩ := again_law b2 b4
  obtain ⟨r2, g1, g2, g3, g4, g5, g6, g7⟩ := again_law f4 f6
  rw [f5] at g3 g5
  dsimp only at g3 g5
  rw [lost_none (left_left _)] at g3
  rw [left_left] at g5
  refine ⟨q1, r, r2, an, b1, ?_, f5, ?_, g5, b2.qi.ok, b6, ?_⟩
  · rw [show newN q1.d = ((newN q1.d).1, (newN q1.d).2.1, (newN q1.d).2.2) from rfl, f2, f1, f3]
  · rw [show newN r.d = ((newN r.d).1, (newN r.d).2.1, (newN r.d).2.2) from rfl, g2, g1, g3]
  · rw [← f2, ← b5]; exact hn

end Go.Proofs.YtmebjdbkngehiaaGreatDoor

namespace Go.Proofs.YtmebjdbkngehiaaGreatDoor
open Go.RowKit Go.Shelf

theorem pair_stand {w : World} {p g : Nat} {o : Option (QC × QV)} {d : DN} {q : QN} (h : PairAt w p g o ⟨d, some q⟩) : ∃ c v, o = some (c, v) ∧ SAt w c v q.s ∧ q.s.Ok ∧ ∀ j, QF c v j → j ≠ p ∧ j ≠ g := by
  obtain ⟨c, v, rfl, hs, hok, -⟩ := h.some
  have hD := h.disk.disk
  have hG := h.disk.secs
  refine ⟨c, v, rfl, hs, hok, fun j hj => ?_⟩
  have ne : ∀ {a b : Nat} {t u : TypeId} {cs ds : Array Value}, Blk w a t cs → Blk w b u ds → t ≠ u → a ≠ b := by
    intro a b t u cs ds h1 h2 htu e
    subst e
    have := h1.symm.trans h2
    injection this with this
    injection this with e1 e2
    exact htu e2
  rcases hj with rfl | hj | hj | hj
  · exact ⟨ne hs.blk hD (by decide), ne hs.blk hG (by decide)⟩
  · exact ⟨fun e => own_type hs.ids hD (by decide) (e ▸ hj), fun e => own_type hs.ids hG (by decide) (e ▸ hj)⟩
  · exact ⟨fun e => own_type hs.txt hD (by decide) (e ▸ hj), fun e => own_type hs.txt hG (by decide) (e ▸ hj)⟩
  · exact ⟨fun e => own_type hs.ent hD (by decide) (e ▸ hj), fun e => own_type hs.ent hG (by decide) (e ▸ hj)⟩
/-- A state stands when the disk alone is turned. -/
theorem SAt.after {w w' : World} {c : QC} {v : QV} {s : SN} {p g : Nat} (h : SAt w c v s) (hn : ∀ j, QF c v j → j ≠ p ∧ j ≠ g) (hf : Foot (fun j => j = p ∨ j = g) w w') : SAt w' c v s :=
  h.kept fun k hk => hf.block k (h.lt hk) fun q => q.elim (hn k hk).1 (hn k hk).2
/-- A new queue on the disk: it turns the disk alone. -/
theorem play_new2 {w w1 : World} {p g : Nat} {o : Option (QC × QV)} {k : KN} {aA aT aN aW aS : Addr} (h : QPlay w p g o k w1) (hI : GInv w aA aT aN aW aS) (hn : k.d.n ≤ 950000) :
    Calls Tryz.prog 31 #[.pointer (some ⟨p, 0, none⟩)] w1 fun e w' => ∃ o' lv, e = .returned (.tuple #[qPtr o', lv, .int .i64 (newN k.d).2.2.2]) ∧ w'.ownsRow w1.heap.size 23 7 lv (newN k.d).2.2.1.length (cellsE (newN k.d).2.2.1) ∧ PairWent w1 p g o ⟨(newN k.d).1, (newN k.d).2.1⟩ o' w' ∧ Foot (fun j => j = p ∨ j = g) w1 w' := by
  refine (new_any h.at_.disk ((h.glb hI).later (Foot.refl _ _) fun j hj => .inl (KF.two hj)) hn).mono ?_
  intro e w' hN
  have hf : Foot (fun j => j = p ∨ j = g) w1 w' := by
    obtain ⟨qv, lv, h1, h2, h3, h4, h5⟩ := hN
    exact h3
  obtain ⟨o', lv, he, ho, hw⟩ := pair_new hN h.at_.disk.fit (newN_pos h.at_.disk.fit h.at_.pos)
  exact ⟨o', lv, he, ho, hw, hf⟩

end Go.Proofs.YtmebjdbkngehiaaGreatDoor

namespace Go.Proofs.YtmebjdbkngehiaaGreatDoor
open Go.RowKit Go.Shelf

theorem rdC_one {w : World} {b : Nat} {T : TypeId} {x : QO} (h : Blk w b T #[.int .i64 x.kind, .int .i64 x.a, .int .i64 x.b, .int .i64 x.e.id, .int .i64 x.e.side, .string x.e.key, .string x.e.data, .int .i64 x.e.due, .bool x.e.cust, .bool x.e.sent]) : RdC w (some ⟨b, 0, none⟩) [x] := fun _ => by
  refine ⟨⟨b, 0, none⟩, rfl, h.lt, fun i hi => ?_⟩
  obtain rfl : i = 0 := by simpa using hi
  exact ⟨(h.cell 0).trans rfl, (h.cell 1).trans rfl, (h.cell 2).trans rfl, (h.cell 3).trans rfl, (h.cell 4).trans rfl, (h.cell 5).trans rfl, (h.cell 6).trans rfl, (h.cell 7).trans rfl, (h.cell 8).trans rfl, (h.cell 9).trans rfl⟩
theorem blk_set10 {w : World} {g : Nat} {t : TypeId} {a0 a1 a2 a3 a4 a5 a6 a7 a8 a9 : Value} (h : Blk w g t #[a0, a1, a2, a3, a4, a5, a6, a7, a8, a9]) (u0 u1 u2 u3 u4 u5 u6 u7 u8 u9 : Value) : Blk ((((((((((w.setCell ⟨g, 0, none⟩ u0).setCell ⟨g, 1, none⟩ u1).setCell ⟨g, 2, none⟩ u2).setCell ⟨g, 3, none⟩ u3).setCell ⟨g, 4, none⟩ u4).setCell ⟨g, 5, none⟩ u5).setCell ⟨g, 6, none⟩ u6).setCell ⟨g, 7, none⟩ u7).setCell ⟨g, 8, none⟩ u8).setCell ⟨g, 9, none⟩ u9) g t #[u0, u1, u2, u3, u4, u5, u6, u7, u8, u9] := by
  have h0 : Blk (w.setCell ⟨g, 0, none⟩ u0) g t #[u0, a1, a2, a3, a4, a5, a6, a7, a8, a9] := h.set_ 0 u0
  have h1 : Blk ((w.setCell ⟨g, 0, none⟩ u0).setCell ⟨g, 1, none⟩ u1) g t #[u0, u1, a2, a3, a4, a5, a6, a7, a8, a9] := h0.set_ 1 u1
  have h2 : Blk (((w.setCell ⟨g, 0, none⟩ u0).setCell ⟨g, 1, none⟩ u1).setCell ⟨g, 2, none⟩ u2) g t #[u0, u1, u2, a3, a4, a5, a6, a7, a8, a9] := h1.set_ 2 u2
  have h3 : Blk ((((w.setCell ⟨g, 0, none⟩ u0).setCell ⟨g, 1, none⟩ u1).setCell ⟨g, 2, none⟩ u2).setCell ⟨g, 3, none⟩ u3) g t #[u0, u1, u2, u3, a4, a5, a6, a7, a8, a9] := h2.set_ 3 u3
  have h4 : Blk (((((w.setCell ⟨g, 0, none⟩ u0).setCell ⟨g, 1, none⟩ u1).setCell ⟨g, 2, none⟩ u2).setCell ⟨g, 3, none⟩ u3).setCell ⟨g, 4, none⟩ u4) g t #[u0, u1, u2, u3, u4, a5, a6, a7, a8, a9] := h3.set_ 4 u4
  have h5 : Blk ((((((w.setCell ⟨g, 0, none⟩ u0).setCell ⟨g, 1, none⟩ u1).setCell ⟨g, 2, none⟩ u2).setCell ⟨g, 3, none⟩ u3).setCell ⟨g, 4, none⟩ u4).setCell ⟨g, 5, none⟩ u5) g t #[u0, u1, u2, u3, u4, u5, a6, a7, a8, a9] := h4.set_ 5 u5
  have h6 : Blk (((((((w.setCell ⟨g, 0, none⟩ u0).setCell ⟨g, 1, none⟩ u1).setCell ⟨g, 2, none⟩ u2).setCell ⟨g, 3, none⟩ u3).setCell ⟨g, 4, none⟩ u4).setCell ⟨g, 5, none⟩ u5).setCell ⟨g, 6, none⟩ u6) g t #[u0, u1, u2, u3, u4, u5, u6, a7, a8, a9] := h5.set_ 6 u6
  have h7 : Blk ((((((((w.setCell ⟨g, 0, none⟩ u0).setCell ⟨g, 1, none⟩ u1).setCell ⟨g, 2, none⟩ u2).setCell ⟨g, 3, none⟩ u3).setCell ⟨g, 4, none⟩ u4).setCell ⟨g, 5, none⟩ u5).setCell ⟨g, 6, none⟩ u6).setCell ⟨g, 7, none⟩ u7) g t #[u0, u1, u2, u3, u4, u5, u6, u7, a8, a9] := h6.set_ 7 u7
  have h8 : Blk (((((((((w.setCell ⟨g, 0, none⟩ u0).setCell ⟨g, 1, none⟩ u1).setCell ⟨g, 2, none⟩ u2).setCell ⟨g, 3, none⟩ u3).setCell ⟨g, 4, none⟩ u4).setCell ⟨g, 5, none⟩ u5).setCell ⟨g, 6, none⟩ u6).setCell ⟨g, 7, none⟩ u7).setCell ⟨g, 8, none⟩ u8) g t #[u0, u1, u2, u3, u4, u5, u6, u7, u8, a9] := h7.set_ 8 u8
  have h9 : Blk ((((((((((w.setCell ⟨g, 0, none⟩ u0).setCell ⟨g, 1, none⟩ u1).setCell ⟨g, 2, none⟩ u2).setCell ⟨g, 3, none⟩ u3).setCell ⟨g, 4, none⟩ u4).setCell ⟨g, 5, none⟩ u5).setCell ⟨g, 6, none⟩ u6).setCell ⟨g, 7, none⟩ u7).setCell ⟨g, 8, none⟩ u8).setCell ⟨g, 9, none⟩ u9) g t #[u0, u1, u2, u3, u4, u5, u6, u7, u8, u9] := h8.set_ 9 u9
  exact h9
theorem below_set10 {B g : Nat} {a w : World} (h : Below B a w) (hg : B ≤ g) (u0 u1 u2 u3 u4 u5 u6 u7 u8 u9 : Value) : Below B a ((((((((((w.setCell ⟨g, 0, none⟩ u0).setCell ⟨g, 1, none⟩ u1).setCell ⟨g, 2, none⟩ u2).setCell ⟨g, 3, none⟩ u3).setCell ⟨g, 4, none⟩ u4).setCell ⟨g, 5, none⟩ u5).setCell ⟨g, 6, none⟩ u6).setCell ⟨g, 7, none⟩ u7).setCell ⟨g, 8, none⟩ u8).setCell ⟨g, 9, none⟩ u9) := ((((((((((h.setCell (p := ⟨g, 0, none⟩) hg u0).setCell (p := ⟨g, 1, none⟩) hg u1).setCell (p := ⟨g, 2, none⟩) hg u2).setCell (p := ⟨g, 3, none⟩) hg u3).setCell (p := ⟨g, 4, none⟩) hg u4).setCell (p := ⟨g, 5, none⟩) hg u5).setCell (p := ⟨g, 6, none⟩) hg u6).setCell (p := ⟨g, 7, none⟩) hg u7).setCell (p := ⟨g, 8, none⟩) hg u8).setCell (p := ⟨g, 9, none⟩) hg u9)
theorem op_own_one {w : World} {base n : Nat} {t : TypeId} {V : Value} {x : QO} (h : w.ownsRow base t 10 V n (cellsC [x])) : n = 1 ∧ ∃ g c, V = .slice (some ⟨g, 0, none⟩) 1 c ∧ g < w.heap.size ∧ OpAt w ⟨g, 0, none⟩ x := by
  obtain ⟨hn, A, c, rfl, hr⟩ := rdC_own h
  have hn1 : n = 1 := hn
  subst hn1
  obtain ⟨a, rfl, ha, hc⟩ := hr (by simp)
  have h0 := hc 0 (by simp)
  obtain ⟨-, ⟨e, -⟩ | ⟨g, cap, cur, e, -⟩⟩ := h
  · injection e with e; cases e
  · injection e with e1 e2
    injection e1 with e1
    subst e1
    exact ⟨rfl, g, c, rfl, ha, h0⟩

end Go.Proofs.YtmebjdbkngehiaaGreatDoor
