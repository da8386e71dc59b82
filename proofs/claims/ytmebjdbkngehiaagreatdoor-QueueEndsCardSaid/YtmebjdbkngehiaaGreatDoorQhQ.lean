/-
  QueueMends, QueueSafe, QueueEnds: plain laws. No condition. What stands besides a pair while it moves: rows, blocks, another pair. Conditions: as the theorems' own hypotheses say.
-/
import Derived.Test.YtmebjdbkngehiaaGreatDoorQhO
namespace Go.Proofs.YtmebjdbkngehiaaGreatDoor

theorem arm_is {d : DN} {q : QN} (wr cut : Int) : (KN.act ⟨d, some q⟩ ⟨4, wr, cut, EI.nil⟩).1 = ⟨(d.arm wr cut).1, some { q with d := (d.arm wr cut).1 }⟩ := rfl
theorem arm_n (d : DN) (wr cut : Int) : (d.arm wr cut).1.n = d.n := by
  unfold DN.arm
  split <;> rfl
theorem arm_no {d : DN} {wr cut : Int} (h : d.left = 0) (hl : (d.arm wr cut).1.left ≠ 0) : (d.arm wr cut).2 = 0 := by
  unfold DN.arm at hl ⊢
  split
  · rfl
  · rw [if_neg ‹_›] at hl
    exact absurd h hl
/-- A new queue on a disk that is restarted. -/
theorem fresh_law {d : DN} {s : SN} (h : DG d s) : ∃ r, newN d.restart = (r.d, some r, lostL s.L, 0) ∧ r.s = ⟨leftL s.L, s.K⟩ := by
  obtain ⟨h1, h2, h3⟩ := dg_restart h
  obtain ⟨-, -, ⟨r, g1, g2, g3, g4, g5, g6⟩ | ⟨-, -, -, g4, -⟩⟩ := new_law h1 h2
  · refine ⟨r, ?_, g5⟩
    rw [show newN d.restart = ((newN d.restart).1, (newN d.restart).2.1, (newN d.restart).2.2) from rfl, g2, g1, g3]
  · exact absurd h3 g4
/-- What QueueMends says. -/
theorem mends_law {m : Nat} {q : QN} (hq : Made m q) (a b wr cut : Int) : ∃ q1 q2 an1 an2 d3 o3 l3 e3 r l4, KN.act ⟨q.d, some q⟩ ⟨1, a, 0, EI.nil⟩ = (⟨q1.d, some q1⟩, an1) ∧ KN.act ⟨q1.d, some q1⟩ ⟨1, b, 0, EI.nil⟩ = (⟨q2.d, some q2⟩, an2) ∧
    newN (q2.d.arm wr cut).1 = (d3, o3, l3, e3) ∧ newN d3.restart = (r.d, some r, l4, 0) ∧ r.s = ⟨leftL q2.s.L, q2.s.K⟩ ∧ q2.s.Ok ∧
    ((e3 = 0 ∧ d3.down = false ∧ l3 = lostL q2.s.L ∧ l4 = []) ∨ (e3 = 180 ∧ d3.down = true ∧ l3 = [] ∧ (q2.d.arm wr cut).2 = 0)) ∧
    q1.d.n ≤ q.d.n + (2 * m + 2) ∧ q2.d.n ≤ q.d.n + 2 * (2 * m + 2) ∧ d3.n ≤ q.d.n + 62 * (2 * m + 2) := by
  obtain ⟨q1, b1, b2, b3, b4, b5, b6⟩ := calm_act (x := ⟨1, a, 0, EI.nil⟩) hq.qg hq.left ⟨(by decide : (0 : Int) ≤ 1), (by decide : (1 : Int) ≤ 3)⟩
  obtain ⟨q2, c1, c2, c3, c4, c5, c6⟩ := calm_act (x := ⟨1, b, 0, EI.nil⟩) b2 b4 ⟨(by decide : (0 : Int) ≤ 1), (by decide : (1 : Int) ≤ 3)⟩
  rw [hq.len] at b5 b6
  rw [b5] at c5 c6
  obtain ⟨e1, e2, e3⟩ := dg_arm c2.dg wr cut
  obtain ⟨-, f2, f3⟩ := new_law e1 (e2.trans c2.qi.dup)
  rw [arm_n, e3, c5] at f2
  have hn3 : (newN (q2.d.arm wr cut).1).1.n ≤ q.d.n + 62 * (2 * m + 2) := by omega
  rcases f3 with ⟨q3, g1, g2, g3, g4, g5, g6⟩ | ⟨g1, g2, g3, g4, s', g5, g6, g7⟩
  · obtain ⟨r, k1, k2⟩ := fresh_law g4.dg
    rw [g5] at k1 k2
    dsimp only at k1 k2
    rw [lost_none (left_left _)] at k1
    rw [left_left] at k2
    refine ⟨q1, q2, _, _, q3.d, some q3, lostL q2.s.L, 0, r, [], b1, c1, ?_, k1, k2, c2.qi.ok, .inl ⟨rfl, g4.qi.dup, rfl, rfl⟩, b6, by omega, by rw [← g2]; exact hn3⟩
    rw [show newN (q2.d.arm wr cut).1 = ((newN (q2.d.arm wr cut).1).1, (newN (q2.d.arm wr cut).1).2.1, (newN (q2.d.arm wr cut).1).2.2) from rfl, g2, g1, g3]
  · obtain ⟨r, k1, k2⟩ := fresh_law g5
    rw [g6, g7] at k2
    refine ⟨q1, q2, _, _, (newN (q2.d.arm wr cut).1).1, none, [], 180, r, _, b1, c1, ?_, k1, k2, c2.qi.ok, .inr ⟨rfl, g3, rfl, arm_no c4 g4⟩, b6, by omega, hn3⟩
    rw [show newN (q2.d.arm wr cut).1 = ((newN (q2.d.arm wr cut).1).1, (newN (q2.d.arm wr cut).1).2.1, (newN (q2.d.arm wr cut).1).2.2) from rfl, g1, g2]
/-- What QueueSafe says. -/
theorem safe_law {m : Nat} {q : QN} (hq : Made m q) {x : QO} (hx : 0 ≤ x.kind ∧ x.kind ≤ 3) (wr cut : Int) : ∃ qa n err q2 n2 err2 r lm, KN.act ⟨q.d, some q⟩ x = (⟨qa.d, some qa⟩, ⟨n, [], err⟩) ∧
    KN.act ⟨(q.d.arm wr cut).1, some { q with d := (q.d.arm wr cut).1 }⟩ x = (⟨q2.d, some q2⟩, ⟨n2, [], err2⟩) ∧ newN q2.d.restart = (r.d, some r, lm, 0) ∧ qa.s.Ok ∧
    ((q2.d.down = false ∧ n2 = n ∧ err2 = err ∧ r.s = ⟨leftL qa.s.L, qa.s.K⟩) ∨ (q2.d.down = true ∧ err2 = 180 ∧ (r.s = ⟨leftL q.s.L, q.s.K⟩ ∨ r.s = ⟨leftL qa.s.L, qa.s.K⟩))) ∧
    q2.d.n ≤ q.d.n + (2 * m + 2) := by
  obtain ⟨qa, b1, b2, b3, b4, b5, b6⟩ := calm_act hq.qg hq.left hx
  obtain ⟨-, -, e3⟩ := dg_arm hq.qg.dg wr cut
  have hg := qg_arm hq.qg wr cut
  obtain ⟨c1, c2, c3⟩ := call_law hg hx
  dsimp only at c1 c2 c3
  rw [e3] at c1 c2 c3
  rw [arm_n, hq.len] at c2
  have ha := act_some (k := ⟨(q.d.arm wr cut).1, some { q with d := (q.d.arm wr cut).1 }⟩) (q := { q with d := (q.d.arm wr cut).1 }) hx.1 hx.2 rfl
  rcases c3 with ⟨d1, d2, d3, -⟩ | ⟨d1, -, d2, -, -, d3 | d3⟩
  · obtain ⟨r, k1, k2⟩ := fresh_law d2.dg
    rw [d3, ← b3] at k2
    refine ⟨qa, _, _, _, _, _, r, _, b1, ha, k1, b2.qi.ok, .inl ⟨d2.qi.dup, ?_, ?_, k2⟩, c2⟩
    · rw [d1]
    · rw [d1]
  · obtain ⟨r, k1, k2⟩ := fresh_law d3
    exact ⟨qa, _, _, _, _, _, r, _, b1, ha, k1, b2.qi.ok, .inr ⟨d2, by rw [d1], .inl k2⟩, c2⟩
  · obtain ⟨r, k1, k2⟩ := fresh_law d3
    rw [← b3] at k2
    exact ⟨qa, _, _, _, _, _, r, _, b1, ha, k1, b2.qi.ok, .inr ⟨d2, by rw [d1], .inr k2⟩, c2⟩
theorem left_end {l : List EI} (h : leftL l = l) (i : Nat) : leftL (l.take i ++ l.drop (i + 1)) = l.take i ++ l.drop (i + 1) := by
  unfold leftL at h ⊢
  rw [List.filter_eq_self] at h ⊢
  intro e he
  rcases List.mem_append.1 he with he | he
  · exact h e (List.mem_of_mem_take he)
  · exact h e (List.mem_of_mem_drop he)
/-- What QueueEnds says. -/
theorem ends_law {m : Nat} {q : QN} (hq : Made m q) {i : Nat} (hi : i < q.s.L.length) {kd : Int} (hk : kd = 2 ∨ kd = 3) : ∃ q1 r, KN.act ⟨q.d, some q⟩ ⟨kd, q.s.L[i].id, 0, EI.nil⟩ = (⟨q1.d, some q1⟩, ⟨0, [], 0⟩) ∧
    q1.s = ⟨q.s.L.take i ++ q.s.L.drop (i + 1), q.s.K⟩ ∧ newN q1.d = (r.d, some r, [], 0) ∧ r.s = ⟨q.s.L.take i ++ q.s.L.drop (i + 1), q.s.K⟩ ∧ q.s.knows q.s.L[i].key = true ∧ q.s.Ok ∧ q1.d.n ≤ q.d.n + (2 * m + 2) := by
  obtain ⟨q1, b1, b2, b3, b4, b5, b6⟩ := calm_act (x := ⟨kd, q.s.L[i].id, 0, EI.nil⟩) hq.qg hq.left ⟨by show 0 ≤ kd; omega, by show kd ≤ 3; omega⟩
  rw [room_end hq.qg.qi.ok hi hk] at b1 b3
  dsimp only at b1 b3
  rw [hq.len] at b6
  obtain ⟨r, f1, f2, f3, f4, f5, f6, f7⟩ := again_law b2 b4
  rw [b3] at f3 f5
  dsimp only at f3 f5
  have hl := left_end hq.none i
  rw [lost_none hl] at f3
  rw [hl] at f5
  refine ⟨q1, r, b1, b3, ?_, f5, ?_, hq.qg.qi.ok, b6⟩
  · rw [show newN q1.d = ((newN q1.d).1, (newN q1.d).2.1, (newN q1.d).2.2) from rfl, f2, f1, f3]
  · refine knows_iff.2 ⟨q.s.L[i].k, hq.qg.qi.ok.sub.subset (List.mem_map_of_mem (List.getElem_mem hi)), rfl⟩
/-- What QueueFinds says. -/
theorem finds_key {s : SN} (h : s.Ok) {i : Nat} (hi : i < s.L.length) : s.knows s.L[i].key = true := knows_iff.2 ⟨s.L[i].k, h.sub.subset (List.mem_map_of_mem (List.getElem_mem hi)), rfl⟩
theorem finds_rise {k : Nat} {s : SN} (h : s.Ok) (hr : Rm k s) {i : Nat} (h0 : 0 < i) (hi : i < s.L.length) : s.L[i - 1].id < s.L[i].id := by
  have h1 := List.Pairwise.sublist (h.sub.map KI.id) hr.rise
  rw [List.map_map] at h1
  have h2 := List.pairwise_iff_getElem.1 h1 (i - 1) i (by simp; omega) (by simpa using hi) (by omega)
  simpa [EI.k] using h2
theorem finds_keys {s : SN} (h : s.Ok) {i k : Nat} (hi : i < s.K.length) (hk : k < i) : s.K[i].text ≠ s.K[k].text := by
  have h1 := List.pairwise_iff_getElem.1 h.texts k i (by simp; omega) (by simpa using hi) hk
  intro e
  exact h1 (by simpa using e.symm)
theorem finds_no {s : SN} {id : Int} (h : (s.find id).2 = false) : (∀ e ∈ s.L, e.id ≠ id) ∧ (s.find id).1 = EI.nil := by
  unfold SN.find at h ⊢
  cases hp : s.place id with
  | none => exact ⟨placeL_none.1 hp, rfl⟩
  | some i => rw [hp] at h; cases h

end Go.Proofs.YtmebjdbkngehiaaGreatDoor

namespace Go.Proofs.YtmebjdbkngehiaaGreatDoor
open Go.RowKit Go.Shelf

structure Kept (F : Nat → Prop) (w w' : World) : Prop where
  size : w.heap.size ≤ w'.heap.size
  block : ∀ r, r < w.heap.size → ¬ F r → w'.heap[r]? = w.heap[r]?
/-- What a call of a pair leaves of what stands besides. -/
structure Moves (w : World) (p g : Nat) (o o' : Option (QC × QV)) (w' : World) : Prop where
  kept : Kept (KF o p g) w w'
  new_ : ∀ r, r < w.heap.size → ¬ KF o p g r → ¬ KF o' p g r
theorem PairWent.moves {w w' : World} {p g : Nat} {o o' : Option (QC × QV)} {k : KN} (h : PairWent w p g o k o' w') : Moves w p g o o' w' :=
  ⟨⟨h.foot.size, fun _r hr hf => (h.keep hr hf).1⟩, fun _r hr hf => (h.keep hr hf).2.1⟩
theorem moves_do {w w1 w2 : World} {p g kb : Nat} {o o' : Option (QC × QV)} (hE : Below w.heap.size w w1) (hkb : w.heap.size = kb) (hs : w1.heap.size ≤ w2.heap.size)
    (h : ∀ r, r < w1.heap.size → r ≠ kb → ¬ KF o p g r → w2.heap[r]? = w1.heap[r]? ∧ ¬ KF o' p g r) : Moves w p g o o' w2 :=
  ⟨⟨Nat.le_trans hE.size hs, fun r hr hf => ((h r (Nat.lt_of_lt_of_le hr hE.size) (by omega) hf).1).trans (hE.block r hr)⟩, fun r hr hf => (h r (Nat.lt_of_lt_of_le hr hE.size) (by omega) hf).2⟩
theorem RowE.heap {w w' : World} {A : Option Addr} {l : List EI} (h : RowE w A l) (hb : ∀ k, A = some ⟨k, 0, none⟩ → w'.heap[k]? = w.heap[k]? ∧ k < w'.heap.size) : RowE w' A l := fun hp => by
  obtain ⟨r, h1, h2, h3⟩ := h hp
  exact ⟨r, h1, (hb r h1).2, fun i hi => eAt_heap (h3 i hi) (hb r h1).1⟩
theorem RowAt.heap {w w' : World} {A : Option Addr} {vs : List Value} (h : RowAt w A vs) (hb : ∀ k, A = some ⟨k, 0, none⟩ → w'.heap[k]? = w.heap[k]? ∧ k < w'.heap.size) : RowAt w' A vs := fun hp => by
  obtain ⟨r, h1, h2, h3⟩ := h hp
  exact ⟨r, h1, (hb r h1).2, fun i hi => (cell_heap (p := ⟨r, i, none⟩) (hb r h1).1).trans (h3 i hi)⟩
theorem Apart.go {w w' : World} {p g : Nat} {o o' : Option (QC × QV)} {A : Option Addr} (h : Apart w p g o A) (hw : Moves w p g o o' w') : Apart w' p g o' A := fun j hj =>
  ⟨Nat.lt_of_lt_of_le (h j hj).1 hw.kept.size, hw.new_ _ (h j hj).1 (h j hj).2⟩
/-- A row of entries besides a pair. -/
def RowE2 (w : World) (p g : Nat) (o : Option (QC × QV)) (A : Option Addr) (l : List EI) : Prop := RowE w A l ∧ Apart w p g o A
def RowA2 (w : World) (p g : Nat) (o : Option (QC × QV)) (A : Option Addr) (vs : List Value) : Prop := RowAt w A vs ∧ Apart w p g o A
def Sits (w : World) (p g : Nat) (o : Option (QC × QV)) (j : Nat) (t : TypeId) (cs : Array Value) : Prop := Blk w j t cs ∧ ¬ KF o p g j
theorem RowE2.go {w w' : World} {p g : Nat} {o o' : Option (QC × QV)} {A : Option Addr} {l : List EI} (h : RowE2 w p g o A l) (hw : Moves w p g o o' w') : RowE2 w' p g o' A l :=
  ⟨h.1.heap fun k hk => ⟨hw.kept.block k (h.2 k hk).1 (h.2 k hk).2, Nat.lt_of_lt_of_le (h.2 k hk).1 hw.kept.size⟩, h.2.go hw⟩
theorem RowA2.go {w w' : World} {p g : Nat} {o o' : Option (QC × QV)} {A : Option Addr} {vs : List Value} (h : RowA2 w p g o A vs) (hw : Moves w p g o o' w') : RowA2 w' p g o' A vs :=
  ⟨h.1.heap fun k hk => ⟨hw.kept.block k (h.2 k hk).1 (h.2 k hk).2, Nat.lt_of_lt_of_le (h.2 k hk).1 hw.kept.size⟩, h.2.go hw⟩
theorem Sits.go {w w' : World} {p g : Nat} {o o' : Option (QC × QV)} {j : Nat} {t : TypeId} {cs : Array Value} (h : Sits w p g o j t cs) (hw : Moves w p g o o' w') : Sits w' p g o' j t cs :=
  ⟨h.1.kept (hw.kept.block j h.1.lt h.2), hw.new_ j h.1.lt h.2⟩
theorem RowE2.below {w w' : World} {p g : Nat} {o : Option (QC × QV)} {A : Option Addr} {l : List EI} (h : RowE2 w p g o A l) (hb : Below w.heap.size w w') : RowE2 w' p g o A l := ⟨h.1.below hb, h.2.below hb⟩
theorem RowA2.below {w w' : World} {p g : Nat} {o : Option (QC × QV)} {A : Option Addr} {vs : List Value} (h : RowA2 w p g o A vs) (hb : Below w.heap.size w w') : RowA2 w' p g o A vs := ⟨h.1.below hb, h.2.below hb⟩
theorem Sits.below {w w' : World} {p g : Nat} {o : Option (QC × QV)} {j : Nat} {t : TypeId} {cs : Array Value} (h : Sits w p g o j t cs) (hb : Below w.heap.size w w') : Sits w' p g o j t cs := ⟨h.1.below hb, h.2⟩
/-- The other pair moves. -/
theorem RowE2.other {w w' : World} {p g p2 g2 : Nat} {o o2 o2' : Option (QC × QV)} {A : Option Addr} {l : List EI} (h : RowE2 w p g o A l) (h2 : Apart w p2 g2 o2 A) (hw : Moves w p2 g2 o2 o2' w') : RowE2 w' p g o A l :=
  ⟨h.1.heap fun k hk => ⟨hw.kept.block k (h2 k hk).1 (h2 k hk).2, Nat.lt_of_lt_of_le (h2 k hk).1 hw.kept.size⟩, fun k hk => ⟨Nat.lt_of_lt_of_le (h2 k hk).1 hw.kept.size, (h.2 k hk).2⟩⟩
theorem RowA2.other {w w' : World} {p g p2 g2 : Nat} {o o2 o2' : Option (QC × QV)} {A : Option Addr} {vs : List Value} (h : RowA2 w p g o A vs) (h2 : Apart w p2 g2 o2 A) (hw : Moves w p2 g2 o2 o2' w') : RowA2 w' p g o A vs :=
  ⟨h.1.heap fun k hk => ⟨hw.kept.block k (h2 k hk).1 (h2 k hk).2, Nat.lt_of_lt_of_le (h2 k hk).1 hw.kept.size⟩, fun k hk => ⟨Nat.lt_of_lt_of_le (h2 k hk).1 hw.kept.size, (h.2 k hk).2⟩⟩
theorem Sits.other {w w' : World} {p g p2 g2 : Nat} {o o2 o2' : Option (QC × QV)} {j : Nat} {t : TypeId} {cs : Array Value} (h : Sits w p g o j t cs) (h2 : ¬ KF o2 p2 g2 j) (hw : Moves w p2 g2 o2 o2' w') : Sits w' p g o j t cs :=
  ⟨h.1.kept (hw.kept.block j h.1.lt h2), h.2⟩
theorem QPlay.other {w w1 w2 : World} {p g p2 g2 : Nat} {o o2 o2' : Option (QC × QV)} {k : KN} {B : Nat} (h : QPlay w p g o k w1) (hB : ∀ j, KF o p g j → j < B) (hB2 : ∀ j, KF o2 p2 g2 j → B ≤ j) (hw : Moves w1 p2 g2 o2 o2' w2) (hb : Below w.heap.size w w2) : QPlay w p g o k w2 :=
  ⟨h.at_.kept fun j hj => hw.kept.block j (h.at_.lt hj) fun q => absurd (hB2 j q) (Nat.not_le.2 (hB j hj)), hb, h.new_⟩
theorem RowE2.of_own {w w' : World} {p g : Nat} {o : Option (QC × QV)} {k : KN} {T : TypeId} {sz n c : Nat} {A : Option Addr} {vs : List Value} {l : List EI} (hP : PairAt w p g o k) (h : w'.ownsRow w.heap.size T sz (.slice A n c) n vs) (hr : RowE w' A l) : RowE2 w' p g o A l := ⟨hr, .of_own hP h⟩
theorem RowA2.of_own {w w' : World} {p g : Nat} {o : Option (QC × QV)} {k : KN} {T : TypeId} {sz n c : Nat} {A : Option Addr} {vs us : List Value} (hP : PairAt w p g o k) (h : w'.ownsRow w.heap.size T sz (.slice A n c) n vs) (hr : RowAt w' A us) : RowA2 w' p g o A us := ⟨hr, .of_own hP h⟩

end Go.Proofs.YtmebjdbkngehiaaGreatDoor
