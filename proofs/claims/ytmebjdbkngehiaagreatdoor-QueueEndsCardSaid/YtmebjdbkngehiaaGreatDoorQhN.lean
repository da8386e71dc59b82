/-
  Made as the laws see it, and a call of a desk of one's own. Conditions: as the theorems' own hypotheses say. QueueFinds, QueueRoom: plain laws. No condition.
-/
import Derived.Test.YtmebjdbkngehiaaGreatDoorQhM
namespace Go.Proofs.YtmebjdbkngehiaaGreatDoor
open Go.RowKit Go.Shelf

/-- What is asked of an argument's row of calls. -/
structure ArgL (w : World) (A : Option Addr) (n : Nat) (xs : List QO) : Prop where
  len : xs.length = min n 30
  row : RdC w A xs
  in_ : ∀ x ∈ xs, x.In
theorem ArgL.below {w w' : World} {A : Option Addr} {n : Nat} {xs : List QO} (h : ArgL w A n xs) (hb : Below w.heap.size w w') : ArgL w' A n xs := ⟨h.len, h.row.below hb, h.in_⟩
/-- Made tells that there is a queue. -/
structure IsMade (w : World) (s : Int) (ys : List QO) (p g : Nat) (o : Option (QC × QV)) (q : QN) (w' : World) : Prop where
  play : QPlay w p g o ⟨q.d, some q⟩ w'
  made : ∃ m : Nat, s = (m : Int) ∧ Made m q ∧ m ≤ 256 ∧ (madeN m ys).2.1 = some q ∧ q.s.Few 30
  n : q.d.n ≤ 496000
theorem Made_any {w : World} {aA aT aN aW aS : Addr} (hI : GInv w aA aT aN aW aS) (s : Int) (A : Option Addr) (n c : Nat) (xs : List QO) (ha : ArgL w A n xs) :
    Calls Tryz.prog 28 #[.int .i64 s, .slice A n c] w fun e w' => (∃ a b, e = .returned (.tuple #[.pointer a, .pointer b, .bool false]) ∧ Below w.heap.size w w' ∧ (s < 9 ∨ 256 < s)) ∨ ∃ p g o q b, e = .returned (.tuple #[.pointer (some ⟨p, 0, none⟩), .pointer (some ⟨b, 0, none⟩), .bool true]) ∧ qPtr o = .pointer (some ⟨b, 0, none⟩) ∧ IsMade w s (xs.map QO.cut) p g o q w' := by
  by_cases hs : s < 1 ∨ 256 < s
  · refine (Made_no s _ hs).mono ?_
    rintro e w' ⟨rfl, rfl⟩
    exact .inl ⟨none, none, rfl, Below.refl _ _, by omega⟩
  · obtain ⟨m, rfl⟩ : ∃ m : Nat, s = (m : Int) := ⟨s.toNat, by omega⟩
    refine (Made_ok hI m (by omega) (by omega) A n c xs ha.len ha.row ha.in_).mono ?_
    rintro e w' ⟨p, g, o, rfl, hP⟩
    by_cases h9 : 9 ≤ m
    · obtain ⟨q, q1, q2, q3, q4⟩ := made_law h9 (xs.map QO.cut)
      have hn := made_n (m := m) (by omega) (l := xs.map QO.cut) (by rw [List.length_map, ha.len]; omega)
      rw [q1, q2] at hP
      rw [q2] at hn
      obtain ⟨b, hb⟩ := qptr_some hP.at_
      exact .inr ⟨p, g, o, q, b, by rw [hb, q3]; rfl, hb, hP, ⟨m, rfl, q4, by omega, q1, made_few (by omega) h9 (by rw [List.length_map, ha.len]; omega) q1⟩, hn⟩
    · obtain ⟨q1, q2⟩ := made_small (m := m) (by omega) (xs.map QO.cut)
      rw [q1] at hP
      obtain rfl : o = none := hP.at_.none_ rfl
      exact .inl ⟨_, none, by rw [q2]; rfl, hP.bel, by omega⟩
/-- A call of a desk whose block is new. -/
theorem play_do {w w1 : World} {kb p g : Nat} {o : Option (QC × QV)} {k : KN} {aA aT aN aW aS : Addr} (x : QO) (h : QPlay w p g o k w1) (hI : GInv w aA aT aN aW aS) (hk : Blk w1 kb 41 #[.pointer (some ⟨p, 0, none⟩), qPtr o]) (hw : w.heap.size ≤ kb) (hnk : ¬ KF o p g kb) (hx : x.kind ≤ 4) (hok : x.Ok) (hn : k.d.n ≤ 950000) :
    Calls Tryz.prog 19 #[.pointer (some ⟨kb, 0, none⟩), x.val] w1 fun e w' => ∃ o' A c, e = .returned (.agg #[.int .i64 (k.act x).2.n, .slice A (k.act x).2.lost.length c, .int .i64 (k.act x).2.err]) ∧ qPtr o' = qPtr o ∧ Blk w' kb 41 #[.pointer (some ⟨p, 0, none⟩), qPtr o] ∧ ¬ KF o' p g kb ∧ QPlay w p g o' (k.act x).1 w' ∧ w1.heap.size ≤ w'.heap.size ∧ ∀ r, r < w1.heap.size → r ≠ kb → ¬ KF o p g r → w'.heap[r]? = w1.heap[r]? ∧ ¬ KF o' p g r := by
  refine (do_any x h.at_ hk hnk (h.glb hI) hok hn).mono ?_
  rintro e w' ⟨⟨o', lv, rfl, h2, h3, h4, h5, h6⟩, h7⟩
  obtain ⟨A, c, rfl⟩ := own_form h2
  have hq := h6 (by omega)
  rw [hq] at h3
  refine ⟨o', A, c, rfl, hq, h3, fun q => (h5 _ q).elim hnk fun q => Nat.lt_irrefl _ (Nat.lt_of_lt_of_le hk.lt q), ⟨h4, below_foot h.bel h7 (fun i hi => hi.elim (fun q => by omega) (h.new_ i)) h.bel.size, fun j hj => (h5 j hj).elim (h.new_ j) fun q => Nat.le_trans h.bel.size q⟩, h7.size, fun r hr hn hf => ⟨h7.block r hr fun q => q.elim hn hf, fun q => (h5 r q).elim hf fun q => Nat.lt_irrefl _ (Nat.lt_of_lt_of_le hr q)⟩⟩
theorem cell_heap {a b : World} {p : Addr} (h : b.heap[p.block]? = a.heap[p.block]?) : b.cell? p = a.cell? p := by
  unfold World.cell?
  rw [h]
/-- What a call of a pair leaves of a block besides it. -/
theorem PairWent.keep {w w' : World} {p g : Nat} {o o' : Option (QC × QV)} {k : KN} (h : PairWent w p g o k o' w') {r : Nat} (hr : r < w.heap.size) (hf : ¬ KF o p g r) : w'.heap[r]? = w.heap[r]? ∧ ¬ KF o' p g r ∧ r < w'.heap.size :=
  ⟨h.foot.block r hr hf, fun q => (h.new_ r q).elim hf fun q => Nat.lt_irrefl _ (Nat.lt_of_lt_of_le hr q), Nat.lt_of_lt_of_le hr h.foot.size⟩

end Go.Proofs.YtmebjdbkngehiaaGreatDoor

namespace Go.Proofs.YtmebjdbkngehiaaGreatDoor

theorem room_sent {k : Nat} {s : SN} (h : s.Ok) {i : Nat} (hi : i < s.L.length) : ∃ s1, SN.call k s ⟨1, s.L[i].id, 0, EI.nil⟩ = (s1, 0, 0) ∧ s1.Ok ∧ s1.K = s.K ∧ s1.L.length = s.L.length ∧ ∃ hi1 : i < s1.L.length, s1.L[i].id = s.L[i].id ∧ s1.L[i].sent = true := by
  have hp := h.place_at hi
  by_cases hs : s.L[i].sent = true
  · refine ⟨s, ?_, h, rfl, rfl, hi, rfl, hs⟩
    unfold SN.call
    rw [if_neg (show ¬ (1 : Int) = 0 by decide)]
    have : s.became 2 s.L[i].id = (s, 0) := by
      unfold SN.became
      rw [hp]
      exact if_pos ⟨rfl, by rw [List.getD_eq_getElem?_getD, List.getElem?_eq_getElem hi]; exact hs⟩
    rw [show ((1 : Int) + 1) = 2 from rfl, this]
  · have ht := tell_sent (s := s) (r := ⟨2, s.L[i].id, ByteArray.empty⟩) rfl hp
    have hok := h.tell (r := ⟨2, s.L[i].id, ByteArray.empty⟩) (place_num h hp)
    rw [ht] at hok
    refine ⟨⟨s.L.modify i EI.send, s.K⟩, ?_, hok, rfl, by simp, by simpa using hi, ?_, ?_⟩
    · unfold SN.call
      rw [if_neg (show ¬ (1 : Int) = 0 by decide)]
      have : s.became 2 s.L[i].id = (⟨s.L.modify i EI.send, s.K⟩, 0) := by
        unfold SN.became
        rw [hp, ← ht]
        exact if_neg fun q => hs (by have := q.2; rwa [List.getD_eq_getElem?_getD, List.getElem?_eq_getElem hi] at this)
      rw [show ((1 : Int) + 1) = 2 from rfl, this]
    · simp only [List.getElem_modify_eq]; rfl
    · simp only [List.getElem_modify_eq]; rfl
theorem room_end {k : Nat} {s : SN} (h : s.Ok) {i : Nat} (hi : i < s.L.length) {kd : Int} (hk : kd = 2 ∨ kd = 3) : SN.call k s ⟨kd, s.L[i].id, 0, EI.nil⟩ = (⟨s.L.take i ++ s.L.drop (i + 1), s.K⟩, 0, 0) := by
  have hp := h.place_at hi
  unfold SN.call
  rw [if_neg (show ¬ kd = 0 by omega)]
  have : s.became (kd + 1) s.L[i].id = (⟨s.L.take i ++ s.L.drop (i + 1), s.K⟩, 0) := by
    unfold SN.became
    rw [hp]
    dsimp only
    rw [if_neg (fun q => by omega), tell_end (by show kd + 1 = 3 ∨ kd + 1 = 4; omega) hp]
  rw [this]
theorem find_end {s : SN} (h : s.Ok) {i : Nat} (hi : i < s.L.length) : SN.find ⟨s.L.take i ++ s.L.drop (i + 1), s.K⟩ s.L[i].id = (EI.nil, false) := by
  have hp : SN.place ⟨s.L.take i ++ s.L.drop (i + 1), s.K⟩ s.L[i].id = none := by
    refine placeL_none.2 fun e he q => ?_
    have hn := h.eids
    rw [at_split s.L hi, List.map_append, List.map_cons, List.nodup_append, List.nodup_cons] at hn
    obtain ⟨-, ⟨n1, -⟩, n2⟩ := hn
    rcases List.mem_append.1 he with he | he
    · exact n2 _ (List.mem_map_of_mem he) _ List.mem_cons_self q
    · exact n1 (by rw [← q]; exact List.mem_map_of_mem he)
  unfold SN.find
  rw [hp]
theorem find_at {s : SN} (h : s.Ok) {i : Nat} (hi : i < s.L.length) : SN.find s s.L[i].id = (s.L[i], true) := by
  unfold SN.find
  rw [h.place_at hi]
  dsimp only
  rw [List.getD_eq_getElem?_getD, List.getElem?_eq_getElem hi]
  rfl
/-- What QueueRoom says. -/
theorem room_law {m : Nat} {q : QN} (hq : Made m q) {i : Nat} (hi : i < q.s.L.length) {kd : Int} (hk : 1 ≤ kd ∧ kd ≤ 3) : ∃ q1 q2, KN.act ⟨q.d, some q⟩ ⟨1, q.s.L[i].id, 0, EI.nil⟩ = (⟨q1.d, some q1⟩, ⟨0, [], 0⟩) ∧ KN.act ⟨q1.d, some q1⟩ ⟨kd, q.s.L[i].id, 0, EI.nil⟩ = (⟨q2.d, some q2⟩, ⟨0, [], 0⟩) ∧ (q2.s.find q.s.L[i].id).2 = decide (kd = 1) ∧ (kd = 1 → (q2.s.find q.s.L[i].id).1.sent = true) ∧ q1.d.n ≤ q.d.n + (2 * m + 2) := by
  obtain ⟨q1, b1, b2, b3, b4, b5, b6⟩ := calm_act (x := ⟨1, q.s.L[i].id, 0, EI.nil⟩) hq.qg hq.left ⟨(by decide : (0 : Int) ≤ 1), (by decide : (1 : Int) ≤ 3)⟩
  obtain ⟨s1, c1, c2, c3, c4, hi1, c5, c6⟩ := room_sent (k := q.d.L.length) hq.qg.qi.ok hi
  rw [c1] at b1 b3
  have b3' : q1.s = s1 := b3
  rw [hq.len] at b6
  obtain ⟨q2, d1, d2, d3, d4, d5, d6⟩ := calm_act (x := ⟨kd, q.s.L[i].id, 0, EI.nil⟩) b2 b4 (by show 0 ≤ kd ∧ kd ≤ 3; omega)
  rw [b3'] at d1 d3
  refine ⟨q1, q2, b1, ?_⟩
  by_cases hk1 : kd = 1
  · subst hk1
    obtain ⟨s2, e1, e2, e3, e4, hi2, e5, e6⟩ := room_sent (k := q1.d.L.length) c2 hi1
    rw [c5] at e1 e5
    rw [e1] at d1 d3
    have d3' : q2.s = s2 := d3
    have hf := find_at e2 hi2
    rw [e5] at hf
    refine ⟨d1, ?_, fun _ => ?_, b6⟩
    · rw [d3', hf]; rfl
    · rw [d3', hf]; exact e6
  · have e1 := room_end (k := q1.d.L.length) c2 hi1 (kd := kd) (by omega)
    rw [c5] at e1
    rw [e1] at d1 d3
    have hf := find_end c2 hi1
    rw [c5] at hf
    refine ⟨d1, ?_, fun q => absurd q hk1, b6⟩
    rw [d3, hf, decide_eq_false hk1]

end Go.Proofs.YtmebjdbkngehiaaGreatDoor
