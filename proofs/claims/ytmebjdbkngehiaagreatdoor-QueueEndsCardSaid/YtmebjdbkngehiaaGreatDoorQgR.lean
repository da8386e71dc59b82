/-
  A queue on a disk: how one begins, what its calls do, and what a power loss leaves of them. Plain lists, no program. No condition. A queue on a disk: its calls, and what a power loss in one leaves. Plain lists, no program. No condition. A desk behind some calls, its disk restarted, a new queue on it; what laws ask of it. Plain lists, no program. No condition.
-/
import Derived.Test.YtmebjdbkngehiaaGreatDoorQgQ
namespace Go.Proofs.YtmebjdbkngehiaaGreatDoor

def flagN (d : DN) : Bool := decide (d.L.flatten.headD 0 ≠ 0)
/-- What the log of a disk tells. -/
def openN (d : DN) : QN := ⟨d, SN.nil.tells ((scanOf (areaN d.L.flatten d.L.length (flagN d))).1.map RecN.i), flagN d, (scanOf (areaN d.L.flatten d.L.length (flagN d))).2, false⟩
def lostL (l : List EI) : List EI := l.filter EI.lost
/-- Entries dropped, one by one. -/
def QN.drops : QN → List EI → QN × Int
  | q, [] => (q, 0)
  | q, e :: l => if (q.log ⟨4, e.id, ByteArray.empty⟩).2 = 0 then (q.log ⟨4, e.id, ByteArray.empty⟩).1.drops l else q.log ⟨4, e.id, ByteArray.empty⟩
/-- A queue on a disk: the disk, the queue, what was lost, what is told. -/
def newN (d : DN) : DN × Option QN × List EI × Int :=
  if d.down = true then (d, none, [], 180) else if d.L.length < 9 then (d, none, [], 190)
  else if ((openN d).drops (lostL (openN d).s.L)).2 = 0 then (((openN d).drops (lostL (openN d).s.L)).1.d, some ((openN d).drops (lostL (openN d).s.L)).1, lostL (openN d).s.L, 0)
  else (((openN d).drops (lostL (openN d).s.L)).1.d, none, [], ((openN d).drops (lostL (openN d).s.L)).2)
/-- An entry as it is put. -/
def QN.asNew (q : QN) (e : EI) : EI := { e with id := q.s.next }
/-- An entry put: the queue, the number, what is told. -/
def QN.put (q : QN) (e : EI) : QN × Int × Int :=
  if q.down = true then (q, 0, 180)
  else if ¬ (e.id = 0 ∧ e.sent = false ∧ (q.asNew e).right = true) then (q, 0, 191)
  else if q.s.knows e.key = true then (q, 0, 192)
  else if 60 ≤ q.s.K.length ∨ q.sz < lenR q.s.snap + (14 + (q.asNew e).ri.d.size) + (q.s.owed + 28) + 1 then (q, 0, 194)
  else if (q.log (q.asNew e).ri).2 = 0 then ((q.log (q.asNew e).ri).1, q.s.next, 0) else ((q.log (q.asNew e).ri).1, 0, (q.log (q.asNew e).ri).2)
/-- What became of an entry. -/
def QN.became (q : QN) (op id : Int) : QN × Int :=
  if q.down = true then (q, 180) else match q.s.place id with
    | none => (q, 193)
    | some i => if op = 2 ∧ (q.s.L.getD i EI.nil).sent = true then (q, 0) else q.log ⟨op, id, ByteArray.empty⟩

/-- An area has room for what may still be asked; numbers rise. -/
structure Rm (k : Nat) (s : SN) : Prop where
  need : s.need ≤ szN k
  rise : (s.K.map KI.id).Pairwise (· < ·)
theorem owed_mem {s : SN} {i : Nat} (hi : i < s.L.length) : 14 ≤ s.owed := by
  unfold SN.owed
  rw [at_split s.L hi]
  simp only [List.map_append, List.map_cons, List.sum_append, List.sum_cons]
  have : 14 ≤ (s.L[i]).cost := by unfold EI.cost; split <;> omega
  omega
theorem tell_K {s : SN} {r : RI} (h1 : r.op ≠ 1) (h5 : r.op ≠ 5) : (s.tell r).K = s.K := by
  unfold SN.tell
  rw [if_neg h1, if_neg h5]
  split
  · rfl
  · split
    · rfl
    · split <;> rfl
theorem Rm.tell {k : Nat} {s : SN} (h : Rm k s) (ho : s.Ok) {op id : Int} (hop : op = 2 ∨ op = 3 ∨ op = 4) {i : Nat} (hp : s.place id = some i) : Rm k (s.tell ⟨op, id, ByteArray.empty⟩) := by
  refine ⟨?_, by rw [tell_K (by show op ≠ 1; omega) (by show op ≠ 5; omega)]; exact h.rise⟩
  rcases hop with rfl | hop
  · exact Nat.le_trans (need_sent ho hp) h.need
  · have := need_end (r := ⟨op, id, ByteArray.empty⟩) ho hop hp
    have := h.need
    omega
theorem place_num {s : SN} (ho : s.Ok) {id : Int} {i : Nat} (hp : s.place id = some i) : okNum id = true := by
  obtain ⟨hi, rfl, -⟩ := placeL_some hp
  exact (EI.right_iff.1 (ho.ents _ (List.getElem_mem hi))).2.1
theorem end_law {q : QN} (h : QI q) (hr : Rm q.d.L.length q.s) {op id : Int} (hop : op = 2 ∨ op = 3 ∨ op = 4) {i : Nat} (hp : q.s.place id = some i) :
    Went q (q.s.tell ⟨op, id, ByteArray.empty⟩) (q.log ⟨op, id, ByteArray.empty⟩) ∧ (q.log ⟨op, id, ByteArray.empty⟩).1.d.n ≤ q.d.n + (2 * q.d.L.length + 2) := by
  refine log_law h (rightV_iff.2 ⟨(by omega : 1 ≤ op), (by omega : op ≤ 9), place_num h.ok hp, (by decide : ByteArray.empty.size ≤ 2000)⟩) ?_
  obtain ⟨hi, -, -⟩ := placeL_some hp
  have h1 := owed_mem hi
  have h2 := hr.need
  unfold SN.need at h2
  show lenR q.s.snap + (14 + ByteArray.empty.size) + 1 ≤ szN q.d.L.length
  rw [empty_size]
  omega
theorem DS.flag {d : DN} {s : SN} (h : DS d s) : ∃ l, DT d (flagN d) l ∧ SN.nil.tells (l.map RecN.i) = s := by
  obtain ⟨o, l, h1, h2⟩ := h
  obtain rfl : flagN d = o := h1.flag
  exact ⟨l, h1, h2⟩
theorem open_law {d : DN} {s : SN} (h : DS d s) (ho : s.Ok) (hd : d.down = false) : QI (openN d) ∧ (openN d).s = s := by
  obtain ⟨l, h1, h2⟩ := h.flag
  have hs := h1.tell.scan
  have e : (openN d).s = s := by unfold openN; dsimp only; rw [hs]; exact h2
  refine ⟨⟨rfl, hd, ⟨l, h1, ?_, ?_⟩, by rw [e]; exact ho⟩, e⟩
  · unfold openN; dsimp only; rw [hs]
  · rw [e]; exact h2
theorem lost_split {L : List EI} {e : EI} {l : List EI} (h : lostL L = e :: l) : ∃ L1 L2, L = L1 ++ e :: L2 ∧ leftL (L1 ++ L2) = leftL L ∧ lostL (L1 ++ L2) = l := by
  induction L with
  | nil => cases h
  | cons x L ih =>
    unfold lostL at h
    rw [List.filter_cons] at h
    by_cases hx : x.lost = true
    · rw [if_pos hx] at h
      injection h with h1 h2
      subst h1
      refine ⟨[], L, rfl, ?_, h2⟩
      unfold leftL
      rw [List.nil_append, List.filter_cons, if_neg (by rw [hx]; decide)]
    · rw [if_neg hx] at h
      obtain ⟨L1, L2, h1, h2, h3⟩ := ih h
      refine ⟨x :: L1, L2, by rw [h1]; rfl, ?_, ?_⟩
      · rw [List.cons_append]
        unfold leftL at h2 ⊢
        rw [List.filter_cons, List.filter_cons, h2]
      · rw [List.cons_append]
        unfold lostL at h3 ⊢
        rw [List.filter_cons, if_neg hx, h3]
theorem mid_tell {s : SN} (ho : s.Ok) {L1 L2 : List EI} {e : EI} (h : s.L = L1 ++ e :: L2) {op : Int} (hop : op = 3 ∨ op = 4) : s.place e.id = some L1.length ∧ s.tell ⟨op, e.id, ByteArray.empty⟩ = ⟨L1 ++ L2, s.K⟩ := by
  have hi : L1.length < s.L.length := by rw [h]; simp
  have hg : s.L[L1.length] = e := by simp only [h]; rw [List.getElem_append_right (Nat.le_refl _)]; simp
  have hp := ho.place_at hi
  rw [hg] at hp
  refine ⟨hp, ?_⟩
  rw [tell_end hop hp, h]
  congr 1
  rw [List.take_left' rfl, List.drop_append, List.drop_eq_nil_of_le (by omega), List.nil_append, show L1.length + 1 - L1.length = 1 by omega]
  rfl
/-- What a power loss leaves of a beginning queue, or of none. -/
theorem drops_law (l : List EI) : ∀ q : QN, QI q → Rm q.d.L.length q.s → lostL q.s.L = l →
    (q.drops l).1.d.L.length = q.d.L.length ∧ (q.drops l).1.d.n ≤ q.d.n + l.length * (2 * q.d.L.length + 2) ∧
    (((q.drops l).2 = 0 ∧ QI (q.drops l).1 ∧ (q.drops l).1.s = ⟨leftL q.s.L, q.s.K⟩ ∧ Rm q.d.L.length (q.drops l).1.s ∧ (q.d.left = 0 → (q.drops l).1.d.left = 0)) ∨
     ((q.drops l).2 = 180 ∧ (q.drops l).1.d.down = true ∧ q.d.left ≠ 0 ∧ ∃ s', DS (q.drops l).1.d s' ∧ s'.Ok ∧ Rm q.d.L.length s' ∧ s'.K = q.s.K ∧ leftL s'.L = leftL q.s.L)) := by
  induction l with
  | nil =>
    intro q h hr hl
    have hleft : leftL q.s.L = q.s.L := by
      unfold leftL
      rw [List.filter_eq_self]
      intro e he
      unfold lostL at hl
      rw [List.filter_eq_nil_iff] at hl
      simpa using hl e he
    refine ⟨rfl, by simp [QN.drops], .inl ⟨rfl, h, ?_, hr, fun e => e⟩⟩
    rw [hleft]
    rfl
  | cons e l ih =>
    intro q h hr hl
    obtain ⟨L1, L2, h1, h2, h3⟩ := lost_split hl
    obtain ⟨hp, ht⟩ := mid_tell h.ok h1 (op := 4) (.inr rfl)
    obtain ⟨⟨w1, w2⟩, w3⟩ := end_law h hr (op := 4) (.inr (.inr rfl)) hp
    have hrt := hr.tell h.ok (op := 4) (.inr (.inr rfl)) hp
    have hot := h.ok.tell (r := ⟨4, e.id, ByteArray.empty⟩) (place_num h.ok hp)
    rw [ht] at w2 hrt hot
    rw [QN.drops]
    have hlen : (e :: l).length * (2 * q.d.L.length + 2) = l.length * (2 * q.d.L.length + 2) + (2 * q.d.L.length + 2) := by rw [List.length_cons, Nat.succ_mul]
    rcases w2 with ⟨b1, b2, b3, b4⟩ | ⟨b1, b2, b3, b4, b5, b6⟩
    · rw [if_pos b1]
      have hr2 : Rm (q.log ⟨4, e.id, ByteArray.empty⟩).1.d.L.length (q.log ⟨4, e.id, ByteArray.empty⟩).1.s := by rw [w1, b3]; exact hrt
      have hi := ih _ b2 hr2 (by rw [b3]; exact h3)
      rw [w1, b3] at hi
      obtain ⟨i1, i2, i3⟩ := hi
      refine ⟨i1, by omega, ?_⟩
      dsimp only at i3
      rw [h2] at i3
      rcases i3 with ⟨c1, c2, c3, c4, c5⟩ | ⟨c1, c2, c3, c4⟩
      · exact .inl ⟨c1, c2, c3, c4, fun e => c5 (b4 e)⟩
      · exact .inr ⟨c1, c2, fun e => c3 (b4 e), c4⟩
    · rw [if_neg (by rw [b1]; decide)]
      refine ⟨w1, by omega, .inr ⟨b1, b3, b4, ?_⟩⟩
      rcases b6 with b6 | b6
      · exact ⟨q.s, b6, h.ok, hr, rfl, rfl⟩
      · exact ⟨_, b6, hot, hrt, rfl, h2⟩

/-- A disk that tells a state with room. -/
structure DG (d : DN) (s : SN) : Prop where
  ds : DS d s
  ok : s.Ok
  rm : Rm d.L.length s
  nine : 9 ≤ d.L.length
/-- A queue that is up, with room. -/
structure QG (q : QN) : Prop where
  qi : QI q
  rm : Rm q.d.L.length q.s
  nine : 9 ≤ q.d.L.length
theorem QG.dg {q : QN} (h : QG q) : DG q.d q.s := ⟨h.qi.ds, h.qi.ok, h.rm, h.nine⟩
/-- A queue begins on a disk with room. -/
theorem new_law {d : DN} {s : SN} (h : DG d s) (hd : d.down = false) :
    (newN d).1.L.length = d.L.length ∧ (newN d).1.n ≤ d.n + 60 * (2 * d.L.length + 2) ∧
    ((∃ q, (newN d).2.1 = some q ∧ (newN d).1 = q.d ∧ (newN d).2.2 = (lostL s.L, 0) ∧ QG q ∧ q.s = ⟨leftL s.L, s.K⟩ ∧ (d.left = 0 → q.d.left = 0)) ∨
     ((newN d).2.1 = none ∧ (newN d).2.2 = ([], 180) ∧ (newN d).1.down = true ∧ d.left ≠ 0 ∧ ∃ s', DG (newN d).1 s' ∧ s'.K = s.K ∧ leftL s'.L = leftL s.L)) := by
  obtain ⟨h1, h2⟩ := open_law h.ds h.ok hd
  have hop : (openN d).d = d := rfl
  have hl := drops_law _ (openN d) h1 (by rw [h2, hop]; exact h.rm) rfl
  have h60 : (lostL (openN d).s.L).length ≤ 60 := by
    rw [h2]
    exact Nat.le_trans (List.length_filter_le _ _) h.ok.len
  unfold newN
  rw [if_neg (by rw [hd]; decide), if_neg (by have := h.nine; omega)]
  rw [hop, h2] at hl
  rw [h2] at h60 ⊢
  obtain ⟨i1, i2, i3⟩ := hl
  have hm : (lostL s.L).length * (2 * d.L.length + 2) ≤ 60 * (2 * d.L.length + 2) := Nat.mul_le_mul_right _ h60
  rcases i3 with ⟨c1, c2, c3, c4, c5⟩ | ⟨c1, c2, c3, s', c4, c5, c6, c7, c8⟩
  · rw [if_pos c1]
    exact ⟨i1, by dsimp only; omega, .inl ⟨_, rfl, rfl, rfl, ⟨c2, by rw [i1]; exact c4, by rw [i1]; exact h.nine⟩, c3, c5⟩⟩
  · rw [if_neg (by rw [c1]; decide)]
    exact ⟨i1, by dsimp only; omega, .inr ⟨rfl, by rw [c1], c2, c3, s', ⟨c4, c5, by rw [i1]; exact c6, by rw [i1]; exact h.nine⟩, c7, c8⟩⟩

end Go.Proofs.YtmebjdbkngehiaaGreatDoor

namespace Go.Proofs.YtmebjdbkngehiaaGreatDoor

/-- An entry with a number. -/
def EI.num (e : EI) (n : Int) : EI := { e with id := n }
/-- What a call makes of a state, on a disk whose power stays: the state, the number, what is told. -/
def SN.put (k : Nat) (s : SN) (e : EI) : SN × Int × Int :=
  if ¬ (e.id = 0 ∧ e.sent = false ∧ (e.num s.next).right = true) then (s, 0, 191)
  else if s.knows e.key = true then (s, 0, 192)
  else if 60 ≤ s.K.length ∨ szN k < lenR s.snap + (14 + (e.num s.next).ri.d.size) + (s.owed + 28) + 1 then (s, 0, 194)
  else (⟨s.L ++ [e.num s.next], s.K ++ [(e.num s.next).k]⟩, s.next, 0)
def SN.became (s : SN) (op id : Int) : SN × Int := match s.place id with
  | none => (s, 193)
  | some i => if op = 2 ∧ (s.L.getD i EI.nil).sent = true then (s, 0) else (s.tell ⟨op, id, ByteArray.empty⟩, 0)

theorem foldl_max (l : List KI) : ∀ n : Int, n ≤ l.foldl (fun n k => max n k.id) n ∧ ∀ k ∈ l, k.id ≤ l.foldl (fun n k => max n k.id) n := by
  induction l with
  | nil => intro n; exact ⟨Int.le_refl _, by simp⟩
  | cons x l ih =>
    intro n
    obtain ⟨h1, h2⟩ := ih (max n x.id)
    refine ⟨by rw [List.foldl_cons]; omega, fun k hk => ?_⟩
    rw [List.foldl_cons]
    rcases List.mem_cons.1 hk with rfl | hk
    · omega
    · exact h2 k hk
theorem next_gt {s : SN} {k : KI} (h : k ∈ s.K) : k.id < s.next := by
  have := (foldl_max s.K 0).2 k h
  unfold SN.next
  omega
theorem knows_iff {s : SN} {t : ByteArray} : s.knows t = true ↔ ∃ k ∈ s.K, k.text = t := by
  simp [SN.knows]
theorem next_free {s : SN} {e : EI} (hk : ¬ s.knows e.key = true) (hl : s.K.length < 60) : s.free (e.num s.next).id (e.num s.next).key = true := by
  rw [SN.free_iff]
  refine ⟨fun k hk2 => ?_, fun k hk2 he => hk (knows_iff.2 ⟨k, hk2, he⟩), hl⟩
  have := next_gt hk2
  show k.id ≠ s.next
  omega
/-- What a call leaves of a queue with room whose power may go. -/
def Did (q : QN) (s' : SN) (n e : Int) (p : QN × Int × Int) : Prop :=
  p.1.d.L.length = q.d.L.length ∧ p.1.d.n ≤ q.d.n + (2 * q.d.L.length + 2) ∧
  ((p.2 = (n, e) ∧ QG p.1 ∧ p.1.s = s' ∧ (q.d.left = 0 → p.1.d.left = 0)) ∨
   (p.2 = (0, 180) ∧ p.1.down = true ∧ p.1.d.down = true ∧ q.d.left ≠ 0 ∧ p.1.s = q.s ∧ (DG p.1.d q.s ∨ DG p.1.d s')))
theorem did_same {q : QN} (h : QG q) (n e : Int) : Did q q.s n e (q, n, e) := ⟨rfl, by dsimp only; omega, .inl ⟨rfl, h, rfl, fun e => e⟩⟩
theorem put_law {q : QN} (h : QG q) (e : EI) : Did q (SN.put q.d.L.length q.s e).1 (SN.put q.d.L.length q.s e).2.1 (SN.put q.d.L.length q.s e).2.2 (q.put e) := by
  have hu : ¬ q.down = true := by rw [h.qi.up]; decide
  by_cases c1 : e.id = 0 ∧ e.sent = false ∧ (e.num q.s.next).right = true
  · by_cases c2 : q.s.knows e.key = true
    · have e1 : SN.put q.d.L.length q.s e = (q.s, 0, 192) := by unfold SN.put; rw [if_neg (fun f => f c1), if_pos c2]
      have e2 : q.put e = (q, 0, 192) := by unfold QN.put; rw [if_neg hu, if_neg (fun f => f c1), if_pos c2]
      rw [e1, e2]; exact did_same h _ _
    · by_cases c3 : 60 ≤ q.s.K.length ∨ q.sz < lenR q.s.snap + (14 + (e.num q.s.next).ri.d.size) + (q.s.owed + 28) + 1
      · have e1 : SN.put q.d.L.length q.s e = (q.s, 0, 194) := by unfold SN.put; rw [if_neg (fun f => f c1), if_neg c2]; exact if_pos c3
        have e2 : q.put e = (q, 0, 194) := by unfold QN.put; rw [if_neg hu, if_neg (fun f => f c1), if_neg c2]; exact if_pos c3
        rw [e1, e2]; exact did_same h _ _
      · have e1 : SN.put q.d.L.length q.s e = (⟨q.s.L ++ [e.num q.s.next], q.s.K ++ [(e.num q.s.next).k]⟩, q.s.next, 0) := by unfold SN.put; rw [if_neg (fun f => f c1), if_neg c2]; exact if_neg c3
        have e2 : q.put e = if (q.log (e.num q.s.next).ri).2 = 0 then ((q.log (e.num q.s.next).ri).1, q.s.next, 0) else ((q.log (e.num q.s.next).ri).1, 0, (q.log (e.num q.s.next).ri).2) := by unfold QN.put; rw [if_neg hu, if_neg (fun f => f c1), if_neg c2]; exact if_neg c3
        rw [e1, e2]
        obtain ⟨c4, c5⟩ := not_or.1 c3
        obtain ⟨-, hs, hr⟩ := c1
        have hfree := next_free c2 (by omega)
        have ht := put_tell (x := e.num q.s.next) hr hs hfree
        have hneed := put_need (x := e.num q.s.next) h.qi.ok hs hfree
        have hok := h.qi.ok.tell (r := (e.num q.s.next).ri) (EI.right_iff.1 hr).2.1
        obtain ⟨⟨w1, w2⟩, w3⟩ := log_law h.qi (rec_ok' hr) (by unfold QN.sz at c5 ⊢; omega)
        rw [ht] at w2 hok
        have hrm : Rm q.d.L.length ⟨q.s.L ++ [e.num q.s.next], q.s.K ++ [(e.num q.s.next).k]⟩ := by
          refine ⟨by rw [hneed]; unfold QN.sz at c5; omega, ?_⟩
          rw [List.map_append, List.pairwise_append]
          refine ⟨h.rm.rise, by simp, fun a ha b hb => ?_⟩
          obtain ⟨k, hk, rfl⟩ := List.mem_map.1 ha
          rw [List.map_singleton, List.mem_singleton] at hb
          rw [hb]
          exact next_gt hk
        rcases w2 with ⟨b1, b2, b3, b4⟩ | ⟨b1, b2, b3, b4, b5, b6⟩
        · rw [if_pos b1]
          exact ⟨w1, w3, .inl ⟨rfl, ⟨b2, by rw [w1, b3]; exact hrm, by rw [w1]; exact h.nine⟩, b3, b4⟩⟩
        · rw [if_neg (by rw [b1]; decide)]
          refine ⟨w1, w3, .inr ⟨by rw [b1], b2, b3, b4, b5, ?_⟩⟩
          rcases b6 with b6 | b6
          · exact .inl ⟨b6, h.qi.ok, by rw [w1]; exact h.rm, by rw [w1]; exact h.nine⟩
          · exact .inr ⟨b6, hok, by rw [w1]; exact hrm, by rw [w1]; exact h.nine⟩
  · have e1 : SN.put q.d.L.length q.s e = (q.s, 0, 191) := by unfold SN.put; rw [if_pos c1]
    have e2 : q.put e = (q, 0, 191) := by unfold QN.put; rw [if_neg hu]; exact if_pos c1
    rw [e1, e2]; exact did_same h _ _
theorem became_law {q : QN} (h : QG q) {op : Int} (hop : op = 2 ∨ op = 3 ∨ op = 4) (id : Int) : Did q (q.s.became op id).1 0 (q.s.became op id).2 ((q.became op id).1, 0, (q.became op id).2) := by
  have hu : ¬ q.down = true := by rw [h.qi.up]; decide
  cases hp : q.s.place id with
  | none =>
    have e1 : q.s.became op id = (q.s, 193) := by unfold SN.became; rw [hp]
    have e2 : q.became op id = (q, 193) := by unfold QN.became; rw [if_neg hu, hp]
    rw [e1, e2]; exact did_same h _ _
  | some i =>
    by_cases c : op = 2 ∧ (q.s.L.getD i EI.nil).sent = true
    · have e1 : q.s.became op id = (q.s, 0) := by unfold SN.became; rw [hp]; exact if_pos c
      have e2 : q.became op id = (q, 0) := by unfold QN.became; rw [if_neg hu, hp]; exact if_pos c
      rw [e1, e2]; exact did_same h _ _
    · have e1 : q.s.became op id = (q.s.tell ⟨op, id, ByteArray.empty⟩, 0) := by unfold SN.became; rw [hp]; exact if_neg c
      have e2 : q.became op id = q.log ⟨op, id, ByteArray.empty⟩ := by unfold QN.became; rw [if_neg hu, hp]; exact if_neg c
      rw [e1, e2]
      obtain ⟨⟨w1, w2⟩, w3⟩ := end_law h.qi h.rm hop hp
      have hrm := h.rm.tell h.qi.ok hop hp
      have hok := h.qi.ok.tell (r := ⟨op, id, ByteArray.empty⟩) (place_num h.qi.ok hp)
      rcases w2 with ⟨b1, b2, b3, b4⟩ | ⟨b1, b2, b3, b4, b5, b6⟩
      · exact ⟨w1, w3, .inl ⟨by rw [b1], ⟨b2, by rw [w1, b3]; exact hrm, by rw [w1]; exact h.nine⟩, b3, b4⟩⟩
      · refine ⟨w1, w3, .inr ⟨by rw [b1], b2, b3, b4, b5, ?_⟩⟩
        rcases b6 with b6 | b6
        · exact .inl ⟨b6, h.qi.ok, by rw [w1]; exact h.rm, by rw [w1]; exact h.nine⟩
        · exact .inr ⟨b6, hok, by rw [w1]; exact hrm, by rw [w1]; exact h.nine⟩

/-- A call: its kind, two numbers, an entry. -/
structure QO where
  kind : Int
  a : Int
  b : Int
  e : EI
/-- A call of a queue (kinds 0 to 3). -/
def QN.call (q : QN) (x : QO) : QN × Int × Int :=
  if x.kind = 0 then q.put x.e else ((q.became (x.kind + 1) x.a).1, 0, (q.became (x.kind + 1) x.a).2)
def SN.call (k : Nat) (s : SN) (x : QO) : SN × Int × Int :=
  if x.kind = 0 then s.put k x.e else ((s.became (x.kind + 1) x.a).1, 0, (s.became (x.kind + 1) x.a).2)
theorem call_law {q : QN} (h : QG q) {x : QO} (hx : 0 ≤ x.kind ∧ x.kind ≤ 3) : Did q (SN.call q.d.L.length q.s x).1 (SN.call q.d.L.length q.s x).2.1 (SN.call q.d.L.length q.s x).2.2 (q.call x) := by
  unfold QN.call SN.call
  by_cases c : x.kind = 0
  · rw [if_pos c, if_pos c]; exact put_law h x.e
  · rw [if_neg c, if_neg c]; exact became_law h (by omega) x.a
/-- A queue that is down does nothing. -/
theorem call_down {q : QN} (h : q.down = true) (x : QO) : q.call x = (q, 0, 180) := by
  unfold QN.call QN.put QN.became
  rw [if_pos h, if_pos h]
  split <;> rfl

/-- A disk, and a queue on it, if there is one. -/
structure KN where
  d : DN
  q : Option QN
/-- What a call answers: a number, what was lost, what is told. -/
structure AN where
  n : Int
  lost : List EI
  err : Int
def KN.new (d : DN) : KN × AN := (⟨(newN d).1, (newN d).2.1⟩, ⟨0, (newN d).2.2.1, (newN d).2.2.2⟩)
/-- The disk that a queue stands on, and the queue. -/
def KN.disk (k : KN) : DN := match k.q with
  | none => k.d
  | some q => q.d
def KN.act (k : KN) (x : QO) : KN × AN :=
  if x.kind < 0 ∨ 6 < x.kind then (k, ⟨0, [], 0⟩)
  else if x.kind ≤ 3 then match k.q with
    | none => (k, ⟨0, [], 1⟩)
    | some q => (⟨(q.call x).1.d, some (q.call x).1⟩, ⟨(q.call x).2.1, [], (q.call x).2.2⟩)
  else if x.kind = 4 then (⟨(k.d.arm x.a x.b).1, k.q.map fun q => { q with d := (k.d.arm x.a x.b).1 }⟩, ⟨0, [], (k.d.arm x.a x.b).2⟩)
  else if x.kind = 5 then KN.new k.d.restart
  else KN.new (k.d.restart.arm x.a x.b).1
/-- A desk on a disk that only queues have written to. -/
structure KG (m : Nat) (k : KN) : Prop where
  len : k.d.L.length = m
  nine : 9 ≤ m
  on : ∀ q, k.q = some q → q.d = k.d
  good : (∃ q, k.q = some q ∧ QG q) ∨ (∃ q, k.q = some q ∧ q.down = true ∧ k.d.down = true ∧ ∃ s, DG k.d s) ∨ (k.q = none ∧ ∃ s, DG k.d s)
theorem dg_restart {d : DN} {s : SN} (h : DG d s) : DG d.restart s ∧ d.restart.down = false ∧ d.restart.left = 0 := by
  obtain ⟨⟨o, l, h1, h2⟩, h3, h4, h5⟩ := h
  have hf := (DN.restart_fit h1.fit).1
  exact ⟨⟨⟨o, l, ⟨hf, h1.nine, h1.flag, h1.tell⟩, h2⟩, h3, h4, h5⟩, rfl, rfl⟩
theorem dg_arm {d : DN} {s : SN} (h : DG d s) (a b : Int) : DG (d.arm a b).1 s ∧ (d.arm a b).1.down = d.down ∧ (d.arm a b).1.L = d.L := by
  obtain ⟨⟨o, l, h1, h2⟩, h3, h4, h5⟩ := h
  have hf := (DN.arm_fit h1.fit a b).1
  have hL : (d.arm a b).1.L = d.L := by unfold DN.arm; split <;> rfl
  have hd : (d.arm a b).1.down = d.down := by unfold DN.arm; split <;> rfl
  refine ⟨⟨⟨o, l, ⟨hf, by rw [hL]; exact h1.nine, by rw [hL]; exact h1.flag, by rw [hL]; exact h1.tell⟩, h2⟩, h3, by rw [hL]; exact h4, by rw [hL]; exact h5⟩, hd, hL⟩
theorem qg_arm {q : QN} (h : QG q) (a b : Int) : QG { q with d := (q.d.arm a b).1 } := by
  obtain ⟨⟨h1, h2, ⟨l, h3, h4, h5⟩, h6⟩, h7, h8⟩ := h
  have hf := (DN.arm_fit h3.fit a b).1
  have hL : (q.d.arm a b).1.L = q.d.L := by unfold DN.arm; split <;> rfl
  have hd : (q.d.arm a b).1.down = q.d.down := by unfold DN.arm; split <;> rfl
  exact ⟨⟨h1, by dsimp only; rw [hd]; exact h2, ⟨l, ⟨hf, by dsimp only; rw [hL]; exact h3.nine, by dsimp only; rw [hL]; exact h3.flag, by dsimp only; rw [hL]; exact h3.tell⟩, h4, h5⟩, h6⟩, by dsimp only; rw [hL]; exact h7, by dsimp only; rw [hL]; exact h8⟩
theorem kg_new {m : Nat} {d : DN} {s : SN} (h : DG d s) (hl : d.L.length = m) (hm : 9 ≤ m) (hd : d.down = false) : KG m (KN.new d).1 := by
  obtain ⟨n1, -, n2⟩ := new_law h hd
  refine ⟨by show (newN d).1.L.length = m; rw [n1, hl], hm, ?_, ?_⟩
  · rcases n2 with ⟨q, q1, q2, -⟩ | ⟨q1, -⟩
    · intro q' hq'
      have : (newN d).2.1 = some q' := hq'
      rw [q1] at this
      injection this with this
      subst this
      exact q2.symm
    · intro q' hq'
      have : (newN d).2.1 = some q' := hq'
      rw [q1] at this
      cases this
  · rcases n2 with ⟨q, q1, q2, q3, q4, -⟩ | ⟨q1, q2, q3, q4, s', q5, -⟩
    · exact .inl ⟨q, q1, q4⟩
    · exact .inr (.inr ⟨q1, s', q5⟩)
theorem kg_dg {m : Nat} {k : KN} (h : KG m k) : ∃ s, DG k.d s := by
  rcases h.good with ⟨q, q1, q2⟩ | ⟨q, q1, q2, q3, s, q4⟩ | ⟨q1, s, q2⟩
  · have := h.on q q1
    exact ⟨q.s, by rw [← this]; exact q2.dg⟩
  · exact ⟨s, q4⟩
  · exact ⟨s, q2⟩
theorem kg_act {m : Nat} {k : KN} (h : KG m k) (x : QO) : KG m (k.act x).1 := by
  obtain ⟨s, hs⟩ := kg_dg h
  unfold KN.act
  split
  · exact h
  · split
    · cases hq : k.q with
      | none => exact h
      | some q =>
        have hd := h.on q hq
        rcases h.good with ⟨q', q1, q2⟩ | ⟨q', q1, q2, q3, s', q4⟩ | ⟨q1, -⟩
        · rw [hq] at q1
          injection q1 with q1
          subst q1
          obtain ⟨c1, c2, c3⟩ := call_law q2 (x := x) (by omega)
          refine ⟨by show (q.call x).1.d.L.length = m; rw [c1, hd, h.len], h.nine, fun q' hq' => by injection hq' with hq'; rw [← hq'], ?_⟩
          rcases c3 with ⟨e1, e2, e3, e4⟩ | ⟨e1, e2, e3, e4, e5, e6⟩
          · exact .inl ⟨_, rfl, e2⟩
          · refine .inr (.inl ⟨_, rfl, e2, e3, ?_⟩)
            rcases e6 with e6 | e6
            · exact ⟨_, e6⟩
            · exact ⟨_, e6⟩
        · rw [hq] at q1
          injection q1 with q1
          subst q1
          dsimp only
          rw [call_down q2]
          refine ⟨by show q.d.L.length = m; rw [hd, h.len], h.nine, fun q' hq' => by injection hq' with hq'; rw [← hq'], .inr (.inl ⟨q, rfl, q2, by show q.d.down = true; rw [hd]; exact q3, s', by show DG q.d s'; rw [hd]; exact q4⟩)⟩
        · rw [hq] at q1; cases q1
    · split
      · obtain ⟨a1, a2, a3⟩ := dg_arm hs x.a x.b
        refine ⟨by show (k.d.arm x.a x.b).1.L.length = m; rw [a3, h.len], h.nine, fun q' hq' => ?_, ?_⟩
        · obtain ⟨q, -, rfl⟩ := Option.map_eq_some_iff.1 hq'
          rfl
        · rcases h.good with ⟨q', q1, q2⟩ | ⟨q', q1, q2, q3, s', q4⟩ | ⟨q1, s', q2⟩
          · have hd := h.on q' q1
            refine .inl ⟨_, by show Option.map _ k.q = _; rw [q1]; rfl, ?_⟩
            have := qg_arm q2 x.a x.b
            rw [hd] at this
            exact this
          · refine .inr (.inl ⟨{ q' with d := (k.d.arm x.a x.b).1 }, by show Option.map _ k.q = _; rw [q1]; rfl, q2, by show (k.d.arm x.a x.b).1.down = true; rw [a2]; exact q3, s', (dg_arm q4 x.a x.b).1⟩)
          · exact .inr (.inr ⟨by show Option.map _ k.q = _; rw [q1]; rfl, s', (dg_arm q2 x.a x.b).1⟩)
      · split
        · obtain ⟨r1, r2, r3⟩ := dg_restart hs
          exact kg_new r1 (by show k.d.L.length = m; exact h.len) h.nine r2
        · obtain ⟨r1, r2, r3⟩ := dg_restart hs
          obtain ⟨a1, a2, a3⟩ := dg_arm r1 x.a x.b
          exact kg_new a1 (by rw [a3]; exact h.len) h.nine (by rw [a2]; exact r2)

end Go.Proofs.YtmebjdbkngehiaaGreatDoor

namespace Go.Proofs.YtmebjdbkngehiaaGreatDoor

def KN.acts (k : KN) (l : List QO) : KN := l.foldl (fun k x => (k.act x).1) k
/-- The desk of a new disk behind some calls. -/
def deskN (m : Nat) (l : List QO) : KN := (KN.new (DN.new m)).1.acts l
/-- A new queue on its disk, restarted. -/
def madeN (m : Nat) (l : List QO) : DN × Option QN × List EI × Int := newN (deskN m l).d.restart

theorem zero_head (m : Nat) : (List.replicate m (0 : UInt8)).headD 0 = 0 := by cases m <;> rfl
theorem new_dg {m : Nat} (h : 9 ≤ m) : DG (DN.new m) SN.nil := by
  have hlen : (DN.new m).L.length = m := by show (List.replicate m _).length = m; simp
  have hz := zeros_flat m
  obtain ⟨s1, s2⟩ := sz_lt h false
  have hsz : 256 ≤ szN m := by unfold szN; omega
  refine ⟨⟨false, [], ⟨DN.new_fit m, by rw [hlen]; exact h, ?_, ⟨by simp, by simp [layL], ?_⟩⟩, rfl⟩, SN.nil_ok, ⟨?_, by simp [SN.nil]⟩, by rw [hlen]; exact h⟩
  · rw [hz, zero_head]; rfl
  · rw [hlen, area_get, if_pos (by show 0 < _; omega), hz, List.getElem?_replicate, if_pos (by show beginN m false + 0 < _; omega)]
  · rw [hlen]
    show 0 + 1 + 0 ≤ _
    omega
theorem kg_acts {m : Nat} {k : KN} (h : KG m k) (l : List QO) : KG m (k.acts l) := by
  induction l generalizing k with
  | nil => exact h
  | cons x l ih => exact ih (kg_act h x)
theorem desk_kg {m : Nat} (h : 9 ≤ m) (l : List QO) : KG m (deskN m l) :=
  kg_acts (kg_new (new_dg h) (by show (List.replicate m _).length = m; simp) h rfl) l
theorem left_left (l : List EI) : leftL (leftL l) = leftL l := by unfold leftL; rw [List.filter_filter]; simp
/-- A queue that begins well: its disk's power stays, nothing more is lost. -/
structure Made (m : Nat) (q : QN) : Prop where
  qg : QG q
  len : q.d.L.length = m
  left : q.d.left = 0
  none : leftL q.s.L = q.s.L
theorem made_law {m : Nat} (h : 9 ≤ m) (l : List QO) : ∃ q, (madeN m l).2.1 = some q ∧ (madeN m l).1 = q.d ∧ (madeN m l).2.2.2 = 0 ∧ Made m q := by
  have hk := desk_kg h l
  obtain ⟨s, hs⟩ := kg_dg hk
  obtain ⟨r1, r2, r3⟩ := dg_restart hs
  obtain ⟨n1, -, n2⟩ := new_law r1 r2
  have hl : (deskN m l).d.restart.L.length = m := hk.len
  rcases n2 with ⟨q, q1, q2, q3, q4, q5, q6⟩ | ⟨q1, q2, q3, q4, -⟩
  · refine ⟨q, q1, q2, by rw [show (madeN m l).2.2.2 = (newN (deskN m l).d.restart).2.2.2 from rfl, q3], q4, ?_, q6 r3, by rw [q5]; exact left_left _⟩
    rw [← q2, n1, hl]
  · exact absurd r3 q4
/-- On a disk that is too small there is no queue. -/
theorem new_small {d : DN} (h : d.L.length < 9) (hd : d.down = false) : newN d = (d, none, [], 190) := by
  unfold newN
  rw [if_neg (by rw [hd]; decide), if_pos h]
structure KS (m : Nat) (k : KN) : Prop where
  len : k.d.L.length = m
  q : k.q = none
  down : k.d.down = false
theorem ks_act {m : Nat} (hm : m < 9) {k : KN} (h : KS m k) (x : QO) : KS m (k.act x).1 := by
  obtain ⟨h1, h2, h3⟩ := h
  unfold KN.act
  split
  · exact ⟨h1, h2, h3⟩
  · split
    · rw [h2]; exact ⟨h1, h2, h3⟩
    · split
      · refine ⟨?_, by show Option.map _ k.q = none; rw [h2]; rfl, ?_⟩
        · show (k.d.arm x.a x.b).1.L.length = m
          unfold DN.arm; split <;> exact h1
        · show (k.d.arm x.a x.b).1.down = false
          unfold DN.arm; split <;> exact h3
      · split
        · unfold KN.new
          rw [new_small (by show k.d.L.length < 9; omega) rfl]
          exact ⟨h1, rfl, rfl⟩
        · have hL : (k.d.restart.arm x.a x.b).1.L = k.d.L := by unfold DN.arm; split <;> rfl
          have hd : (k.d.restart.arm x.a x.b).1.down = false := by unfold DN.arm; split <;> rfl
          unfold KN.new
          rw [new_small (by rw [hL]; omega) hd]
          exact ⟨by rw [hL]; exact h1, rfl, hd⟩
theorem made_small {m : Nat} (h : m < 9) (l : List QO) : (madeN m l).2.1 = none ∧ (madeN m l).2.2.2 = 190 := by
  have h0 : KS m (KN.new (DN.new m)).1 := by
    unfold KN.new
    rw [new_small (by show (List.replicate m _).length < 9; simpa using h) rfl]
    exact ⟨by show (List.replicate m _).length = m; simp, rfl, rfl⟩
  have ha : ∀ (l : List QO) (k : KN), KS m k → KS m (k.acts l) := by
    intro l
    induction l with
    | nil => exact fun k h => h
    | cons x l ih => exact fun k hk => ih _ (ks_act h hk x)
  have hk := ha l _ h0
  unfold madeN
  rw [new_small (by show (deskN m l).d.L.length < 9; rw [show (deskN m l).d.L.length = m from hk.len]; exact h) rfl]
  exact ⟨rfl, rfl⟩

/-! What the laws over the program alone say. -/
theorem lost_none {l : List EI} (h : leftL l = l) : lostL l = [] := by
  unfold lostL
  rw [List.filter_eq_nil_iff]
  unfold leftL at h
  rw [List.filter_eq_self] at h
  intro e he hx
  have := h e he
  rw [hx] at this
  cases this
theorem lost_count (l : List EI) : (lostL l).length + (leftL l).length = l.length := by
  induction l with
  | nil => rfl
  | cons e l ih =>
    unfold lostL leftL at ih ⊢
    rw [List.filter_cons, List.filter_cons]
    cases e.lost with
    | true => simp only [if_pos, Bool.not_true, Bool.false_eq_true, if_false, List.length_cons]; omega
    | false => simp only [Bool.not_false, if_true, Bool.false_eq_true, if_false, List.length_cons]; omega
/-- A new queue on the disk of a queue that is up. -/
theorem again_law {q : QN} (h : QG q) (hl : q.d.left = 0) : ∃ r, (newN q.d).2.1 = some r ∧ (newN q.d).1 = r.d ∧ (newN q.d).2.2 = (lostL q.s.L, 0) ∧ QG r ∧ r.s = ⟨leftL q.s.L, q.s.K⟩ ∧ r.d.left = 0 ∧ r.d.L.length = q.d.L.length := by
  obtain ⟨n1, -, n2⟩ := new_law h.dg h.qi.dup
  rcases n2 with ⟨r, q1, q2, q3, q4, q5, q6⟩ | ⟨q1, q2, q3, q4, -⟩
  · exact ⟨r, q1, q2, q3, q4, q5, q6 hl, by rw [← q2, n1]⟩
  · exact absurd hl q4
/-- A call on a queue whose power stays. -/
theorem calm_law {q : QN} (h : QG q) (hl : q.d.left = 0) {x : QO} (hx : 0 ≤ x.kind ∧ x.kind ≤ 3) : (q.call x).2 = (SN.call q.d.L.length q.s x).2 ∧ QG (q.call x).1 ∧ (q.call x).1.s = (SN.call q.d.L.length q.s x).1 ∧ (q.call x).1.d.left = 0 ∧ (q.call x).1.d.L.length = q.d.L.length := by
  obtain ⟨c1, -, c2⟩ := call_law h hx
  rcases c2 with ⟨e1, e2, e3, e4⟩ | ⟨e1, e2, e3, e4, -⟩
  · exact ⟨by rw [e1], e2, e3, e4 hl, c1⟩
  · exact absurd hl e4

end Go.Proofs.YtmebjdbkngehiaaGreatDoor
