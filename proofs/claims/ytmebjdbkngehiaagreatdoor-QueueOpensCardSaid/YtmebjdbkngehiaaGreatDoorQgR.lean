/-
  A queue on a disk: how one begins, what its calls do, and what a power loss leaves of them, and more of the kind. Conditions: as the theorems' own hypotheses say.
-/
import Derived.Test.YtmebjdbkngehiaaGreatDoorQgQ
namespace Go.Proofs.YtmebjdbkngehiaaGreatDoor
def flagN (d : DN) : Bool := decide (d.L.flatten.headD 0 ≠ 0)
def openN (d : DN) : QN := ⟨d, SN.nil.tells ((scanOf (areaN d.L.flatten d.L.length (flagN d))).1.map RecN.i), flagN d, (scanOf (areaN d.L.flatten d.L.length (flagN d))).2, false⟩
def lostL (l : List EI) : List EI := l.filter EI.lost
def QN.drops : QN → List EI → QN × Int
 | q, [] => (q, 0)
 | q, e :: l => if (q.log ⟨4, e.id, ByteArray.empty⟩).2 = 0 then (q.log ⟨4, e.id, ByteArray.empty⟩).1.drops l else q.log ⟨4, e.id, ByteArray.empty⟩
def newN (d : DN) : DN × Option QN × List EI × Int :=
 if d.down = true then (d, none, [], 180) else if d.L.length < 9 then (d, none, [], 190)
 else if ((openN d).drops (lostL (openN d).s.L)).2 = 0 then (((openN d).drops (lostL (openN d).s.L)).1.d, some ((openN d).drops (lostL (openN d).s.L)).1, lostL (openN d).s.L, 0)
 else (((openN d).drops (lostL (openN d).s.L)).1.d, none, [], ((openN d).drops (lostL (openN d).s.L)).2)
def QN.asNew (q : QN) (e : EI) : EI := { e with id := q.s.next }
def QN.put (q : QN) (e : EI) : QN × Int × Int :=
 if q.down = true then (q, 0, 180)
 else if ¬ (e.id = 0 ∧ e.sent = false ∧ (q.asNew e).right = true) then (q, 0, 191)
 else if q.s.knows e.key = true then (q, 0, 192)
 else if 60 ≤ q.s.K.length ∨ q.sz < lenR q.s.snap + (14 + (q.asNew e).ri.d.size) + (q.s.owed + 28) + 1 then (q, 0, 194)
 else if (q.log (q.asNew e).ri).2 = 0 then ((q.log (q.asNew e).ri).1, q.s.next, 0) else ((q.log (q.asNew e).ri).1, 0, (q.log (q.asNew e).ri).2)
def QN.became (q : QN) (op id : Int) : QN × Int :=
 if q.down = true then (q, 180) else match q.s.place id with
  | none => (q, 193)
  | some i => if op = 2 ∧ (q.s.L.getD i EI.nil).sent = true then (q, 0) else q.log ⟨op, id, ByteArray.empty⟩
theorem place_num {s : SN} (ho : s.Ok) {id : Int} {i : Nat} (hp : s.place id = some i) : okNum id = true := by
 obtain ⟨hi, rfl, -⟩ := placeL_some hp
 exact (EI.right_iff.1 (ho.ents _ (List.getElem_mem hi))).2.1
theorem foldl_max (l : List KI) : ∀ n : Int, n ≤ l.foldl (fun n k => max n k.id) n ∧ ∀ k ∈ l, k.id ≤ l.foldl (fun n k => max n k.id) n := by
 induction l with
 | nil => intro n; exact ⟨Int.le_refl _, by simp⟩
 | cons x l ih =>
  intro n
  obtain ⟨h1, h2⟩ := ih (max n x.id)
  refine ⟨by rw [List.foldl_cons]; omega, fun k hk => ?_⟩
  rw [List.foldl_cons]
  rcases List.mem_cons.1 hk with rfl | hk
  ·omega
  ·exact h2 k hk
structure QO where
 kind : Int
 a : Int
 b : Int
 e : EI
def QN.call (q : QN) (x : QO) : QN × Int × Int :=
 if x.kind = 0 then q.put x.e else ((q.became (x.kind + 1) x.a).1, 0, (q.became (x.kind + 1) x.a).2)
structure KN where
 d : DN
 q : Option QN
structure AN where
 n : Int
 lost : List EI
 err : Int
def KN.new (d : DN) : KN × AN := (⟨(newN d).1, (newN d).2.1⟩, ⟨0, (newN d).2.2.1, (newN d).2.2.2⟩)
def KN.disk (k : KN) : DN := match k.q with
 | none => k.d
 | some q => q.d
def KN.act (k : KN) (x : QO) : KN × AN :=
 if x.kind < 0 ∨ 6 < x.kind then (k, ⟨0, [], 0⟩)
 else if x.kind ≤ 3 then match k.q with
  | none => (k, ⟨0, [], 1⟩)
  | some q => (⟨(q.call x).1.d, some (q.call x).1⟩, ⟨(q.call x).2.1, [], (q.call x).2.2⟩)
 else if x.kind = 4 then (⟨(k.d.arm x.a x.b).1, k.q.map fun q => { q with d := (k.d.arm x.a x.b).1 }⟩, ⟨0, [], (k.d.arm x.a x.b).2⟩)
 else if x.kind = 5 then KN.new k.d.restart
 else KN.new (k.d.restart.arm x.a x.b).1
/-! What the laws over the program alone say. -/
end Go.Proofs.YtmebjdbkngehiaaGreatDoor
