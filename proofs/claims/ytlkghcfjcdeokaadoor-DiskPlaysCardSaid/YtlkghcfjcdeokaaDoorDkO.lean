/-
  Slices of calls on a disk, in memory. No condition.
-/
import Derived.Test.YtlkghcfjcdeokaaDoorOwn
namespace Go.Proofs.YtlkghcfjcdeokaaDoor
open Go.RowKit

/-- A call as its four cells tell it. -/
structure OI where
  kind : Int
  a : Int
  b : Int
  s : ByteArray
def OI.cs (r : OI) : List Value := [.int .i64 r.kind, .int .i64 r.a, .int .i64 r.b, .string r.s]
def cellsO (l : List OI) : List Value := l.flatMap OI.cs
theorem cellsO_length (l : List OI) : (cellsO l).length = l.length * 4 := by
  induction l with
  | nil => rfl
  | cons r l ih => rw [show cellsO (r :: l) = r.cs ++ cellsO l by simp [cellsO], List.length_append, ih, List.length_cons]; show 4 + _ = _; omega
theorem cellsO_snoc (l : List OI) (r : OI) : cellsO (l ++ [r]) = cellsO l ++ r.cs := by simp [cellsO]
theorem cellsO_get (l : List OI) : ∀ (i : Nat) (h : i < l.length), (cellsO l)[i * 4]? = some (.int .i64 l[i].kind) ∧ (cellsO l)[i * 4 + 1]? = some (.int .i64 l[i].a) ∧ (cellsO l)[i * 4 + 2]? = some (.int .i64 l[i].b) ∧ (cellsO l)[i * 4 + 3]? = some (.string l[i].s) := by
  induction l with
  | nil => intro i h; simp at h
  | cons r l ih =>
    intro i h
    have e : cellsO (r :: l) = r.cs ++ cellsO l := by simp [cellsO]
    have hc : r.cs.length = 4 := rfl
    cases i with
    | zero => rw [e]; exact ⟨rfl, rfl, rfl, rfl⟩
    | succ i =>
      have := ih i (by simpa using h)
      rw [e, List.getElem?_append_right (by omega), List.getElem?_append_right (by omega), List.getElem?_append_right (by omega), List.getElem?_append_right (by omega), hc]
      rw [show (i + 1) * 4 - 4 = i * 4 by omega, show (i + 1) * 4 + 1 - 4 = i * 4 + 1 by omega, show (i + 1) * 4 + 2 - 4 = i * 4 + 2 by omega, show (i + 1) * 4 + 3 - 4 = i * 4 + 3 by omega]
      exact this
/-- A slice of calls reads so. -/
def RdO (w : World) (A : Option Addr) (xs : List OI) : Prop := 0 < xs.length → ∃ a, A = some a ∧ a.block < w.heap.size ∧ ∀ (i : Nat) (h : i < xs.length), w.cell? (a.add (i * 4)) = some (.int .i64 xs[i].kind) ∧ w.cell? ⟨(a.add (i * 4)).block, (a.add (i * 4)).off + 1, none⟩ = some (.int .i64 xs[i].a) ∧
  w.cell? ⟨(a.add (i * 4)).block, (a.add (i * 4)).off + 2, none⟩ = some (.int .i64 xs[i].b) ∧ w.cell? ⟨(a.add (i * 4)).block, (a.add (i * 4)).off + 3, none⟩ = some (.string xs[i].s)
theorem add_blk (a : Addr) (i : Nat) : (a.add i).block = a.block := by unfold Addr.add; split <;> rfl
theorem RdO.below {w w' : World} {A : Option Addr} {xs : List OI} (h : RdO w A xs) (hb : Below w.heap.size w w') : RdO w' A xs := fun hp => by
  obtain ⟨a, h1, h2, h3⟩ := h hp
  refine ⟨a, h1, Nat.lt_of_lt_of_le h2 hb.size, fun i hi => ?_⟩
  obtain ⟨g1, g2, g3, g4⟩ := h3 i hi
  have hl : (a.add (i * 4)).block < w.heap.size := by rw [add_blk]; exact h2
  exact ⟨(hb.cell hl).trans g1, (hb.cell (by exact hl)).trans g2, (hb.cell (by exact hl)).trans g3, (hb.cell (by exact hl)).trans g4⟩
/-- A row of the call's own, as a list of calls. -/
theorem rdO_own {w : World} {base n : Nat} {t : TypeId} {V : Value} {l : List OI} (h : w.ownsRow base t 4 V n (cellsO l)) : n = l.length ∧ ∃ A c, V = .slice A n c ∧ RdO w A l := by
  have hn : l.length = n := by have := h.1; rw [cellsO_length] at this; omega
  refine ⟨hn.symm, ?_⟩
  have h' := h
  obtain ⟨-, ⟨rfl, h0⟩ | ⟨g, cap, cur, rfl, -⟩⟩ := h'
  · subst h0
    exact ⟨none, 0, rfl, fun hp => by omega⟩
  · refine ⟨some ⟨g, 0, none⟩, cap, rfl, fun hp => ⟨⟨g, 0, none⟩, rfl, (h.lt g rfl).2, fun i hi => ?_⟩⟩
    obtain ⟨g1, g2, g3, g4⟩ := cellsO_get l i hi
    have k1 := h.cells rfl _ _ g1
    have k2 := h.cells rfl _ _ g2
    have k3 := h.cells rfl _ _ g3
    have k4 := h.cells rfl _ _ g4
    have ha : ∀ k : Nat, (⟨g, 0, none⟩ : Addr).add k = ⟨g, k, none⟩ := fun k => by unfold Addr.add; split <;> simp_all
    rw [ha] at k1 k2 k3 k4 ⊢
    exact ⟨k1, k2, k3, k4⟩

end Go.Proofs.YtlkghcfjcdeokaaDoor
