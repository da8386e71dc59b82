/-
  What all layers' walks use: how a call ends, memory that only grows, places of errors. No condition.
-/
import Derived.Test.YtlkghcfjcdeokaaDoorErr
import Derived.Deep.RegionHeld3
import Derived.Deep.LoopGhost
import Derived.BigQuiet
import Derived.Deep.QuietTactic
namespace Go.Proofs.YtlkghcfjcdeokaaDoor
open Go.RowKit

/-- The call hands back v, and what was there lies as it lay. -/
def Ret (v : Value) (w : World) (e : Ending) (w' : World) : Prop := e = .returned v ∧ Below w.heap.size w w'
/-- The call hands back v, and nothing turns. -/
def Pure (v : Value) (w : World) (e : Ending) (w' : World) : Prop := e = .returned v ∧ w = w'
theorem Pure.ret {v : Value} {w : World} {e : Ending} {w' : World} (h : Pure v w e w') : Ret v w e w' := by
  obtain ⟨h1, rfl⟩ := h; exact ⟨h1, Below.refl _ _⟩

theorem Plain.lt {w : World} {b : Addr} (h : Plain w b) : b.block < w.heap.size := by
  obtain ⟨c, t, h⟩ := h
  exact (Array.getElem?_eq_some_iff.1 h).1
theorem Plain.below {w w' : World} {b : Addr} (h : Plain w b) (hb : Below w.heap.size w w') : Plain w' b := by
  have hl := h.lt
  obtain ⟨c, t, h⟩ := h
  exact ⟨c, t, (hb.block b.block hl).trans h⟩
theorem cell_lt {w : World} {a : Addr} {v : Value} (h : w.cell? a = some v) : a.block < w.heap.size := World.block_lt_of_cell? w a h

theorem ext_trans {a b c : World} (h : Below a.heap.size a b) (k : Below b.heap.size b c) : Below a.heap.size a c := h.trans (k.mono h.size)
theorem ext_alloc {a b : World} (h : Below a.heap.size a b) (o : Obj) : Below a.heap.size a (b.alloc o) := h.alloc h.size o
theorem ext_new (a : World) (o : Obj) : Below a.heap.size a (a.alloc o) := (Below.refl _ a).alloc (Nat.le_refl _) o
theorem ext_refl (a : World) : Below a.heap.size a a := Below.refl _ a
theorem bool_cases (b : Bool) : b = false ∨ b = true := by cases b <;> simp

/-- An error, or none. -/
def errOf : Option Addr → Value
  | none => .nilIface
  | some a => ErrV a

/-- The first error whose condition does not hold; none, if there is none. -/
def firstErr : List (Bool × Addr) → Option Addr
  | [] => none
  | (b, v) :: r => if b then firstErr r else some v

theorem firstErr_drop (xs : List (Bool × Addr)) (k : Nat) (h : ∀ i, (hi : i < k) → (hx : i < xs.length) → xs[i].1 = true) : firstErr (xs.drop k) = firstErr xs := by
  induction k generalizing xs with
  | zero => simp
  | succ k ih =>
    cases xs with
    | nil => simp
    | cons x r =>
      have h0 := h 0 (by omega) (by simp)
      simp only [List.drop_succ_cons]
      rw [ih r (fun i hi hx => by have := h (i + 1) (by omega) (by simpa using hx); simpa using this)]
      obtain ⟨b, v⟩ := x
      simp at h0
      simp [firstErr, h0]

theorem firstErr_all (xs : List (Bool × Addr)) (h : ∀ i, (hi : i < xs.length) → xs[i].1 = true) : firstErr xs = none := by
  have := firstErr_drop xs xs.length (fun i _ hx => h i hx)
  rw [← this]; simp [firstErr]

theorem firstErr_at (xs : List (Bool × Addr)) (k : Nat) (hk : k < xs.length) (h : ∀ i, (hi : i < k) → (hx : i < xs.length) → xs[i].1 = true) (hf : xs[k].1 = false) : firstErr xs = some xs[k].2 := by
  rw [← firstErr_drop xs k h, List.drop_eq_getElem_cons hk]
  simp [firstErr, hf]

end Go.Proofs.YtlkghcfjcdeokaaDoor
