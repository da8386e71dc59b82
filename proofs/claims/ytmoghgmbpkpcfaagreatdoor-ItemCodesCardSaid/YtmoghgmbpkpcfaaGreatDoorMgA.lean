/-
  errors.Is over sentinels of errors.New's make (and nil): its contracts at this translation. Conditions: as the theorems' own hypotheses say. What all layers' walks use: how a call ends, memory that only grows, places of errors. No condition. A block known whole: what it gives a walk, and how it is kept. No condition. Rows of the call's own, kept where memory grows. No condition. append of a slice, nil or not, to a slice of the call's own: one law. Conditions: as the theorem's own hypotheses say. A scope out of which the run jumps to one label, once. No condition. For rows of any arguments: what the arguments read stays where memory only grows; five, six and seven arguments. No condition. What a row's listed variables give a walk when all of them are errors of errors.New's make: each variable's cell, and that they are different ones. Conditions: av the theorems' own hypotheses say. What a row's listed variable gives a walk when it is an array of structs of integers: each cell. Conditions: as the theorems' own hypotheses say.
-/
import Derived.WalkKit
import Derived.WalkSpells
import Derived.WalkLawsBesides
import Derived.Lib.Hide
import Derived.Test.YtmoghgmbpkpcfaaGreatDoorChecked
import Derived.LaidEql
import Derived.Stop.Asserts
import Derived.RowKitTokens
import Derived.Deep.RegionHeld3
import Derived.Deep.LoopGhost
import Derived.BigQuiet
import Derived.Deep.QuietTactic
import Derived.RangeFuncBox
import Derived.Laws.AppendOwn
import Derived.Laws.AppendOwnNone
import Derived.ScopeJumps
import Derived.WalkMore
import Derived.Carry
import Derived.ChangeShapes
import Derived.LaidLaws
import Derived.RowKit
import Derived.MakeChecks
import Derived.Stop.Joined
import Derived.OpenShut
import Derived.ChangeArms
import Derived.Deep.Fields
import Derived.LaidSub
namespace Go.Proofs.YtmoghgmbpkpcfaaGreatDoor
open Go.RowKit Go.Extern.Stop Go.Stop Go.Extern

/-- An error as errors.New makes it, at place a. -/
def ErrV (a : Addr) : Value := .iface 164 (.pointer (some a))

/-- What the model's entry for (rtype).Comparable runs. -/
def comparableOf : Array Value → Sem Value := Extern.ReflectliteType.method fun t => do Go.Extern.Rtype.noPackHeld "Comparable" t; pure (.bool (← typeInfo t).comparable)
theorem isTypeOf (v : Value) (w : World) : (Extern.ReflectliteType.typeOf #[.iface 164 v]).run Tryz.prog w = .ok (.iface 143 (.agg #[.pointer (some ⟨9, 164, none⟩)])) w := by kernel_rfl
theorem isComparable (w : World) : (comparableOf #[.agg #[.pointer (some ⟨9, 164, none⟩)]]).run Tryz.prog w = .ok (.bool true) w := by kernel_rfl
theorem isMethodComparable (v : Value) (w : World) : (Go.method 296 143 v "Comparable").run Tryz.prog w = .ok (110, v) w := by kernel_rfl
theorem isComp : (Tryz.prog.info? 164).map (·.comparable) = some true := by kernel_rfl
theorem isSize : (Tryz.prog.info? 184).map (·.size) = some 1 := by kernel_rfl
theorem noIsE (v : Value) (xT : TypeId) (w : World) : (Instr.typeAssert (.iface 164 v) xT 155 true).run Tryz.prog w = .ok (.tuple #[.nilIface, .bool false]) w := run_typeAssert_lacksB Tryz.underlying155 (by kernel_rfl) (by kernel_rfl) v xT w
theorem noUnwrapE (v : Value) (xT : TypeId) (w : World) : (Instr.typeAssert (.iface 164 v) xT 150 true).run Tryz.prog w = .ok (.tuple #[.nilIface, .bool false]) w := run_typeAssert_lacksB Tryz.underlying150 (by kernel_rfl) (by kernel_rfl) v xT w
theorem noUnwrapsE (v : Value) (xT : TypeId) (w : World) : (Instr.typeAssert (.iface 164 v) xT 152 true).run Tryz.prog w = .ok (.tuple #[.nilIface, .bool false]) w := run_typeAssert_lacksB Tryz.underlying152 (by kernel_rfl) (by kernel_rfl) v xT w

/-- errors.Is(x, x). -/
theorem is_same (a : Addr) (w : World) :
    Calls Tryz.prog 49 #[ErrV a, ErrV a] w fun e w' => e = .returned (.bool true) ∧ w = w' := by
  unfold ErrV
  obtain ⟨i, hi, hcmp⟩ := Option.map_eq_some_iff.1 isComp
  obtain ⟨j, hj, hjs⟩ := Option.map_eq_some_iff.1 isSize
  have h8 := @run_callFunc_extern Tryz.prog 66 _ Extern.ReflectliteType.typeOf Tryz.func66 (by kernel_rfl) (by kernel_rfl) (by kernel_rfl) (by kernel_rfl)
  have h32 := @run_callFunc_extern Tryz.prog 110 _ comparableOf Tryz.func110 (by kernel_rfl) (by kernel_rfl) (by kernel_rfl) (by kernel_rfl)
  have tT := isTypeOf
  have cT := isComparable
  have mR := isMethodComparable
  have heq := run_eql_iface_ptr_same (P := Tryz.prog) w a Tryz.underlying48 Tryz.underlying164 hi hcmp hj
  go_enter Tryz.func49, Tryz.ntmps49
  go_wp2
  refine wp_loop_rounds 1 ?_
  rw [rounds_succ]
  go_wp2
  go_ret
  exact ⟨rfl, rfl⟩

/-- errors.Is(nil, x). -/
theorem is_nil (b : Addr) (w : World) :
    Calls Tryz.prog 49 #[.nilIface, ErrV b] w fun e w' => e = .returned (.bool false) ∧ w = w' := by
  unfold ErrV
  have hn := run_eql_iface_nil_left (P := Tryz.prog) w 164 (.pointer (some b)) Tryz.underlying48
  go_enter Tryz.func49, Tryz.ntmps49
  go_wp2
  go_ret
  exact ⟨rfl, rfl⟩

/-- A place whose block holds cells without a mark. -/
def Plain (w : World) (b : Addr) : Prop := ∃ (c : Array Value) (t : TypeId), w.heap[b.block]? = some (.cells c t (0, 0))

/-- errors.Is(x, y), two different ones. -/
theorem is_other (a b : Addr) (w : World) (hne : a ≠ b) (ha : Plain w a) (hb : Plain w b) :
    Calls Tryz.prog 49 #[ErrV a, ErrV b] w fun e w' => e = .returned (.bool false) ∧ w = w' := by
  unfold ErrV
  obtain ⟨ca, ta, ha⟩ := ha
  obtain ⟨cb, tb, hb⟩ := hb
  obtain ⟨i, hi, hcmp⟩ := Option.map_eq_some_iff.1 isComp
  obtain ⟨j, hj, hjs⟩ := Option.map_eq_some_iff.1 isSize
  have h8 := @run_callFunc_extern Tryz.prog 66 _ Extern.ReflectliteType.typeOf Tryz.func66 (by kernel_rfl) (by kernel_rfl) (by kernel_rfl) (by kernel_rfl)
  have h32 := @run_callFunc_extern Tryz.prog 110 _ comparableOf Tryz.func110 (by kernel_rfl) (by kernel_rfl) (by kernel_rfl) (by kernel_rfl)
  have tT := isTypeOf
  have cT := isComparable
  have mR := isMethodComparable
  have nE := noIsE
  have uE := noUnwrapE
  have vE := noUnwrapsE
  have heq := run_eql_iface_ptr_other (P := Tryz.prog) (a := a) (b := b) w Tryz.underlying48 Tryz.underlying164 hi hcmp hj (by rw [hjs]; decide) hne ha hb
  clear ha hb
  go_enter Tryz.func49, Tryz.ntmps49
  go_wp2
  refine wp_loop_rounds 1 ?_
  rw [rounds_succ]
  go_wp2
  go_ret
  exact ⟨rfl, rfl⟩

end Go.Proofs.YtmoghgmbpkpcfaaGreatDoor

namespace Go.Proofs.YtmoghgmbpkpcfaaGreatDoor
open Go.RowKit

/-- The call hands back v, and what was there lies as it lay. -/
def Ret (v : Value) (w : World) (e : Ending) (w' : World) : Prop := e = .returned v ∧ Below w.heap.size w w'
/-- The call hands back v, and nothing turns. -/
def Pure (v : Value) (w : World) (e : Ending) (w' : World) : Prop := e = .returned v ∧ w = w'
theorem Pure.ret {v : Value} {w : World} {e : Ending} {w' : World} (h : Pure v w e w') : Ret v w e w' := by
  obtain ⟨h1, rfl⟩ := h; exact ⟨h1, Below.refl _ _⟩

theorem Plain.lt {w : World} {b : Addr} (h : Plain w b) : b.block < w.heap.size := by
  obtain ⟨c, t, h⟩ := h
  exact (Array.getElem?_eq_some_iff.1 h).1
theorem Plain.below {w w' : World} {b : Addr} (h : Plain w b) (hb : Below w.heap.size w w') : Plain w' b := by
  have hl := h.lt
  obtain ⟨c, t, h⟩ := h
  exact ⟨c, t, (hb.block b.block hl).trans h⟩
theorem cell_lt {w : World} {a : Addr} {v : Value} (h : w.cell? a = some v) : a.block < w.heap.size := World.block_lt_of_cell? w a h

theorem ext_trans {a b c : World} (h : Below a.heap.size a b) (k : Below b.heap.size b c) : Below a.heap.size a c := h.trans (k.mono h.size)
theorem ext_alloc {a b : World} (h : Below a.heap.size a b) (o : Obj) : Below a.heap.size a (b.alloc o) := h.alloc h.size o
theorem ext_new (a : World) (o : Obj) : Below a.heap.size a (a.alloc o) := (Below.refl _ a).alloc (Nat.le_refl _) o
theorem ext_refl (a : World) : Below a.heap.size a a := Below.refl _ a
theorem bool_cases (b : Bool) : b = false ∨ b = true := by cases b <;> simp

/-- An error, or none. -/
def errOf : Option Addr → Value
  | none => .nilIface
  | some a => ErrV a

/-- The first error whose condition does not hold; none, if there is none. -/
def firstErr : List (Bool × Addr) → Option Addr
  | [] => none
  | (b, v) :: r => if b then firstErr r else some v

theorem firstErr_drop (xs : List (Bool × Addr)) (k : Nat) (h : ∀ i, (hi : i < k) → (hx : i < xs.length) → xs[i].1 = true) : firstErr (xs.drop k) = firstErr xs := by
  induction k generalizing xs with
  | zero => simp
  | succ k ih =>
    cases xs with
    | nil => simp
    | cons x r =>
      have h0 := h 0 (by omega) (by simp)
      simp only [List.drop_succ_cons]
      rw [ih r (fun i hi hx => by have := h (i + 1) (by omega) (by simpa using hx); simpa using this)]
      obtain ⟨b, v⟩ := x
      simp at h0
      simp [firstErr, h0]

theorem firstErr_all (xs : List (Bool × Addr)) (h : ∀ i, (hi : i < xs.length) → xs[i].1 = true) : firstErr xs = none := by
  have := firstErr_drop xs xs.length (fun i _ hx => h i hx)
  rw [← this]; simp [firstErr]

theorem firstErr_at (xs : List (Bool × Addr)) (k : Nat) (hk : k < xs.length) (h : ∀ i, (hi : i < k) → (hx : i < xs.length) → xs[i].1 = true) (hf : xs[k].1 = false) : firstErr xs = some xs[k].2 := by
  rw [← firstErr_drop xs k h, List.drop_eq_getElem_cons hk]
  simp [firstErr, hf]

end Go.Proofs.YtmoghgmbpkpcfaaGreatDoor

namespace Go.Proofs.YtmoghgmbpkpcfaaGreatDoor
open Go.RowKit

/-- A block known whole. -/
def Blk (w : World) (g : Nat) (t : TypeId) (cs : Array Value) : Prop := w.heap[g]? = some (.cells cs t (0, 0))
theorem Blk.lt {w : World} {g : Nat} {t : TypeId} {cs : Array Value} (h : Blk w g t cs) : g < w.heap.size := by
  rcases Nat.lt_or_ge g w.heap.size with hlt | hge
  · exact hlt
  · unfold Blk at h; rw [Array.getElem?_eq_none hge] at h; cases h
theorem Blk.cell {w : World} {g : Nat} {t : TypeId} {cs : Array Value} (h : Blk w g t cs) (i : Nat) : w.cell? ⟨g, i, none⟩ = cs[i]? := cell_of_row w g i cs t (0, 0) h
theorem Blk.frozen {w : World} {g : Nat} {t : TypeId} {cs : Array Value} (h : Blk w g t cs) (i : Nat) : w.frozen? ⟨g, i, none⟩ = false := by
  unfold Blk at h
  simp [World.frozen?, h]
theorem Blk.new_ (w : World) (t : TypeId) (cs : Array Value) : Blk (w.alloc (.cells cs t)) w.heap.size t cs := World.alloc_heap_new w _
theorem Blk.at_ {w : World} {g : Nat} {t : TypeId} {cs : Array Value} (h : g = w.heap.size) : Blk (w.alloc (.cells cs t)) g t cs := by rw [h]; exact Blk.new_ w t cs
theorem Blk.alloc {w : World} {g : Nat} {t : TypeId} {cs : Array Value} (h : Blk w g t cs) (o : Obj) : Blk (w.alloc o) g t cs := (Below.heap_alloc w o g h.lt).trans h
theorem Blk.set_ {w : World} {g : Nat} {t : TypeId} {cs : Array Value} (h : Blk w g t cs) (i : Nat) (u : Value) : Blk (w.setCell ⟨g, i, none⟩ u) g t (cs.setIfInBounds i u) := by
  unfold Blk at h ⊢
  simp [World.setCell, Array.getElem?_modify, h]
theorem Blk.set_other {w : World} {g g' : Nat} {t : TypeId} {cs : Array Value} (h : Blk w g t cs) (hn : g ≠ g') (i : Nat) (u : Value) : Blk (w.setCell ⟨g', i, none⟩ u) g t cs := (Below.heap_setCell _ _ _ _ hn).trans h
theorem Blk.kept {w w' : World} {g : Nat} {t : TypeId} {cs : Array Value} (h : Blk w g t cs) (hb : w'.heap[g]? = w.heap[g]?) : Blk w' g t cs := hb.trans h
theorem Blk.below {w w' : World} {g : Nat} {t : TypeId} {cs : Array Value} (h : Blk w g t cs) (hb : Below w.heap.size w w') : Blk w' g t cs := (hb.block g h.lt).trans h
theorem Blk.boxed {w : World} {g : Nat} {t : TypeId} {v : Value} (h : Blk w g t #[v]) : Boxed w g t v := h
/-! The cells of a block of so many, and that they may be written. -/
theorem Blk.c1 {w : World} {g : Nat} {t : TypeId} {a0 : Value} (h : Blk w g t #[a0]) : w.cell? ⟨g, 0, none⟩ = some a0 ∧ w.frozen? ⟨g, 0, none⟩ = false := ⟨(h.cell 0).trans rfl, h.frozen 0⟩
theorem Blk.c2 {w : World} {g : Nat} {t : TypeId} {a0 a1 : Value} (h : Blk w g t #[a0, a1]) : w.cell? ⟨g, 0, none⟩ = some a0 ∧ w.cell? ⟨g, 1, none⟩ = some a1 ∧ w.frozen? ⟨g, 0, none⟩ = false ∧ w.frozen? ⟨g, 1, none⟩ = false := ⟨(h.cell 0).trans rfl, (h.cell 1).trans rfl, h.frozen 0, h.frozen 1⟩
theorem Blk.c3 {w : World} {g : Nat} {t : TypeId} {a0 a1 a2 : Value} (h : Blk w g t #[a0, a1, a2]) : w.cell? ⟨g, 0, none⟩ = some a0 ∧ w.cell? ⟨g, 1, none⟩ = some a1 ∧ w.cell? ⟨g, 2, none⟩ = some a2 ∧ w.frozen? ⟨g, 0, none⟩ = false ∧ w.frozen? ⟨g, 1, none⟩ = false ∧ w.frozen? ⟨g, 2, none⟩ = false := ⟨(h.cell 0).trans rfl, (h.cell 1).trans rfl, (h.cell 2).trans rfl, h.frozen 0, h.frozen 1, h.frozen 2⟩
theorem Blk.c4 {w : World} {g : Nat} {t : TypeId} {a0 a1 a2 a3 : Value} (h : Blk w g t #[a0, a1, a2, a3]) : w.cell? ⟨g, 0, none⟩ = some a0 ∧ w.cell? ⟨g, 1, none⟩ = some a1 ∧ w.cell? ⟨g, 2, none⟩ = some a2 ∧ w.cell? ⟨g, 3, none⟩ = some a3 ∧ w.frozen? ⟨g, 0, none⟩ = false ∧ w.frozen? ⟨g, 1, none⟩ = false ∧ w.frozen? ⟨g, 2, none⟩ = false ∧ w.frozen? ⟨g, 3, none⟩ = false := ⟨(h.cell 0).trans rfl, (h.cell 1).trans rfl, (h.cell 2).trans rfl, (h.cell 3).trans rfl, h.frozen 0, h.frozen 1, h.frozen 2, h.frozen 3⟩
theorem Blk.c5 {w : World} {g : Nat} {t : TypeId} {a0 a1 a2 a3 a4 : Value} (h : Blk w g t #[a0, a1, a2, a3, a4]) : w.cell? ⟨g, 0, none⟩ = some a0 ∧ w.cell? ⟨g, 1, none⟩ = some a1 ∧ w.cell? ⟨g, 2, none⟩ = some a2 ∧ w.cell? ⟨g, 3, none⟩ = some a3 ∧ w.cell? ⟨g, 4, none⟩ = some a4 ∧ w.frozen? ⟨g, 0, none⟩ = false ∧ w.frozen? ⟨g, 1, none⟩ = false ∧ w.frozen? ⟨g, 2, none⟩ = false ∧ w.frozen? ⟨g, 3, none⟩ = false ∧ w.frozen? ⟨g, 4, none⟩ = false := ⟨(h.cell 0).trans rfl, (h.cell 1).trans rfl, (h.cell 2).trans rfl, (h.cell 3).trans rfl, (h.cell 4).trans rfl, h.frozen 0, h.frozen 1, h.frozen 2, h.frozen 3, h.frozen 4⟩
theorem Blk.c6 {w : World} {g : Nat} {t : TypeId} {a0 a1 a2 a3 a4 a5 : Value} (h : Blk w g t #[a0, a1, a2, a3, a4, a5]) : w.cell? ⟨g, 0, none⟩ = some a0 ∧ w.cell? ⟨g, 1, none⟩ = some a1 ∧ w.cell? ⟨g, 2, none⟩ = some a2 ∧ w.cell? ⟨g, 3, none⟩ = some a3 ∧ w.cell? ⟨g, 4, none⟩ = some a4 ∧ w.cell? ⟨g, 5, none⟩ = some a5 ∧ w.frozen? ⟨g, 0, none⟩ = false ∧ w.frozen? ⟨g, 1, none⟩ = false ∧ w.frozen? ⟨g, 2, none⟩ = false ∧ w.frozen? ⟨g, 3, none⟩ = false ∧ w.frozen? ⟨g, 4, none⟩ = false ∧ w.frozen? ⟨g, 5, none⟩ = false := ⟨(h.cell 0).trans rfl, (h.cell 1).trans rfl, (h.cell 2).trans rfl, (h.cell 3).trans rfl, (h.cell 4).trans rfl, (h.cell 5).trans rfl, h.frozen 0, h.frozen 1, h.frozen 2, h.frozen 3, h.frozen 4, h.frozen 5⟩

end Go.Proofs.YtmoghgmbpkpcfaaGreatDoor

namespace Go.Proofs.YtmoghgmbpkpcfaaGreatDoor
open Go.RowKit

/-- Memory grows, and of what was there only block g may turn. -/
structure Besides (g : Nat) (w w' : World) : Prop where
  os : w'.os = w.os
  tape : w'.tape = w.tape
  output : w'.output = w.output
  size : w.heap.size ≤ w'.heap.size
  block : ∀ k, k < w.heap.size → k ≠ g → w'.heap[k]? = w.heap[k]?
theorem Besides.refl (g : Nat) (w : World) : Besides g w w := ⟨rfl, rfl, rfl, Nat.le_refl _, fun _ _ _ => rfl⟩
theorem Besides.trans {g : Nat} {a b c : World} (h : Besides g a b) (k : Besides g b c) : Besides g a c :=
  ⟨k.os.trans h.os, k.tape.trans h.tape, k.output.trans h.output, Nat.le_trans h.size k.size, fun i hi hn => (k.block i (Nat.lt_of_lt_of_le hi h.size) hn).trans (h.block i hi hn)⟩
theorem Besides.of_below {g : Nat} {a b : World} (h : Below a.heap.size a b) : Besides g a b := ⟨h.os, h.tape, h.output, h.size, fun k hk _ => h.block k hk⟩
theorem Besides.set_ {g : Nat} {a b : World} (h : Besides g a b) (i : Nat) (v : Value) : Besides g a (b.setCell ⟨g, i, none⟩ v) :=
  ⟨h.os, h.tape, h.output, by rw [World.size_setCell]; exact h.size, fun k hk hn => by
    rw [show (b.setCell ⟨g, i, none⟩ v).heap[k]? = b.heap[k]? by simp [World.setCell, Array.getElem?_modify, Ne.symm hn]]
    exact h.block k hk hn⟩
theorem Besides.below {g : Nat} {a b : World} {B : Nat} (h : Besides g a b) (h1 : B ≤ g) (h2 : B ≤ a.heap.size) : Below B a b := ⟨h.os, h.tape, h.output, h.size, fun k hk => h.block k (by omega) (by omega)⟩

theorem own_besides {g0 : Nat} {w w' : World} {base : Nat} {e : TypeId} {size : Nat} {v : Value} {n : Nat} {xs : List Value} (h : w.ownsRow base e size v n xs) (hb : Besides g0 w w') (hg0 : g0 < base) : w'.ownsRow base e size v n xs := by
  refine ⟨h.1, ?_⟩
  rcases h.2 with h0 | ⟨g, cap, cur, rfl, hg, hh, r⟩
  · exact .inl h0
  · exact .inr ⟨g, cap, cur, rfl, hg, (hb.block g ((Array.getElem?_eq_some_iff.1 hh).1) (by omega)).trans hh, r⟩
theorem own_below {w w' : World} {base : Nat} {e : TypeId} {size : Nat} {v : Value} {n : Nat} {xs : List Value} (h : w.ownsRow base e size v n xs) (hb : Below w.heap.size w w') : w'.ownsRow base e size v n xs := by
  refine ⟨h.1, ?_⟩
  rcases h.2 with h0 | ⟨g, cap, cur, rfl, hg, hh, r⟩
  · exact .inl h0
  · exact .inr ⟨g, cap, cur, rfl, hg, (hb.block g ((Array.getElem?_eq_some_iff.1 hh).1)).trans hh, r⟩
theorem own_base {w : World} {base base' : Nat} {e : TypeId} {size : Nat} {v : Value} {n : Nat} {xs : List Value} (h : w.ownsRow base e size v n xs) (hb : base' ≤ base) : w.ownsRow base' e size v n xs := by
  refine ⟨h.1, ?_⟩
  rcases h.2 with h0 | ⟨g, cap, cur, rfl, hg, hh, r⟩
  · exact .inl h0
  · exact .inr ⟨g, cap, cur, rfl, Nat.le_trans hb hg, hh, r⟩
theorem own_nil {w : World} {base : Nat} {e : TypeId} {size : Nat} : w.ownsRow base e size (.slice none 0 0) 0 [] := ⟨by simp, .inl ⟨rfl, rfl⟩⟩
theorem below_append {B : Nat} {w w1 w2 : World} {base : Nat} {e : TypeId} {size n : Nat} {v : Value} {xs : List Value} (h : Below B w w1) (hown : w1.ownsRow base e size v n xs) (hB : B ≤ base) (hw : B ≤ w.heap.size) (hg : w1.grownBy w2 v.ownBlock) : Below B w w2 :=
  h.grown hg (Nat.le_trans hw h.size) (fun k e => by have := (hown.lt k e).1; omega)
/-- An own row's block holds cells. -/
theorem own_cells {w : World} {base : Nat} {e : TypeId} {size n : Nat} {v : Value} {xs : List Value} (h : w.ownsRow base e size v n xs) {k : Nat} (hk : v.ownBlock = some k) {o : Obj} (ho : w.heap[k]? = some o) : o.isCells = true := by
  rcases h.2 with ⟨rfl, -⟩ | ⟨g, cap, cur, rfl, -, hh, -⟩
  · cases hk
  · injection hk with hk
    have hk : g = k := hk
    rw [hk, ho] at hh
    injection hh with hh
    rw [hh]; rfl
theorem own_form {w : World} {base : Nat} {e : TypeId} {size n : Nat} {v : Value} {xs : List Value} (h : w.ownsRow base e size v n xs) : ∃ A c, v = .slice A n c := by
  rcases h.2 with ⟨rfl, rfl⟩ | ⟨g, cap, cur, rfl, -⟩
  · exact ⟨none, 0, rfl⟩
  · exact ⟨_, _, rfl⟩
/-- A row that is not the one that grows. -/
theorem own_other {A B : World} {base : Nat} {e : TypeId} {size n : Nat} {v : Value} {xs : List Value} {row : Option Nat} (h : A.ownsRow base e size v n xs) (hg : A.grownBy B row) (hr : ∀ r, row = some r → ∃ o : Obj, A.heap[r]? = some o ∧ o.isCells = false) : B.ownsRow base e size v n xs := by
  refine h.kept hg ?_
  rcases h.2 with ⟨rfl, -⟩ | ⟨g, cap, cur, rfl, -, hh, -⟩
  · exact .inl rfl
  · refine .inr (fun e => ?_)
    obtain ⟨o, h10, h11⟩ := hr g e.symm
    rw [hh] at h10
    injection h10 with h10
    subst h10
    cases h11
/-- The cells of a new block, to be appended. -/
theorem new_cells (w : World) (cs : List Value) (t : TypeId) : ∀ j u, cs[j]? = some u → (w.alloc (.cells cs.toArray t)).cell? ((⟨w.heap.size, 0, none⟩ : Addr).add j) = some u := by
  intro j u h
  have ha : (⟨w.heap.size, 0, none⟩ : Addr).add j = ⟨w.heap.size, j, none⟩ := by unfold Addr.add; split <;> simp
  rw [ha, (Blk.new_ w t cs.toArray).cell j]
  simpa using h
theorem boxed_kept' {W W' : World} {B : Nat} {t : TypeId} {v : Value} (h : Boxed W B t v) (hb : W'.heap[B]? = W.heap[B]?) : Boxed W' B t v := hb.trans h

end Go.Proofs.YtmoghgmbpkpcfaaGreatDoor

namespace Go.Proofs.YtmoghgmbpkpcfaaGreatDoor
open Go.RowKit

/-- append of a slice, nil or not. -/
theorem wpList_append_any {P : Program} {w : World} {ops : Array Oper} {rest : List Oper} {o : Oper} {a : Act} {Q : Exit → Act → World → Prop} (hgd : o.guard = none) (s x : Operand) (t : TypeId)
    (ho : o.op = .call { callee := .builtin .append, args := #[s, x], argTypes := #[t, t] })
    (base : Nat) (e : TypeId) (i : TypeInfo) (z : Value) (size bytes : Nat) (ht : P.underlying t = some (.slice e)) (hi : P.info? e = some i) (hz : i.zero = some z)
    (hsize : i.size = size) (hby : i.bytes = bytes) (hzs : z.cells.size = size) (hsz : 0 < size)
    (v : Value) (n : Nat) (xs : List Value) (hs : a.eval s = v) (hown : w.ownsRow base e size v n xs)
    (A : Option Addr) (m c : Nat) (news : List Value) (hx : a.eval x = .slice A m c) (hA : A = none → m = 0 ∧ c = 0) (hl : news.length = m * size) (hnews : ∀ ad, A = some ad → ∀ j u, news[j]? = some u → w.cell? (ad.add j) = some u) (h1 : ∀ u ∈ news, u.oneCell' = true)
    (h63 : n + m ≤ maxLen) (hbytes : (n + m) * bytes ≤ 140737488355328) (hbase : base ≤ w.heap.size)
    (h : ∀ v' w', w'.ownsRow base e size v' (n + m) (xs ++ news) → w.grownBy w' v.ownBlock → wpList P ops Q rest (a.put o.dst v') w') : wpList P ops Q (o :: rest) a w := by
  cases A with
  | none =>
    obtain ⟨rfl, rfl⟩ := hA rfl
    have hn : news = [] := List.eq_nil_of_length_eq_zero (by omega)
    subst hn
    refine wpList_append_own_none hgd s x t ho base e i size ht hi v n xs hs hown hx (h v w (by simpa using hown) ?_)
    exact ⟨rfl, rfl, rfl, Nat.le_refl _, fun _ _ _ => rfl⟩
  | some ad => exact wpList_append_own w hgd s x t ho base e i z size bytes ht hi hz hsize hby hzs hsz v n xs hs hown ad m c news hx hl (hnews ad rfl) h1 h63 hbytes hbase fun v' w' h2 h3 _ => h v' w' h2 h3

end Go.Proofs.YtmoghgmbpkpcfaaGreatDoor

namespace Go.Proofs.YtmoghgmbpkpcfaaGreatDoor
open Go.RowKit

theorem wp_scope_once {P : Program} {a : Act} {w : World} {Q : Exit → Act → World → Prop} {c rest : Code} (l : Nat) (hf : findLabel c l = some rest)
    (first : c.wp P (Exit.jump l (fun a w => rest.wp P (Exit.noGoto Q) a w) Q) a w) : (Code.scope c).wp P Q a w :=
  wp_scope_jumps l (fun a w => rest.wp P (Exit.noGoto Q) a w) (fun _ _ => 0) hf first (fun _ _ h => Code.wp_mono (fun e a w hq => by
    cases e with
    | goto l => exact (hq : False).elim
    | _ => exact hq) h)

end Go.Proofs.YtmoghgmbpkpcfaaGreatDoor

namespace Go.Proofs.YtmoghgmbpkpcfaaGreatDoor
open Go.ChangeShapes Go.WideShapes Go.RowKit

section
variable {H : Type} {enc : TypeId × Value → H} {P : Program} {w : World} {base : Nat} {spare : Nat → Bool} {held : Bool}

theorem trodAll_stays (hl : laidOutB P = true) {W W' : World} (hb : Below W.heap.size W W') : ∀ (ts : List TypeId) (vs : List Value) (ds : List (DataW H)) (ps : List MemPlace), (ts.all fun t => P.readableRec t && decide (t < P.types.size)) = true →
    DataW.TrodAll enc P W 0 (fun _ => true) true ts vs ds ps → (∀ x ∈ ps, x.block < W.heap.size) → DataW.TrodAll enc P W' 0 (fun b => decide (b < W.heap.size)) true ts vs ds ps
  | [], vs, ds, ps, _, h, _ => by
    obtain ⟨rfl, rfl, rfl⟩ := trodAll_nil h
    exact trodAll_mk0
  | t :: ts, vs, ds, ps, hr, h, hlt => by
    obtain ⟨v, vs', d, ds', p, q, rfl, rfl, rfl, h1, h2⟩ := trodAll_cons h
    rw [List.all_cons, Bool.and_eq_true, Bool.and_eq_true, decide_eq_true_eq] at hr
    exact ⟨p, q, Below.trod hl hr.1.1 hr.1.2 h1 hb (fun x hx => hlt x (List.mem_append_left _ hx)), trodAll_stays hl hb ts vs' ds' q hr.2 h2 (fun x hx => hlt x (List.mem_append_right _ hx)), rfl⟩

theorem trodAll_five {t0 t1 t2 t3 t4 : TypeId} {args : Array Value} {ds : List (DataW H)} {ps : List MemPlace} (h : DataW.TrodAll enc P w base spare held [t0, t1, t2, t3, t4] args.toList ds ps) :
    ∃ v0 v1 v2 v3 v4 d0 d1 d2 d3 d4 p0 p1 p2 p3 p4, args = #[v0, v1, v2, v3, v4] ∧ ds = [d0, d1, d2, d3, d4] ∧ ps = p0 ++ (p1 ++ (p2 ++ (p3 ++ p4))) ∧ DataW.Trod enc P w base spare held t0 v0 d0 p0 ∧ DataW.Trod enc P w base spare held t1 v1 d1 p1 ∧ DataW.Trod enc P w base spare held t2 v2 d2 p2 ∧
      DataW.Trod enc P w base spare held t3 v3 d3 p3 ∧ DataW.Trod enc P w base spare held t4 v4 d4 p4 := by
  obtain ⟨v0, vs0, d0, ds0, p0, q0, hargs, rfl, rfl, h0, r0⟩ := trodAll_cons h
  obtain ⟨v1, vs1, d1, ds1, p1, q1, rfl, rfl, rfl, h1, r1⟩ := trodAll_cons r0
  obtain ⟨v2, vs2, d2, ds2, p2, q2, rfl, rfl, rfl, h2, r2⟩ := trodAll_cons r1
  obtain ⟨v3, vs3, d3, ds3, p3, q3, rfl, rfl, rfl, h3, r3⟩ := trodAll_cons r2
  obtain ⟨v4, vs4, d4, ds4, p4, q4, rfl, rfl, rfl, h4, r4⟩ := trodAll_cons r3
  obtain ⟨rfl, rfl, rfl⟩ := trodAll_nil r4
  exact ⟨v0, v1, v2, v3, v4, d0, d1, d2, d3, d4, p0, p1, p2, p3, p4, by cases args; simp_all, rfl, by simp, h0, h1, h2, h3, h4⟩

theorem trodAll_seven {t0 t1 t2 t3 t4 t5 t6 : TypeId} {args : Array Value} {ds : List (DataW H)} {ps : List MemPlace} (h : DataW.TrodAll enc P w base spare held [t0, t1, t2, t3, t4, t5, t6] args.toList ds ps) :
    ∃ v0 v1 v2 v3 v4 v5 v6 d0 d1 d2 d3 d4 d5 d6 p0 p1 p2 p3 p4 p5 p6, args = #[v0, v1, v2, v3, v4, v5, v6] ∧ ds = [d0, d1, d2, d3, d4, d5, d6] ∧ ps = p0 ++ (p1 ++ (p2 ++ (p3 ++ (p4 ++ (p5 ++ p6))))) ∧ DataW.Trod enc P w base spare held t0 v0 d0 p0 ∧ DataW.Trod enc P w base spare held t1 v1 d1 p1 ∧ DataW.Trod enc P w base spare held t2 v2 d2 p2 ∧
      DataW.Trod enc P w base spare held t3 v3 d3 p3 ∧ DataW.Trod enc P w base spare held t4 v4 d4 p4 ∧ DataW.Trod enc P w base spare held t5 v5 d5 p5 ∧ DataW.Trod enc P w base spare held t6 v6 d6 p6 := by
  obtain ⟨v0, vs0, d0, ds0, p0, q0, hargs, rfl, rfl, h0, r0⟩ := trodAll_cons h
  obtain ⟨v1, vs1, d1, ds1, p1, q1, rfl, rfl, rfl, h1, r1⟩ := trodAll_cons r0
  obtain ⟨v2, vs2, d2, ds2, p2, q2, rfl, rfl, rfl, h2, r2⟩ := trodAll_cons r1
  obtain ⟨v3, vs3, d3, ds3, p3, q3, rfl, rfl, rfl, h3, r3⟩ := trodAll_cons r2
  obtain ⟨v4, vs4, d4, ds4, p4, q4, rfl, rfl, rfl, h4, r4⟩ := trodAll_cons r3
  obtain ⟨v5, vs5, d5, ds5, p5, q5, rfl, rfl, rfl, h5, r5⟩ := trodAll_cons r4
  obtain ⟨v6, vs6, d6, ds6, p6, q6, rfl, rfl, rfl, h6, r6⟩ := trodAll_cons r5
  obtain ⟨rfl, rfl, rfl⟩ := trodAll_nil r6
  exact ⟨v0, v1, v2, v3, v4, v5, v6, d0, d1, d2, d3, d4, d5, d6, p0, p1, p2, p3, p4, p5, p6, by cases args; simp_all, rfl, by simp, h0, h1, h2, h3, h4, h5, h6⟩
end

theorem laidOut : laidOutB Tryz.prog = true := by kernel_rfl

end Go.Proofs.YtmoghgmbpkpcfaaGreatDoor

namespace Go.Proofs.YtmoghgmbpkpcfaaGreatDoor
open Go.RowKit

theorem sCellsE : Tryz.prog.cellsOf 184 = 1 := by kernel_rfl
theorem sCellsS : Tryz.prog.cellsOf 9 = 1 := by kernel_rfl
theorem sStar : "*" ++ "errors.errorString" = "*errors.errorString" := by decide
theorem sRow (u : TypeId) (h : Tryz.prog.typeName? 3 u = some "*errors.errorString") : u = 164 :=
  typeName_ptr_named (nm := "errors.errorString") (by rw [sStar]; kernel_rfl) (by kernel_rfl) (by decide) u (by rw [sStar]; exact h)

/-- The variables g hold errors, at the places a; all different. -/
def SentAt (w : World) (l : List (Nat × Addr)) : Prop :=
  (l.map (·.2)).Nodup ∧ ∀ g a, (g, a) ∈ l → w.cell? ⟨g, 0, none⟩ = some (ErrV a) ∧ Plain w a

set_option maxRecDepth 100000 in
theorem sent_of_vars {W : World} : ∀ (l : List (String × Nat × List UInt8)) (ps : List MemPlace),
    DataW.LaidVars Tryz.prog W (l.map fun x => (x.1, .iface "*errors.errorString" (.ptr (.agg [.lit (.string x.2.2)])))) ps → ps.Nodup →
    (∀ b off, MemPlace.cell b off ∈ ps → (∃ c t, W.heap[b]? = some (.cells c t (0, 0))) ∧ ∀ u v, W.cell? ⟨b, off, none⟩ = some (.iface u v) → Value.okWide Tryz.prog W .any 0 u v) →
    (∀ x ∈ l, Tryz.prog.globalNamed x.1 = some x.2.1 ∧ (Tryz.prog.globals[x.2.1]?).map (·.type) = some 48) →
    ∃ av : List Addr, av.length = l.length ∧ av.Nodup ∧ (∀ a ∈ av, MemPlace.cell a.block a.off ∈ ps) ∧
      ∀ g a, (g, a) ∈ (l.map (·.2.1)).zip av → W.cell? ⟨g, 0, none⟩ = some (ErrV a) ∧ Plain W a
  | [], ps, _, _, _, _ => ⟨[], rfl, List.nodup_nil, fun a h => (by cases h), fun g a h => (by simp at h)⟩
  | x :: l, ps, h, hnd, hrows, hg => by
    obtain ⟨g0, t0, cs0, f0, p0, q0, hg0, ht0, hv0, hd0, hq0, e0⟩ := h
    obtain ⟨hgx, htx⟩ := hg x (List.mem_cons_self ..)
    obtain rfl := Option.some.inj (hgx.symm.trans hg0)
    obtain rfl := Option.some.inj (htx.symm.trans ht0)
    subst e0
    obtain ⟨l0⟩ := cs0
    have ok0 : ∀ u v, l0 = [.iface u v] → Value.okWide Tryz.prog W .any 0 u v := fun u v e => by
      subst e
      exact (hrows x.2.1 0 (by simp [MemPlace.row])).2 u v (by simpa using World.var?_cell hg0 hv0 0)
    obtain ⟨a0, s0, rfl, hc0, hs0, hz0, rfl⟩ := errorString_of_trod Tryz.underlying48 sRow Tryz.underlying164 Tryz.underlying184 rfl rfl Tryz.underlying9 sCellsE sCellsS hd0 ok0
    obtain ⟨av, h1, h2, h3, h4⟩ := sent_of_vars l q0 hq0 (List.Nodup.sublist (List.sublist_append_right _ _) hnd) (fun b off hm => hrows b off (List.mem_append_right _ hm)) (fun y hy => hg y (List.mem_cons_of_mem _ hy))
    have hb0 := (hrows a0.block a0.off (by simp [MemPlace.row])).1
    refine ⟨a0 :: av, by simp [h1], List.nodup_cons.2 ⟨fun hm => ?_, h2⟩, ?_, ?_⟩
    · have hp := h3 a0 hm
      rw [List.nodup_append] at hnd
      exact hnd.2.2 _ (show MemPlace.cell a0.block a0.off ∈ _ by simp [MemPlace.row]) _ hp rfl
    · intro a ha
      rcases List.mem_cons.1 ha with rfl | ha
      · simp [MemPlace.row]
      · exact List.mem_append_right _ (h3 a ha)
    · intro g a hm
      rw [List.map_cons, List.zip_cons_cons, List.mem_cons] at hm
      rcases hm with e | hm
      · obtain ⟨rfl, rfl⟩ := Prod.mk.inj e
        obtain ⟨c, t, hb⟩ := hb0
        exact ⟨by simpa [ErrV] using World.var?_cell hg0 hv0 0, c, t, hb⟩
      · exact h4 g a hm

theorem sent_of_laid {W : World} (l : List (String × Nat × List UInt8)) (L : List (String × DataW Unit)) (hL : L = l.map fun x => (x.1, .iface "*errors.errorString" (.ptr (.agg [.lit (.string x.2.2)]))))
    (hp : (L.all fun x => x.2.handleName?.isNone) = true) (h : laidMetH Tryz.prog L W) (hg : ∀ x ∈ l, Tryz.prog.globalNamed x.1 = some x.2.1 ∧ (Tryz.prog.globals[x.2.1]?).map (·.type) = some 48) :
    ∃ av : List Addr, av.length = l.length ∧ av.Nodup ∧ ∀ g a, (g, a) ∈ (l.map (·.2.1)).zip av → W.cell? ⟨g, 0, none⟩ = some (ErrV a) ∧ Plain W a := by
  rw [MakeChecks.laidMetH_plain _ _ _ hp] at h
  subst hL
  obtain ⟨ps, h1, h2, h3⟩ := h
  obtain ⟨av, k1, k2, _, k4⟩ := sent_of_vars l ps h1 h2 h3 hg
  exact ⟨av, k1, k2, k4⟩

end Go.Proofs.YtmoghgmbpkpcfaaGreatDoor

namespace Go.Proofs.YtmoghgmbpkpcfaaGreatDoor
open Go.RowKit Go.WideShapes Go.ChangeShapes Go.Deep

/-- Is a type int's? -/
def isI64 (P : Program) (t : TypeId) : Bool := match P.underlying t with
  | some (.int .i64) => true
  | _ => false
theorem isI64_of {P : Program} {t : TypeId} (h : isI64 P t = true) : P.underlying t = some (.int .i64) := by
  unfold isI64 at h
  split at h
  · assumption
  · cases h

/-- The datum of such an array. -/
def rowsData (rows : List (List Int)) : DataW Unit := .agg (rows.map fun r => .agg (r.map fun n => .lit (.int .i64 n)))

theorem ints_of_struct {P : Program} {w : World} {base : Nat} {sp : Nat → Bool} {held : Bool} {fuel : Nat} {t : TypeId} {fs : Array Field} {cs : List Value} {zs : List Int} {p : List MemPlace}
    (ht : P.underlying t = some (.struct fs)) (hone : oneCellFields P fs = true) (hint : (fs.toList.all fun f => isI64 P f.type) = true)
    (h : DataW.trod (fun _ => ()) P w base sp held fuel t cs = some (.agg (zs.map fun n => .lit (.int .i64 n)), p)) : ∀ (j : Nat) (z : Int), zs[j]? = some z → cs[j]? = some (.int .i64 z) := by
  obtain ⟨xs, n, _, hx, hcs, hlen, hf⟩ := DataW.trod_struct ht h
  intro j z hz
  have hxs : xs.map (·.1) = zs.map fun n => (DataW.lit (.int .i64 n) : DataW Unit) := by
    have := congrArg Prod.fst hx
    simpa using this.symm
  have hzl : zs.length = fs.size := by have := congrArg List.length hxs; simp at this; omega
  have hj : j < fs.size := by rw [← hzl]; exact (List.getElem?_eq_some_iff.1 hz).1
  have hfj : fs[j]? = some fs[j] := Array.getElem?_eq_getElem hj
  obtain ⟨ho, hk⟩ := hone_of hone j _ hfj
  have hi : P.underlying fs[j].type = some (.int .i64) := isI64_of (List.all_eq_true.1 hint fs[j] (by simp))
  have h1 := hf j _ hfj
  rw [ho, hk] at h1
  have hxj : xs[j]? = some (xs[j]'(by omega)) := List.getElem?_eq_getElem (by omega)
  rw [hxj] at h1
  obtain ⟨m, hc, he, _⟩ := DataW.trod_int hi h1
  have h2 : (xs.map (·.1))[j]? = some (DataW.lit (.int .i64 m) : DataW Unit) := by rw [List.getElem?_map, hxj, he]; rfl
  rw [hxs, List.getElem?_map, hz] at h2
  simp only [Option.map_some, Option.some.injEq, DataW.lit.injEq, Lit.int.injEq, true_and] at h2
  subst h2
  have := congrArg (fun l : List Value => l[0]?) hc
  simpa [List.getElem?_take, List.getElem?_drop] using this

theorem cells_of_rows {P : Program} {w : World} {base : Nat} {sp : Nat → Bool} {held : Bool} {fuel : Nat} {t e : TypeId} {n : Nat} {fs : Array Field} {cs : List Value} {rows : List (List Int)} {p : List MemPlace}
    (ht : P.underlying t = some (.array n e)) (he : P.underlying e = some (.struct fs)) (hone : oneCellFields P fs = true) (hint : (fs.toList.all fun f => isI64 P f.type) = true)
    (h : DataW.trod (fun _ => ()) P w base sp held fuel t cs = some (rowsData rows, p)) : ∀ (i j : Nat) (r : List Int) (z : Int), rows[i]? = some r → r[j]? = some z → j < P.cellsOf e → cs[i * P.cellsOf e + j]? = some (.int .i64 z) := by
  obtain ⟨xs, m, _, hx, hcs, hlen, hf⟩ := DataW.trod_array ht h
  intro i j r z hr hz hje
  have hxs : xs.map (·.1) = rows.map fun r => (DataW.agg (r.map fun n => .lit (.int .i64 n)) : DataW Unit) := by
    have := congrArg Prod.fst hx
    simpa [rowsData] using this.symm
  have hl : rows.length = n := by have := congrArg List.length hxs; simp at this; omega
  have hi : i < n := by rw [← hl]; exact (List.getElem?_eq_some_iff.1 hr).1
  have hxi : xs[i]? = some (xs[i]'(by omega)) := List.getElem?_eq_getElem (by omega)
  have h1 := hf i hi
  rw [hxi] at h1
  have h2 : (xs.map (·.1))[i]? = some (xs[i]'(by omega)).1 := by rw [List.getElem?_map, hxi]; rfl
  rw [hxs, List.getElem?_map, hr] at h2
  simp only [Option.map_some, Option.some.injEq] at h2
  have h3 : DataW.trod (fun _ => ()) P w base sp held m e ((cs.drop (i * P.cellsOf e)).take (P.cellsOf e)) = some (.agg (r.map fun n => .lit (.int .i64 n)), (xs[i]'(by omega)).2) := by rw [h1, h2]
  have h4 := ints_of_struct he hone hint h3 j z hz
  rw [List.getElem?_take, if_pos hje, List.getElem?_drop] at h4
  exact h4

/-- The variable's cells. -/
theorem rows_of_laid {P : Program} {W : World} {name : String} {L : List (String × DataW Unit)} {g : Nat} {t e : TypeId} {n : Nat} {fs : Array Field} {rows : List (List Int)}
    (hL : L.filter (fun x => x.1 == name) = [(name, rowsData rows)]) (hp : (L.all fun x => x.2.handleName?.isNone) = true) (h : laidMetH P L W)
    (hg : P.globalNamed name = some g) (hty : (P.globals[g]?).map (·.type) = some t)
    (ht : P.underlying t = some (.array n e)) (he : P.underlying e = some (.struct fs)) (hone : oneCellFields P fs = true) (hint : (fs.toList.all fun f => isI64 P f.type) = true) :
    ∀ (i j : Nat) (r : List Int) (z : Int), rows[i]? = some r → r[j]? = some z → j < P.cellsOf e → W.cell? ⟨g, i * P.cellsOf e + j, none⟩ = some (.int .i64 z) := by
  rw [MakeChecks.laidMetH_plain _ _ _ hp] at h
  have h := laidMet.filter (fun x => x.1 == name) h
  rw [hL] at h
  obtain ⟨ps, ⟨g', t', cs, fuel, p, q, hg', ht', hvar, hd, _, _⟩, _⟩ := h
  obtain rfl := Option.some.inj (hg.symm.trans hg')
  obtain rfl := Option.some.inj (hty.symm.trans ht')
  intro i j r z hr hz hj
  have h1 := cells_of_rows ht he hone hint hd i j r z hr hz hj
  rw [World.var?_cell hg hvar]
  simpa using h1

/-- The errors among the listed variables. -/
theorem sent_of_laid_among {W : World} (keep : String × DataW Unit → Bool) (l : List (String × Nat × List UInt8)) (L : List (String × DataW Unit)) (hL : L.filter keep = l.map fun x => (x.1, .iface "*errors.errorString" (.ptr (.agg [.lit (.string x.2.2)]))))
    (hp : (L.all fun x => x.2.handleName?.isNone) = true) (h : laidMetH Tryz.prog L W) (hg : ∀ x ∈ l, Tryz.prog.globalNamed x.1 = some x.2.1 ∧ (Tryz.prog.globals[x.2.1]?).map (·.type) = some 48) :
    ∃ av : List Addr, av.length = l.length ∧ av.Nodup ∧ ∀ g a, (g, a) ∈ (l.map (·.2.1)).zip av → W.cell? ⟨g, 0, none⟩ = some (ErrV a) ∧ Plain W a := by
  rw [MakeChecks.laidMetH_plain _ _ _ hp] at h
  have h := laidMet.filter keep h
  rw [hL] at h
  obtain ⟨ps, h1, h2, h3⟩ := h
  obtain ⟨av, k1, k2, _, k4⟩ := sent_of_vars l ps h1 h2 h3 hg
  exact ⟨av, k1, k2, k4⟩

end Go.Proofs.YtmoghgmbpkpcfaaGreatDoor
