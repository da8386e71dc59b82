/-
  errors.Is over sentinels of errors.New's make (and nil): its contracts at this translation, and more of the kind. Conditions: as the theorems' own hypotheses say.
-/
import Derived.WalkKit
import Derived.WalkSpells
import Derived.WalkLawsBesides
import Derived.Lib.Hide
import Derived.Test.YtmebjdbkngehiaaGreatDoorChecked
import Derived.LaidEql
import Derived.Stop.Asserts
import Derived.RowKitTokens
import Derived.Deep.RegionHeld3
import Derived.Deep.LoopGhost
import Derived.BigQuiet
import Derived.Deep.QuietTactic
import Derived.Carry
import Derived.ChangeShapes
import Derived.RangeFuncBox
import Derived.Laws.AppendOwn
import Derived.Laws.AppendOwnNone
import Derived.Lib.AppendStr
import Derived.Laws.Tables
import Derived.ScopeJumps
import Derived.WalkMore
import Derived.Deep.MidRow
import Derived.Deep.WholeRow
import Derived.OwnWalkIn
import Derived.LaidLaws
import Derived.RowKit
import Derived.MakeChecks
import Derived.Stop.Joined
import Derived.OpenShut
import Derived.ChangeArms
import Derived.Deep.Fields
import Derived.LaidSub
import Derived.Deep.RegionHeld
namespace Go.Proofs.YtmebjdbkngehiaaGreatDoor
open Go.RowKit Go.Extern.Stop Go.Stop Go.Extern
def ErrV (a : Addr) : Value := .iface 301 (.pointer (some a))
def comparableOf : Array Value → Sem Value := Extern.ReflectliteType.method fun t => do Go.Extern.Rtype.noPackHeld "Comparable" t; pure (.bool (← typeInfo t).comparable)
theorem isTypeOf (v : Value) (w : World) : (Extern.ReflectliteType.typeOf #[.iface 301 v]).run Tryz.prog w = .ok (.iface 224 (.agg #[.pointer (some ⟨7, 301, none⟩)])) w := by kernel_rfl
theorem isComparable (w : World) : (comparableOf #[.agg #[.pointer (some ⟨7, 301, none⟩)]]).run Tryz.prog w = .ok (.bool true) w := by kernel_rfl
theorem isMethodComparable (v : Value) (w : World) : (Go.method 430 224 v "Comparable").run Tryz.prog w = .ok (218, v) w := by kernel_rfl
theorem isComp : (Tryz.prog.info? 301).map (·.comparable) = some true := by kernel_rfl
theorem isSize : (Tryz.prog.info? 319).map (·.size) = some 1 := by kernel_rfl
theorem noIsE (v : Value) (xT : TypeId) (w : World) : (Instr.typeAssert (.iface 301 v) xT 282 true).run Tryz.prog w = .ok (.tuple #[.nilIface, .bool false]) w := run_typeAssert_lacksB Tryz.underlying282 (by kernel_rfl) (by kernel_rfl) v xT w
theorem noUnwrapE (v : Value) (xT : TypeId) (w : World) : (Instr.typeAssert (.iface 301 v) xT 232 true).run Tryz.prog w = .ok (.tuple #[.nilIface, .bool false]) w := run_typeAssert_lacksB Tryz.underlying232 (by kernel_rfl) (by kernel_rfl) v xT w
theorem noUnwrapsE (v : Value) (xT : TypeId) (w : World) : (Instr.typeAssert (.iface 301 v) xT 233 true).run Tryz.prog w = .ok (.tuple #[.nilIface, .bool false]) w := run_typeAssert_lacksB Tryz.underlying233 (by kernel_rfl) (by kernel_rfl) v xT w
theorem is_same (a : Addr) (w : World) :
  Calls Tryz.prog 147 #[ErrV a, ErrV a] w fun e w' => e = .returned (.bool true) ∧ w = w' := by
 unfold ErrV
 obtain ⟨i, hi, hcmp⟩ := Option.map_eq_some_iff.1 isComp
 obtain ⟨j, hj, hjs⟩ := Option.map_eq_some_iff.1 isSize
 have h8 := @run_callFunc_extern Tryz.prog 148 _ Extern.ReflectliteType.typeOf Tryz.func148 (by kernel_rfl) (by kernel_rfl) (by kernel_rfl) (by kernel_rfl)
 have h32 := @run_callFunc_extern Tryz.prog 218 _ comparableOf Tryz.func218 (by kernel_rfl) (by kernel_rfl) (by kernel_rfl) (by kernel_rfl)
 have tT := isTypeOf
 have cT := isComparable
 have mR := isMethodComparable
 have heq := run_eql_iface_ptr_same (P := Tryz.prog) w a Tryz.underlying95 Tryz.underlying301 hi hcmp hj
 go_enter Tryz.func147, Tryz.ntmps147
 go_wp2
 refine wp_loop_rounds 1 ?_
 rw [rounds_succ]
 go_wp2
 go_ret
 exact ⟨rfl, rfl⟩
theorem is_nil (b : Addr) (w : World) :
  Calls Tryz.prog 147 #[.nilIface, ErrV b] w fun e w' => e = .returned (.bool false) ∧ w = w' := by
 unfold ErrV
 have hn := run_eql_iface_nil_left (P := Tryz.prog) w 301 (.pointer (some b)) Tryz.underlying95
 go_enter Tryz.func147, Tryz.ntmps147
 go_wp2
 go_ret
 exact ⟨rfl, rfl⟩
def Plain (w : World) (b : Addr) : Prop := ∃ (c : Array Value) (t : TypeId), w.heap[b.block]? = some (.cells c t (0, 0))
theorem is_other (a b : Addr) (w : World) (hne : a ≠ b) (ha : Plain w a) (hb : Plain w b) :
  Calls Tryz.prog 147 #[ErrV a, ErrV b] w fun e w' => e = .returned (.bool false) ∧ w = w' := by
 unfold ErrV
 obtain ⟨ca, ta, ha⟩ := ha
 obtain ⟨cb, tb, hb⟩ := hb
 obtain ⟨i, hi, hcmp⟩ := Option.map_eq_some_iff.1 isComp
 obtain ⟨j, hj, hjs⟩ := Option.map_eq_some_iff.1 isSize
 have h8 := @run_callFunc_extern Tryz.prog 148 _ Extern.ReflectliteType.typeOf Tryz.func148 (by kernel_rfl) (by kernel_rfl) (by kernel_rfl) (by kernel_rfl)
 have h32 := @run_callFunc_extern Tryz.prog 218 _ comparableOf Tryz.func218 (by kernel_rfl) (by kernel_rfl) (by kernel_rfl) (by kernel_rfl)
 have tT := isTypeOf
 have cT := isComparable
 have mR := isMethodComparable
 have nE := noIsE
 have uE := noUnwrapE
 have vE := noUnwrapsE
 have heq := run_eql_iface_ptr_other (P := Tryz.prog) (a := a) (b := b) w Tryz.underlying95 Tryz.underlying301 hi hcmp hj (by rw [hjs]; decide) hne ha hb
 clear ha hb
 go_enter Tryz.func147, Tryz.ntmps147
 go_wp2
 refine wp_loop_rounds 1 ?_
 rw [rounds_succ]
 go_wp2
 go_ret
 exact ⟨rfl, rfl⟩
end Go.Proofs.YtmebjdbkngehiaaGreatDoor
namespace Go.Proofs.YtmebjdbkngehiaaGreatDoor
open Go.RowKit
variable {w a : World} {b : Addr}
def Ret (v : Value) (w : World) (e : Ending) (w' : World) : Prop := e = .returned v ∧ Below w.heap.size w w'
def Pure (v : Value) (w : World) (e : Ending) (w' : World) : Prop := e = .returned v ∧ w = w'
theorem Plain.lt (h : Plain w b) : b.block < w.heap.size := by
 obtain ⟨c, t, h⟩ := h
 exact (Array.getElem?_eq_some_iff.1 h).1
theorem Plain.below {w' : World} (h : Plain w b) (hb : Below w.heap.size w w') : Plain w' b := by
 have hl := h.lt
 obtain ⟨c, t, h⟩ := h
 exact ⟨c, t, (hb.block b.block hl).trans h⟩
theorem cell_lt {a : Addr} {v : Value} (h : w.cell? a = some v) : a.block < w.heap.size := World.block_lt_of_cell? w a h
theorem ext_trans {b c : World} (h : Below a.heap.size a b) (k : Below b.heap.size b c) : Below a.heap.size a c := h.trans (k.mono h.size)
theorem ext_alloc {b : World} (h : Below a.heap.size a b) (o : Obj) : Below a.heap.size a (b.alloc o) := h.alloc h.size o
theorem ext_new (a : World) (o : Obj) : Below a.heap.size a (a.alloc o) := (Below.refl _ a).alloc (Nat.le_refl _) o
theorem ext_refl (a : World) : Below a.heap.size a a := Below.refl _ a
theorem bool_cases (b : Bool) : b = false ∨ b = true := by cases b <;> simp
def errOf : Option Addr → Value
 | none => .nilIface
 | some a => ErrV a
def firstErr : List (Bool × Addr) → Option Addr
 | [] => none
 | (b, v) :: r => if b then firstErr r else some v
theorem firstErr_drop (xs : List (Bool × Addr)) (k : Nat) (h : ∀ i, (hi : i < k) → (hx : i < xs.length) → xs[i].1 = true) : firstErr (xs.drop k) = firstErr xs := by
 induction k generalizing xs with
 | zero => simp
 | succ k ih =>
  cases xs with
  | nil => simp
  | cons x r =>
   have h0 := h 0 (by omega) (by simp)
   simp only [List.drop_succ_cons]
   rw [ih r (fun i hi hx => by have := h (i + 1) (by omega) (by simpa using hx); simpa using this)]
   obtain ⟨b, v⟩ := x
   simp at h0
   simp [firstErr, h0]
theorem firstErr_all (xs : List (Bool × Addr)) (h : ∀ i, (hi : i < xs.length) → xs[i].1 = true) : firstErr xs = none := by
 have := firstErr_drop xs xs.length (fun i _ hx => h i hx)
 rw [← this]; simp [firstErr]
theorem firstErr_at (xs : List (Bool × Addr)) (k : Nat) (hk : k < xs.length) (h : ∀ i, (hi : i < k) → (hx : i < xs.length) → xs[i].1 = true) (hf : xs[k].1 = false) : firstErr xs = some xs[k].2 := by
 rw [← firstErr_drop xs k h, List.drop_eq_getElem_cons hk]
 simp [firstErr, hf]
end Go.Proofs.YtmebjdbkngehiaaGreatDoor
namespace Go.Proofs.YtmebjdbkngehiaaGreatDoor
open Go.ChangeShapes Go.WideShapes Go.RowKit
section
variable {H : Type} {enc : TypeId × Value → H} {P : Program} {w : World} {base : Nat} {spare : Nat → Bool} {held : Bool}
theorem trodAll_stays (hl : laidOutB P = true) {W W' : World} (hb : Below W.heap.size W W') : ∀ (ts : List TypeId) (vs : List Value) (ds : List (DataW H)) (ps : List MemPlace), (ts.all fun t => P.readableRec t && decide (t < P.types.size)) = true →
  DataW.TrodAll enc P W 0 (fun _ => true) true ts vs ds ps → (∀ x ∈ ps, x.block < W.heap.size) → DataW.TrodAll enc P W' 0 (fun b => decide (b < W.heap.size)) true ts vs ds ps
 | [], vs, ds, ps, _, h, _ => by
  obtain ⟨rfl, rfl, rfl⟩ := trodAll_nil h
  exact trodAll_mk0
 | t :: ts, vs, ds, ps, hr, h, hlt => by
  obtain ⟨v, vs', d, ds', p, q, rfl, rfl, rfl, h1, h2⟩ := trodAll_cons h
  rw [List.all_cons, Bool.and_eq_true, Bool.and_eq_true, decide_eq_true_eq] at hr
  exact ⟨p, q, Below.trod hl hr.1.1 hr.1.2 h1 hb (fun x hx => hlt x (List.mem_append_left _ hx)), trodAll_stays hl hb ts vs' ds' q hr.2 h2 (fun x hx => hlt x (List.mem_append_right _ hx)), rfl⟩
end
theorem laidOut : laidOutB Tryz.prog = true := by kernel_rfl
end Go.Proofs.YtmebjdbkngehiaaGreatDoor
namespace Go.Proofs.YtmebjdbkngehiaaGreatDoor
open Go.RowKit
variable {w w' a b : World} {g B base size n : Nat} {t e : TypeId} {cs : Array Value} {a0 a1 a2 a3 a4 v : Value} {xs : List Value}
def Blk (w : World) (g : Nat) (t : TypeId) (cs : Array Value) : Prop := w.heap[g]? = some (.cells cs t (0, 0))
theorem Blk.lt (h : Blk w g t cs) : g < w.heap.size := by
 rcases Nat.lt_or_ge g w.heap.size with hlt | hge
 ·exact hlt
 ·unfold Blk at h; rw [Array.getElem?_eq_none hge] at h; cases h
theorem Blk.cell (h : Blk w g t cs) (i : Nat) : w.cell? ⟨g, i, none⟩ = cs[i]? := cell_of_row w g i cs t (0, 0) h
theorem Blk.frozen (h : Blk w g t cs) (i : Nat) : w.frozen? ⟨g, i, none⟩ = false := by
 unfold Blk at h
 simp [World.frozen?, h]
theorem Blk.new_ (w : World) (t : TypeId) (cs : Array Value) : Blk (w.alloc (.cells cs t)) w.heap.size t cs := World.alloc_heap_new w _
theorem Blk.at_ (h : g = w.heap.size) : Blk (w.alloc (.cells cs t)) g t cs := by rw [h]; exact Blk.new_ w t cs
theorem Blk.alloc (h : Blk w g t cs) (o : Obj) : Blk (w.alloc o) g t cs := (Below.heap_alloc w o g h.lt).trans h
theorem Blk.set_ (h : Blk w g t cs) (i : Nat) (u : Value) : Blk (w.setCell ⟨g, i, none⟩ u) g t (cs.setIfInBounds i u) := by
 unfold Blk at h ⊢
 simp [World.setCell, Array.getElem?_modify, h]
theorem Blk.set_other {g' : Nat} (h : Blk w g t cs) (hn : g ≠ g') (i : Nat) (u : Value) : Blk (w.setCell ⟨g', i, none⟩ u) g t cs := (Below.heap_setCell _ _ _ _ hn).trans h
theorem Blk.kept (h : Blk w g t cs) (hb : w'.heap[g]? = w.heap[g]?) : Blk w' g t cs := hb.trans h
theorem Blk.below (h : Blk w g t cs) (hb : Below w.heap.size w w') : Blk w' g t cs := (hb.block g h.lt).trans h
/-! The cells of a block of so many, and that they may be written. -/
theorem Blk.c1 (h : Blk w g t #[a0]) : w.cell? ⟨g, 0, none⟩ = some a0 ∧ w.frozen? ⟨g, 0, none⟩ = false := ⟨(h.cell 0).trans rfl, h.frozen 0⟩
theorem Blk.c2 (h : Blk w g t #[a0, a1]) : w.cell? ⟨g, 0, none⟩ = some a0 ∧ w.cell? ⟨g, 1, none⟩ = some a1 ∧ w.frozen? ⟨g, 0, none⟩ = false ∧ w.frozen? ⟨g, 1, none⟩ = false := ⟨(h.cell 0).trans rfl, (h.cell 1).trans rfl, h.frozen 0, h.frozen 1⟩
theorem Blk.c3 (h : Blk w g t #[a0, a1, a2]) : w.cell? ⟨g, 0, none⟩ = some a0 ∧ w.cell? ⟨g, 1, none⟩ = some a1 ∧ w.cell? ⟨g, 2, none⟩ = some a2 ∧ w.frozen? ⟨g, 0, none⟩ = false ∧ w.frozen? ⟨g, 1, none⟩ = false ∧ w.frozen? ⟨g, 2, none⟩ = false := ⟨(h.cell 0).trans rfl, (h.cell 1).trans rfl, (h.cell 2).trans rfl, h.frozen 0, h.frozen 1, h.frozen 2⟩
theorem Blk.c5 (h : Blk w g t #[a0, a1, a2, a3, a4]) : w.cell? ⟨g, 0, none⟩ = some a0 ∧ w.cell? ⟨g, 1, none⟩ = some a1 ∧ w.cell? ⟨g, 2, none⟩ = some a2 ∧ w.cell? ⟨g, 3, none⟩ = some a3 ∧ w.cell? ⟨g, 4, none⟩ = some a4 ∧ w.frozen? ⟨g, 0, none⟩ = false ∧ w.frozen? ⟨g, 1, none⟩ = false ∧ w.frozen? ⟨g, 2, none⟩ = false ∧ w.frozen? ⟨g, 3, none⟩ = false ∧ w.frozen? ⟨g, 4, none⟩ = false := ⟨(h.cell 0).trans rfl, (h.cell 1).trans rfl, (h.cell 2).trans rfl, (h.cell 3).trans rfl, (h.cell 4).trans rfl, h.frozen 0, h.frozen 1, h.frozen 2, h.frozen 3, h.frozen 4⟩
theorem Blk.c6 {a5 : Value} (h : Blk w g t #[a0, a1, a2, a3, a4, a5]) : w.cell? ⟨g, 0, none⟩ = some a0 ∧ w.cell? ⟨g, 1, none⟩ = some a1 ∧ w.cell? ⟨g, 2, none⟩ = some a2 ∧ w.cell? ⟨g, 3, none⟩ = some a3 ∧ w.cell? ⟨g, 4, none⟩ = some a4 ∧ w.cell? ⟨g, 5, none⟩ = some a5 ∧ w.frozen? ⟨g, 0, none⟩ = false ∧ w.frozen? ⟨g, 1, none⟩ = false ∧ w.frozen? ⟨g, 2, none⟩ = false ∧ w.frozen? ⟨g, 3, none⟩ = false ∧ w.frozen? ⟨g, 4, none⟩ = false ∧ w.frozen? ⟨g, 5, none⟩ = false := ⟨(h.cell 0).trans rfl, (h.cell 1).trans rfl, (h.cell 2).trans rfl, (h.cell 3).trans rfl, (h.cell 4).trans rfl, (h.cell 5).trans rfl, h.frozen 0, h.frozen 1, h.frozen 2, h.frozen 3, h.frozen 4, h.frozen 5⟩
structure Besides (g : Nat) (w w' : World) : Prop where
 os : w'.os = w.os
 tape : w'.tape = w.tape
 output : w'.output = w.output
 size : w.heap.size ≤ w'.heap.size
 block : ∀ k, k < w.heap.size → k ≠ g → w'.heap[k]? = w.heap[k]?
theorem Besides.refl (g : Nat) (w : World) : Besides g w w := ⟨rfl, rfl, rfl, Nat.le_refl _, fun _ _ _ => rfl⟩
theorem Besides.trans {c : World} (h : Besides g a b) (k : Besides g b c) : Besides g a c :=
 ⟨k.os.trans h.os, k.tape.trans h.tape, k.output.trans h.output, Nat.le_trans h.size k.size, fun i hi hn => (k.block i (Nat.lt_of_lt_of_le hi h.size) hn).trans (h.block i hi hn)⟩
theorem Besides.of_below (h : Below a.heap.size a b) : Besides g a b := ⟨h.os, h.tape, h.output, h.size, fun k hk _ => h.block k hk⟩
theorem Besides.set_ (h : Besides g a b) (i : Nat) (v : Value) : Besides g a (b.setCell ⟨g, i, none⟩ v) :=
 ⟨h.os, h.tape, h.output, by rw [World.size_setCell]; exact h.size, fun k hk hn => by
  rw [show (b.setCell ⟨g, i, none⟩ v).heap[k]? = b.heap[k]? by simp [World.setCell, Array.getElem?_modify, Ne.symm hn]]
  exact h.block k hk hn⟩
theorem Besides.below (h : Besides g a b) (h1 : B ≤ g) (h2 : B ≤ a.heap.size) : Below B a b := ⟨h.os, h.tape, h.output, h.size, fun k hk => h.block k (by omega) (by omega)⟩
theorem own_besides {g0 : Nat} (h : w.ownsRow base e size v n xs) (hb : Besides g0 w w') (hg0 : g0 < base) : w'.ownsRow base e size v n xs := by
 refine ⟨h.1, ?_⟩
 rcases h.2 with h0 | ⟨g, cap, cur, rfl, hg, hh, r⟩
 ·exact .inl h0
 ·exact .inr ⟨g, cap, cur, rfl, hg, (hb.block g ((Array.getElem?_eq_some_iff.1 hh).1) (by omega)).trans hh, r⟩
theorem own_below (h : w.ownsRow base e size v n xs) (hb : Below w.heap.size w w') : w'.ownsRow base e size v n xs := by
 refine ⟨h.1, ?_⟩
 rcases h.2 with h0 | ⟨g, cap, cur, rfl, hg, hh, r⟩
 ·exact .inl h0
 ·exact .inr ⟨g, cap, cur, rfl, hg, (hb.block g ((Array.getElem?_eq_some_iff.1 hh).1)).trans hh, r⟩
theorem own_base {base' : Nat} (h : w.ownsRow base e size v n xs) (hb : base' ≤ base) : w.ownsRow base' e size v n xs := by
 refine ⟨h.1, ?_⟩
 rcases h.2 with h0 | ⟨g, cap, cur, rfl, hg, hh, r⟩
 ·exact .inl h0
 ·exact .inr ⟨g, cap, cur, rfl, Nat.le_trans hb hg, hh, r⟩
theorem own_nil : w.ownsRow base e size (.slice none 0 0) 0 [] := ⟨by simp, .inl ⟨rfl, rfl⟩⟩
theorem below_append {w1 w2 : World} (h : Below B w w1) (hown : w1.ownsRow base e size v n xs) (hB : B ≤ base) (hw : B ≤ w.heap.size) (hg : w1.grownBy w2 v.ownBlock) : Below B w w2 :=
 h.grown hg (Nat.le_trans hw h.size) (fun k e => by have := (hown.lt k e).1; omega)
theorem own_cells (h : w.ownsRow base e size v n xs) {k : Nat} (hk : v.ownBlock = some k) {o : Obj} (ho : w.heap[k]? = some o) : o.isCells = true := by
 rcases h.2 with ⟨rfl, -⟩ | ⟨g, cap, cur, rfl, -, hh, -⟩
 ·cases hk
 ·injection hk with hk
  have hk : g = k := hk
  rw [hk, ho] at hh
  injection hh with hh
  rw [hh]; rfl
theorem own_form (h : w.ownsRow base e size v n xs) : ∃ A c, v = .slice A n c := by
 rcases h.2 with ⟨rfl, rfl⟩ | ⟨g, cap, cur, rfl, -⟩
 ·exact ⟨none, 0, rfl⟩
 ·exact ⟨_, _, rfl⟩
theorem own_other {A B : World} {row : Option Nat} (h : A.ownsRow base e size v n xs) (hg : A.grownBy B row) (hr : ∀ r, row = some r → ∃ o : Obj, A.heap[r]? = some o ∧ o.isCells = false) : B.ownsRow base e size v n xs := by
 refine h.kept hg ?_
 rcases h.2 with ⟨rfl, -⟩ | ⟨g, cap, cur, rfl, -, hh, -⟩
 ·exact .inl rfl
 ·refine .inr (fun e => ?_)
  obtain ⟨o, h10, h11⟩ := hr g e.symm
  rw [hh] at h10
  injection h10 with h10
  subst h10
  cases h11
theorem new_cells (w : World) (cs : List Value) (t : TypeId) : ∀ j u, cs[j]? = some u → (w.alloc (.cells cs.toArray t)).cell? ((⟨w.heap.size, 0, none⟩ : Addr).add j) = some u := by
 intro j u h
 have ha : (⟨w.heap.size, 0, none⟩ : Addr).add j = ⟨w.heap.size, j, none⟩ := by unfold Addr.add; split <;> simp
 rw [ha, (Blk.new_ w t cs.toArray).cell j]
 simpa using h
theorem boxed_kept' {W W' : World} (h : Boxed W B t v) (hb : W'.heap[B]? = W.heap[B]?) : Boxed W' B t v := hb.trans h
end Go.Proofs.YtmebjdbkngehiaaGreatDoor
namespace Go.Proofs.YtmebjdbkngehiaaGreatDoor
open Go.RowKit Go.Lib
variable {w : World} {base n c g : Nat} {A : Option Addr} {l : List UInt8}
theorem infoB8 : (Tryz.prog.info? 5).map (fun i => (i.zero, i.size, i.bytes)) = some (some (.int .u8 0), 1, 1) := by kernel_rfl
def Bs (w : World) (base : Nat) (A : Option Addr) (n c : Nat) (l : List UInt8) : Prop :=
 l.length = n ∧ n ≤ c ∧ c ≤ maxLen ∧ ((A = none ∧ c = 0) ∨ ∃ g cur, A = some ⟨g, 0, none⟩ ∧ base ≤ g ∧ w.heap[g]? = some (.cells cur 5 (0, 0)) ∧ c ≤ cur.size ∧ cur.toList.take n = strCells ⟨l.toArray⟩)
theorem strCells_mk (l : List UInt8) : strCells ⟨l.toArray⟩ = l.map fun b => Value.int .u8 (b.toNat : Int) := by simp [strCells]
theorem Bs.none_ (w : World) (base : Nat) : Bs w base none 0 0 [] := ⟨rfl, Nat.le_refl _, Nat.zero_le _, .inl ⟨rfl, rfl⟩⟩
theorem Bs.narrow (h : Bs w base A n c l) : Bs w base A n n l := by
 obtain ⟨h1, h2, h3, h4⟩ := h
 refine ⟨h1, Nat.le_refl _, by omega, ?_⟩
 rcases h4 with ⟨rfl, rfl⟩ | ⟨g, cur, rfl, h5, h6, h7, h8⟩
 ·exact .inl ⟨rfl, by omega⟩
 ·exact .inr ⟨g, cur, rfl, h5, h6, by omega, h8⟩
theorem Bs.base_ {base' : Nat} (h : Bs w base A n c l) (hb : base' ≤ base) : Bs w base' A n c l := by
 obtain ⟨h1, h2, h3, h4⟩ := h
 refine ⟨h1, h2, h3, ?_⟩
 rcases h4 with h4 | ⟨g, cur, rfl, h5, h6, h7, h8⟩
 ·exact .inl h4
 ·exact .inr ⟨g, cur, rfl, by omega, h6, h7, h8⟩
theorem Bs.cells (h : Bs w base (some ⟨g, 0, none⟩) n c l) : ∀ (j : Nat) (u : Value), (strCells ⟨l.toArray⟩)[j]? = some u → w.cell? ((⟨g, 0, none⟩ : Addr).add j) = some u := by
 obtain ⟨h1, h2, h3, h4⟩ := h
 rcases h4 with ⟨h4, -⟩ | ⟨g', cur, h4, h5, h6, h7, h8⟩
 ·cases h4
 ·injection h4 with h4
  injection h4 with h4
  subst h4
  intro j u hu
  rw [← h8] at hu
  have hj : j < n := by
   rcases Nat.lt_or_ge j n with hlt | hge
   ·exact hlt
   ·rw [List.getElem?_eq_none (by rw [List.length_take]; omega)] at hu; cases hu
  rw [List.getElem?_take, if_pos hj] at hu
  have ha : (⟨g, 0, none⟩ : Addr).add j = ⟨g, j, none⟩ := by unfold Addr.add; split <;> simp
  rw [ha, cell_of_row w g j cur _ _ h6]
  simpa using hu
theorem conv_bs (h : Bs w base A n c l) : (convert 36 9 (.slice A n c)).run Tryz.prog w = .ok (.string ⟨l.toArray⟩) w := by
 have h' := h
 obtain ⟨rfl, h2, h3, h4⟩ := h
 rcases h4 with ⟨rfl, rfl⟩ | ⟨g, cur, rfl, h5, h6, h7, h8⟩
 ·obtain rfl : l = [] := List.eq_nil_of_length_eq_zero (by omega)
  have e : (convert 36 9 (.slice none 0 0)).run Tryz.prog w = .ok (.string ⟨#[]⟩) w := by kernel_rfl
  exact e
 ·refine run_convert_bytes_back (P := Tryz.prog) w 36 9 5 ⟨g, 0, none⟩ c l Tryz.underlying36 Tryz.underlying5 Tryz.underlying9 (fun j hj => ?_)
  refine h'.cells j _ ?_
  rw [strCells_mk, List.getElem?_map, List.getElem?_eq_getElem hj]
  rfl
theorem setRow_same {cur : Array Value} {t : TypeId} {fr : Nat × Nat} (h : w.heap[g]? = some (.cells cur t fr)) : w.setRow g cur = w := by
 have : (w.setRow g cur).heap = w.heap := by
  apply Array.ext_getElem?
  intro i
  unfold World.setRow
  rw [Array.getElem?_modify]
  by_cases hi : g = i
  ·subst hi
   rw [if_pos rfl, h]
   rfl
  ·rw [if_neg hi]
 have e : w.setRow g cur = { w with heap := (w.setRow g cur).heap } := rfl
 rw [e, this]
theorem bs_of_own {V : Value} (h : w.ownsRow base 5 1 V n (strCells ⟨l.toArray⟩)) : ∃ A c, V = .slice A n c ∧ Bs w base A n c l := by
 obtain ⟨h1, h2⟩ := h
 have hl : l.length = n := by rw [strCells_mk] at h1; simpa using h1
 rcases h2 with ⟨rfl, rfl⟩ | ⟨g, cap, cur, rfl, h3, h4, h5, h6, h7, h8⟩
 ·exact ⟨none, 0, rfl, hl, Nat.le_refl _, Nat.zero_le _, .inl ⟨rfl, rfl⟩⟩
 ·exact ⟨_, cap, rfl, hl, h5, h6, .inr ⟨g, cur, rfl, h3, h4, by omega, by rw [← h8, Nat.mul_one]⟩⟩
theorem strCells_append (l m : List UInt8) : strCells ⟨l.toArray⟩ ++ strCells ⟨m.toArray⟩ = strCells ⟨(l ++ m).toArray⟩ := by
 rw [strCells_mk, strCells_mk, strCells_mk, List.map_append]
theorem strCells_of (s : ByteArray) : strCells s = strCells ⟨s.data.toList.toArray⟩ := by simp
theorem run_append_full (h : Bs w base A n n l) (s : ByteArray) (ty : TypeId) (hs : n + s.size ≤ 140737488355328) (hbase : base ≤ w.heap.size) :
  ∃ A' c' w', (Builtin.append_ #[36, 9] ty #[.slice A n n, .string s]).run Tryz.prog w = .ok (.slice A' (n + s.size) c') w' ∧ Bs w' base A' (n + s.size) c' (l ++ s.data.toList) ∧ Below w.heap.size w w' := by
 obtain ⟨i0, hi0, hz0, hz1, hz2⟩ := info_parts infoB8
 have h' := h
 obtain ⟨h1, h2, h3, h4⟩ := h
 rcases h4 with ⟨rfl, rfl⟩ | ⟨g, cur, rfl, h5, h6, h7, h8⟩
 ·obtain rfl : l = [] := List.eq_nil_of_length_eq_zero (by omega)
  obtain ⟨v', w', hr, k1, k2, k3⟩ := run_append_own_string (P := Tryz.prog) w w.heap.size 36 9 ty 5 i0 Tryz.underlying36 Tryz.underlying9 hi0 hz0 hz1 hz2 (.slice none 0 0) 0 [] ⟨by simp, .inl ⟨rfl, rfl⟩⟩ s (by unfold maxLen; omega) (by omega) (Nat.le_refl _)
  rw [List.nil_append, strCells_of] at k1
  obtain ⟨A', c', rfl, k4⟩ := bs_of_own k1
  exact ⟨A', c', w', hr, by simpa using k4.base_ hbase, ⟨k2.os, k2.tape, k2.output, k2.size, fun k hk => k2.block k hk (by simp [Value.ownBlock])⟩⟩
 ·by_cases h0 : s.size = 0
  ·have hr := run_append_room_string (P := Tryz.prog) w 36 9 ty 5 i0 Tryz.underlying36 Tryz.underlying9 hi0 hz1 g n n cur h6 s (by omega) (by omega)
   have hsn : strCells s = [] := List.eq_nil_of_length_eq_zero (by rw [strCells_length, h0])
   have hsl : s.data.toList = [] := List.eq_nil_of_length_eq_zero (by rw [Array.length_toList]; exact h0)
   rw [hsn, h0, List.append_nil, Nat.add_zero, List.take_append_drop, Array.toArray_toList, setRow_same h6] at hr
   refine ⟨_, _, w, by rw [h0, Nat.add_zero]; exact hr, ?_, Below.refl _ _⟩
   rw [hsl, List.append_nil, h0, Nat.add_zero]
   exact h'
  ·have hr := run_append_grow_string (P := Tryz.prog) w 36 9 ty 5 i0 (.int .u8 0) Tryz.underlying36 Tryz.underlying9 hi0 hz0 ⟨g, 0, none⟩ n n (strCells ⟨l.toArray⟩) (by rw [strCells_length, hz1, Nat.mul_one]; show l.toArray.size = n; simpa using h1) h'.cells s (by omega) (by omega) (by rw [hz2]; exact growslice_fits (by omega) (by omega))
   have hg := grownCap_ge w (n + s.size) n 5
   have hm := grownCap_le_maxLen w (n + s.size) n 5 (by unfold maxLen; omega)
   generalize grownCap w (n + s.size) n 5 = c' at *
   refine ⟨_, c', _, hr, ⟨by rw [List.length_append, Array.length_toList]; exact congrArg (· + s.size) h1, hg, hm, .inr ⟨w.heap.size, _, rfl, hbase, World.alloc_heap_new w.drew _, ?_, ?_⟩⟩, (Below.refl _ w).drew.alloc (Nat.le_refl _) _⟩
   ·rw [Array.size_append, Array.size_append, size_zeroCells, List.size_toArray, List.size_toArray, strCells_length, strCells_length]
    have e1 : (⟨l.toArray⟩ : ByteArray).size = n := by show l.toArray.size = n; simpa using h1
    have e2 : (Value.int .u8 0).cells.size = 1 := rfl
    rw [e1, e2]
    omega
   ·rw [Array.toList_append, Array.toList_append, List.append_assoc]
    have e1 : (strCells (⟨l.toArray⟩ : ByteArray)).length = n := by rw [strCells_length]; show l.toArray.size = n; simpa using h1
    rw [← List.append_assoc]
    rw [List.take_append_of_le_length (by rw [List.length_append]; simp only [strCells_length] at e1 ⊢; omega), List.take_of_length_le (by rw [List.length_append]; simp only [strCells_length] at e1 ⊢; omega)]
    rw [strCells_of s, strCells_append]
theorem wpList_append_full {ops : Array Oper} {rest : List Oper} {o : Oper} {a : Act} {Q : Exit → Act → World → Prop} (hgd : o.guard = none) (sl x : Operand)
  (ho : o.op = .call { callee := .builtin .append, args := #[sl, x], argTypes := #[36, 9] })
  (base : Nat) (A : Option Addr) (n : Nat) (l : List UInt8) (s : ByteArray) (hs : a.eval sl = .slice A n n) (hx : a.eval x = .string s) (hB : Bs w base A n n l) (hb : n + s.size ≤ 140737488355328) (hbase : base ≤ w.heap.size)
  (h : ∀ A' c' w', Bs w' base A' (n + s.size) c' (l ++ s.data.toList) → Below w.heap.size w w' → wpList Tryz.prog ops Q rest (a.put o.dst (.slice A' (n + s.size) c')) w') : wpList Tryz.prog ops Q (o :: rest) a w := by
 refine wpList_plain hgd fun K hK => ?_
 obtain ⟨A', c', w', hr, h2, h3⟩ := run_append_full hB s o.type hb hbase
 unfold Oper.wp execOp
 simp only [ho, resolve, invoke, builtin, Sem.run_bind, Sem.run_pure, Result.andThen_ok, List.map_toArray, List.map_cons, List.map_nil, hs, hx, hr]
 exact hK _ _ (h A' c' w' h2 h3)
def RdS (w : World) (A : Option Addr) (ss : List ByteArray) : Prop := 0 < ss.length → ∃ a, A = some a ∧ a.block < w.heap.size ∧ ∀ (i : Nat) (h : i < ss.length), w.cell? (a.add i) = some (.string ss[i])
theorem rdS_at {W : World} (ss : List ByteArray) (h : g = W.heap.size) : RdS (W.alloc (.cells (ss.map Value.string).toArray 9)) (some ⟨g, 0, none⟩) ss := by
 subst h
 refine fun _ => ⟨_, rfl, by simp, fun i hi => ?_⟩
 have ha : (⟨W.heap.size, 0, none⟩ : Addr).add i = ⟨W.heap.size, i, none⟩ := by unfold Addr.add; split <;> simp
 rw [ha, (Blk.new_ W 9 (ss.map Value.string).toArray).cell i]
 simp [List.getElem?_eq_getElem hi]
def catL (ss : List ByteArray) : List UInt8 := ss.flatMap fun s => s.data.toList
theorem catL_snoc (ss : List ByteArray) (s : ByteArray) : catL (ss ++ [s]) = catL ss ++ s.data.toList := by simp [catL]
theorem catL_append (a b : List ByteArray) : catL (a ++ b) = catL a ++ catL b := by simp [catL]
theorem catL_take_le (ss : List ByteArray) (k : Nat) : (catL (ss.take k)).length ≤ (catL ss).length := by
 have e : catL ss = catL (ss.take k) ++ catL (ss.drop k) := by rw [← catL_append, List.take_append_drop]
 rw [e, List.length_append]
 omega
end Go.Proofs.YtmebjdbkngehiaaGreatDoor
namespace Go.Proofs.YtmebjdbkngehiaaGreatDoor
open Go.RowKit
theorem wp_scope_once {P : Program} {a : Act} {w : World} {Q : Exit → Act → World → Prop} {c rest : Code} (l : Nat) (hf : findLabel c l = some rest)
  (first : c.wp P (Exit.jump l (fun a w => rest.wp P (Exit.noGoto Q) a w) Q) a w) : (Code.scope c).wp P Q a w :=
 wp_scope_jumps l (fun a w => rest.wp P (Exit.noGoto Q) a w) (fun _ _ => 0) hf first (fun _ _ h => Code.wp_mono (fun e a w hq => by
  cases e with
  | goto l => exact (hq : False).elim
  | _ => exact hq) h)
section
variable {F : Fence} {n : Nat} {P : Program} {ops : Array Oper} {rest : List Oper} {o : Oper} {a : Act} {w : World} {Q : Exit → Act → World → Prop}
theorem listIn_load_mid (hg : o.guard = none) (ty : TypeId) (x : Operand) (ho : o.op = .load ty x) (b k : Nat) (hx : a.eval x = .pointer (some ⟨b, k, none⟩)) (cs : List Value) (d : TypeDesc) (hc : w.rangeAt b k cs)
  (hu : P.underlying ty = some d) (hd : d.isRow = true) (hi : (P.info? ty).map (·.size) = some cs.length)
  (h : wpListIn F n P ops Q rest (a.put o.dst (.agg cs.toArray)) w) : wpListIn F n P ops Q (o :: rest) a w := by
 refine wpListIn_plain hg fun K hK => ?_
 unfold Oper.wpIn
 refine ⟨by simp [Oper.about, ho], ?_⟩
 rw [Oper.semAt_plain F _ _ (by rw [ho]; intro c hc'; cases hc')]
 simp only [execOp, ho, hx, Instr.loadAt, Instr.sureAddr, Sem.run_bind, Sem.run_pure, Result.andThen_ok, run_loadVar_mid w b k ty cs d hc hu hd hi]
 exact hK _ _ h
theorem listIn_new_row (hg : o.guard = none) (ty : TypeId) (ho : o.op = .alloc ty) (i : TypeInfo) (c0 : Array Value) (hi : P.info? ty = some i) (hz : i.zero = some (.agg c0))
  (h : wpListIn F n P ops Q rest (a.put o.dst (.pointer (some ⟨w.heap.size, 0, none⟩))) (w.alloc (.cells c0 ty))) : wpListIn F n P ops Q (o :: rest) a w := by
 refine wpListIn_plain hg fun K hK => ?_
 unfold Oper.wpIn
 refine ⟨by simp [Oper.about, ho], ?_⟩
 rw [Oper.semAt_plain F _ _ (by rw [ho]; intro c hc'; cases hc')]
 have hr : (Instr.alloc ty true (.tuple #[])).run P w = .ok (.pointer (some ⟨w.heap.size, 0, none⟩)) (w.alloc (.cells c0 ty)) := by
  simp [Instr.alloc, zeroValue, typeInfo, hi, hz, newVar, newRow, Value.cells]
 simp only [execOp, ho, Sem.run_bind, Sem.run_pure, Result.andThen_ok, hr]
 exact hK _ _ h
theorem listIn_store_new (hg : o.guard = none) (ty : TypeId) (x y : Operand) (ho : o.op = .store ty x y) (c0 c : Array Value) (hx : a.eval x = .pointer (some ⟨w.heap.size, 0, none⟩)) (hy : a.eval y = .agg c)
  (hi : (P.info? ty).map (·.size) = some c.size) (hs : c0.size = c.size) (h1 : c.all (·.oneCell') = true)
  (h : wpListIn F n P ops Q rest (a.put o.dst undef) (w.alloc (.cells c ty))) : wpListIn F n P ops Q (o :: rest) a (w.alloc (.cells c0 ty)) := by
 refine wpListIn_plain hg fun K hK => ?_
 unfold Oper.wpIn
 refine ⟨by simp [Oper.about, ho], ?_⟩
 rw [Oper.semAt_plain F _ _ (by rw [ho]; intro c hc'; cases hc')]
 simp only [execOp, ho, hx, hy, Sem.run_bind, run_storeAt_new w ty c0 c hi hs h1, Sem.run_pure, Result.andThen_ok]
 exact hK _ _ h
end
theorem sCellsE : Tryz.prog.cellsOf 319 = 1 := by kernel_rfl
theorem sCellsS : Tryz.prog.cellsOf 9 = 1 := by kernel_rfl
theorem sStar : "*" ++ "errors.errorString" = "*errors.errorString" := by decide
theorem sRow (u : TypeId) (h : Tryz.prog.typeName? 3 u = some "*errors.errorString") : u = 301 :=
 typeName_ptr_named (nm := "errors.errorString") (by rw [sStar]; kernel_rfl) (by kernel_rfl) (by decide) u (by rw [sStar]; exact h)
set_option maxRecDepth 100000 in
theorem sent_of_vars {W : World} : ∀ (l : List (String × Nat × List UInt8)) (ps : List MemPlace),
  DataW.LaidVars Tryz.prog W (l.map fun x => (x.1, .iface "*errors.errorString" (.ptr (.agg [.lit (.string x.2.2)])))) ps → ps.Nodup →
  (∀ b off, MemPlace.cell b off ∈ ps → (∃ c t, W.heap[b]? = some (.cells c t (0, 0))) ∧ ∀ u v, W.cell? ⟨b, off, none⟩ = some (.iface u v) → Value.okWide Tryz.prog W .any 0 u v) →
  (∀ x ∈ l, Tryz.prog.globalNamed x.1 = some x.2.1 ∧ (Tryz.prog.globals[x.2.1]?).map (·.type) = some 95) →
  ∃ av : List Addr, av.length = l.length ∧ av.Nodup ∧ (∀ a ∈ av, MemPlace.cell a.block a.off ∈ ps) ∧
   ∀ g a, (g, a) ∈ (l.map (·.2.1)).zip av → W.cell? ⟨g, 0, none⟩ = some (ErrV a) ∧ Plain W a
 | [], ps, _, _, _, _ => ⟨[], rfl, List.nodup_nil, fun a h => (by cases h), fun g a h => (by simp at h)⟩
 | x :: l, ps, h, hnd, hrows, hg => by
  obtain ⟨g0, t0, cs0, f0, p0, q0, hg0, ht0, hv0, hd0, hq0, e0⟩ := h
  obtain ⟨hgx, htx⟩ := hg x (List.mem_cons_self ..)
  obtain rfl := Option.some.inj (hgx.symm.trans hg0)
  obtain rfl := Option.some.inj (htx.symm.trans ht0)
  subst e0
  obtain ⟨l0⟩ := cs0
  have ok0 : ∀ u v, l0 = [.iface u v] → Value.okWide Tryz.prog W .any 0 u v := fun u v e => by
   subst e
   exact (hrows x.2.1 0 (by simp [MemPlace.row])).2 u v (by simpa using World.var?_cell hg0 hv0 0)
  obtain ⟨a0, s0, rfl, hc0, hs0, hz0, rfl⟩ := errorString_of_trod Tryz.underlying95 sRow Tryz.underlying301 Tryz.underlying319 rfl rfl Tryz.underlying9 sCellsE sCellsS hd0 ok0
  obtain ⟨av, h1, h2, h3, h4⟩ := sent_of_vars l q0 hq0 (List.Nodup.sublist (List.sublist_append_right _ _) hnd) (fun b off hm => hrows b off (List.mem_append_right _ hm)) (fun y hy => hg y (List.mem_cons_of_mem _ hy))
  have hb0 := (hrows a0.block a0.off (by simp [MemPlace.row])).1
  refine ⟨a0 :: av, by simp [h1], List.nodup_cons.2 ⟨fun hm => ?_, h2⟩, ?_, ?_⟩
  ·have hp := h3 a0 hm
   rw [List.nodup_append] at hnd
   exact hnd.2.2 _ (show MemPlace.cell a0.block a0.off ∈ _ by simp [MemPlace.row]) _ hp rfl
  ·intro a ha
   rcases List.mem_cons.1 ha with rfl | ha
   ·simp [MemPlace.row]
   ·exact List.mem_append_right _ (h3 a ha)
  ·intro g a hm
   rw [List.map_cons, List.zip_cons_cons, List.mem_cons] at hm
   rcases hm with e | hm
   ·obtain ⟨rfl, rfl⟩ := Prod.mk.inj e
    obtain ⟨c, t, hb⟩ := hb0
    exact ⟨by simpa [ErrV] using World.var?_cell hg0 hv0 0, c, t, hb⟩
   ·exact h4 g a hm
end Go.Proofs.YtmebjdbkngehiaaGreatDoor
namespace Go.Proofs.YtmebjdbkngehiaaGreatDoor
open Go.RowKit Go.WideShapes Go.ChangeShapes Go.Deep
variable {P : Program} {t e : TypeId} {w W : World} {base fuel n : Nat} {sp : Nat → Bool} {held : Bool} {fs : Array Field} {cs : List Value} {p : List MemPlace} {rows : List (List Int)}
def isI64 (P : Program) (t : TypeId) : Bool := match P.underlying t with
 | some (.int .i64) => true
 | _ => false
theorem isI64_of (h : isI64 P t = true) : P.underlying t = some (.int .i64) := by
 unfold isI64 at h
 split at h
 ·assumption
 ·cases h
def rowsData (rows : List (List Int)) : DataW Unit := .agg (rows.map fun r => .agg (r.map fun n => .lit (.int .i64 n)))
theorem ints_of_struct {zs : List Int}
  (ht : P.underlying t = some (.struct fs)) (hone : oneCellFields P fs = true) (hint : (fs.toList.all fun f => isI64 P f.type) = true)
  (h : DataW.trod (fun _ => ()) P w base sp held fuel t cs = some (.agg (zs.map fun n => .lit (.int .i64 n)), p)) : ∀ (j : Nat) (z : Int), zs[j]? = some z → cs[j]? = some (.int .i64 z) := by
 obtain ⟨xs, n, _, hx, hcs, hlen, hf⟩ := DataW.trod_struct ht h
 intro j z hz
 have hxs : xs.map (·.1) = zs.map fun n => (DataW.lit (.int .i64 n) : DataW Unit) := by
  have := congrArg Prod.fst hx
  simpa using this.symm
 have hzl : zs.length = fs.size := by have := congrArg List.length hxs; simp at this; omega
 have hj : j < fs.size := by rw [← hzl]; exact (List.getElem?_eq_some_iff.1 hz).1
 have hfj : fs[j]? = some fs[j] := Array.getElem?_eq_getElem hj
 obtain ⟨ho, hk⟩ := hone_of hone j _ hfj
 have hi : P.underlying fs[j].type = some (.int .i64) := isI64_of (List.all_eq_true.1 hint fs[j] (by simp))
 have h1 := hf j _ hfj
 rw [ho, hk] at h1
 have hxj : xs[j]? = some (xs[j]'(by omega)) := List.getElem?_eq_getElem (by omega)
 rw [hxj] at h1
 obtain ⟨m, hc, he, _⟩ := DataW.trod_int hi h1
 have h2 : (xs.map (·.1))[j]? = some (DataW.lit (.int .i64 m) : DataW Unit) := by rw [List.getElem?_map, hxj, he]; rfl
 rw [hxs, List.getElem?_map, hz] at h2
 simp only [Option.map_some, Option.some.injEq, DataW.lit.injEq, Lit.int.injEq, true_and] at h2
 subst h2
 have := congrArg (fun l : List Value => l[0]?) hc
 simpa [List.getElem?_take, List.getElem?_drop] using this
theorem cells_of_rows
  (ht : P.underlying t = some (.array n e)) (he : P.underlying e = some (.struct fs)) (hone : oneCellFields P fs = true) (hint : (fs.toList.all fun f => isI64 P f.type) = true)
  (h : DataW.trod (fun _ => ()) P w base sp held fuel t cs = some (rowsData rows, p)) : ∀ (i j : Nat) (r : List Int) (z : Int), rows[i]? = some r → r[j]? = some z → j < P.cellsOf e → cs[i * P.cellsOf e + j]? = some (.int .i64 z) := by
 obtain ⟨xs, m, _, hx, hcs, hlen, hf⟩ := DataW.trod_array ht h
 intro i j r z hr hz hje
 have hxs : xs.map (·.1) = rows.map fun r => (DataW.agg (r.map fun n => .lit (.int .i64 n)) : DataW Unit) := by
  have := congrArg Prod.fst hx
  simpa [rowsData] using this.symm
 have hl : rows.length = n := by have := congrArg List.length hxs; simp at this; omega
 have hi : i < n := by rw [← hl]; exact (List.getElem?_eq_some_iff.1 hr).1
 have hxi : xs[i]? = some (xs[i]'(by omega)) := List.getElem?_eq_getElem (by omega)
 have h1 := hf i hi
 rw [hxi] at h1
 have h2 : (xs.map (·.1))[i]? = some (xs[i]'(by omega)).1 := by rw [List.getElem?_map, hxi]; rfl
 rw [hxs, List.getElem?_map, hr] at h2
 simp only [Option.map_some, Option.some.injEq] at h2
 have h3 : DataW.trod (fun _ => ()) P w base sp held m e ((cs.drop (i * P.cellsOf e)).take (P.cellsOf e)) = some (.agg (r.map fun n => .lit (.int .i64 n)), (xs[i]'(by omega)).2) := by rw [h1, h2]
 have h4 := ints_of_struct he hone hint h3 j z hz
 rw [List.getElem?_take, if_pos hje, List.getElem?_drop] at h4
 exact h4
theorem rows_of_laid {name : String} {L : List (String × DataW Unit)} {g : Nat}
  (hL : L.filter (fun x => x.1 == name) = [(name, rowsData rows)]) (hp : (L.all fun x => x.2.handleName?.isNone) = true) (h : laidMetH P L W)
  (hg : P.globalNamed name = some g) (hty : (P.globals[g]?).map (·.type) = some t)
  (ht : P.underlying t = some (.array n e)) (he : P.underlying e = some (.struct fs)) (hone : oneCellFields P fs = true) (hint : (fs.toList.all fun f => isI64 P f.type) = true) :
  ∀ (i j : Nat) (r : List Int) (z : Int), rows[i]? = some r → r[j]? = some z → j < P.cellsOf e → W.cell? ⟨g, i * P.cellsOf e + j, none⟩ = some (.int .i64 z) := by
 rw [MakeChecks.laidMetH_plain _ _ _ hp] at h
 have h := laidMet.filter (fun x => x.1 == name) h
 rw [hL] at h
 obtain ⟨ps, ⟨g', t', cs, fuel, p, q, hg', ht', hvar, hd, _, _⟩, _⟩ := h
 obtain rfl := Option.some.inj (hg.symm.trans hg')
 obtain rfl := Option.some.inj (hty.symm.trans ht')
 intro i j r z hr hz hj
 have h1 := cells_of_rows ht he hone hint hd i j r z hr hz hj
 rw [World.var?_cell hg hvar]
 simpa using h1
theorem sent_of_laid_among (keep : String × DataW Unit → Bool) (l : List (String × Nat × List UInt8)) (L : List (String × DataW Unit)) (hL : L.filter keep = l.map fun x => (x.1, .iface "*errors.errorString" (.ptr (.agg [.lit (.string x.2.2)]))))
  (hp : (L.all fun x => x.2.handleName?.isNone) = true) (h : laidMetH Tryz.prog L W) (hg : ∀ x ∈ l, Tryz.prog.globalNamed x.1 = some x.2.1 ∧ (Tryz.prog.globals[x.2.1]?).map (·.type) = some 95) :
  ∃ av : List Addr, av.length = l.length ∧ av.Nodup ∧ ∀ g a, (g, a) ∈ (l.map (·.2.1)).zip av → W.cell? ⟨g, 0, none⟩ = some (ErrV a) ∧ Plain W a := by
 rw [MakeChecks.laidMetH_plain _ _ _ hp] at h
 have h := laidMet.filter keep h
 rw [hL] at h
 obtain ⟨ps, h1, h2, h3⟩ := h
 obtain ⟨av, k1, k2, _, k4⟩ := sent_of_vars l ps h1 h2 h3 hg
 exact ⟨av, k1, k2, k4⟩
end Go.Proofs.YtmebjdbkngehiaaGreatDoor
namespace Go.Proofs.YtmebjdbkngehiaaGreatDoor
open Go.RowKit
variable {P : Program} {md : Region.Mode} {ops : Array Oper} {Q : Exit → Act → World → Prop} {S : World → Prop} {i fuel : Nat} {oi : Oper} {v : Value} {listed : Array Bool} {a : Act} {w : World}
theorem wpAnyH_takeD (d : Option Tmp) (hi : ops[i]? = some oi) (hd : oi.dst = d)
  (hs : Region.noSelect ops = true) (hf : Region.free md ops listed i = true) (hr : (Region.ready md ops listed).contains i = true)
  (hQ : ∀ c a w, Q (.panic c) (a.put d v) w → Q (.panic c) a w) (hy : YieldsIf P ops S oi v a) (hS : S w)
  (h : wpAnyH P md ops Q S fuel (listed.setIfInBounds i true) (a.put d v) w) : wpAnyH P md ops Q S (fuel + 1) listed a w := by
 subst hd
 exact wpAnyH_take hi hs hf hr hQ hy hS h
theorem wpAnyH_tk (d : Option Tmp) (hi : ops[i]? = some oi) (hd : oi.dst = d)
  (hy : ∀ w, S w → (execOp a.eval oi).run P w = .ok (.value v) w) (h : wpAnyH P md ops Q S fuel (listed.setIfInBounds i true) (a.put d v) w)
  (hs : Region.noSelect ops = true := by kernel_rfl) (hf : Region.free md ops listed i = true := by kernel_rfl) (hr : (Region.ready md ops listed).contains i = true := by kernel_rfl)
  (hQ : ∀ c a w, Q (.panic c) (a.put d v) w → Q (.panic c) a w := by exact fun _ _ _ h => h) (hw : Region.wanted oi (yielded ops a.tmps) = true := by kernel_rfl) (hS : S w := by assumption) : wpAnyH P md ops Q S (fuel + 1) listed a w :=
 wpAnyH_takeD d hi hd hs hf hr hQ (Or.inl ⟨hw, hy⟩) hS h
theorem wpAnyH_no (d : Option Tmp) (hi : ops[i]? = some oi) (hd : oi.dst = d) (h : wpAnyH P md ops Q S fuel (listed.setIfInBounds i true) (a.put d undef) w)
  (hs : Region.noSelect ops = true := by kernel_rfl) (hf : Region.free md ops listed i = true := by kernel_rfl) (hr : (Region.ready md ops listed).contains i = true := by kernel_rfl)
  (hQ : ∀ c a w, Q (.panic c) (a.put d undef) w → Q (.panic c) a w := by exact fun _ _ _ h => h) (hw : Region.wanted oi (yielded ops a.tmps) = false := by kernel_rfl) (hS : S w := by assumption) : wpAnyH P md ops Q S (fuel + 1) listed a w :=
 wpAnyH_takeD d hi hd hs hf hr hQ (Or.inr ⟨hw, rfl⟩) hS h
theorem tk_ (i : Nat) (d : Tmp) {oi : Oper} {v : Value} (hi : ops[i]? = some oi) (hd : oi.dst = some d)
  (h : wpAnyH P md ops Q S fuel (listed.setIfInBounds i true) (a.put (some d) v) w) (hy : ∀ w, S w → (execOp a.eval oi).run P w = .ok (.value v) w := by intro wx hSx; go_simp; try with_reducible rfl)
  (hs : Region.noSelect ops = true := by kernel_rfl) (hf : Region.free md ops listed i = true := by kernel_rfl) (hr : (Region.ready md ops listed).contains i = true := by kernel_rfl)
  (hQ : ∀ c a w, Q (.panic c) (a.put (some d) v) w → Q (.panic c) a w := by exact fun _ _ _ h => h) (hw : Region.wanted oi (yielded ops a.tmps) = true := by kernel_rfl) (hS : S w := by assumption) : wpAnyH P md ops Q S (fuel + 1) listed a w :=
 wpAnyH_takeD (some d) hi hd hs hf hr hQ (Or.inl ⟨hw, hy⟩) hS h
theorem wt_ (i : Nat) {oi : Oper} {v : Value} (hi : ops[i]? = some oi)
  (h : wpAnyH P md ops Q S fuel (listed.setIfInBounds i true) (a.put oi.dst v) w) (hy : ∀ w, S w → (execOp a.eval oi).run P w = .ok (.value v) w := by intro wx hSx; go_simp; try with_reducible rfl)
  (hs : Region.noSelect ops = true := by kernel_rfl) (hf : Region.free md ops listed i = true := by kernel_rfl) (hr : (Region.ready md ops listed).contains i = true := by kernel_rfl)
  (hQ : ∀ c a w, Q (.panic c) (a.put oi.dst v) w → Q (.panic c) a w := by exact fun _ _ _ h => h) (hw : Region.wanted oi (yielded ops a.tmps) = true := by kernel_rfl) (hS : S w := by assumption) : wpAnyH P md ops Q S (fuel + 1) listed a w :=
 wpAnyH_take hi hs hf hr hQ (Or.inl ⟨hw, hy⟩) hS h
theorem wn_ (i : Nat) {oi : Oper} (hi : ops[i]? = some oi)
  (h : wpAnyH P md ops Q S fuel (listed.setIfInBounds i true) (a.put oi.dst undef) w)
  (hs : Region.noSelect ops = true := by kernel_rfl) (hf : Region.free md ops listed i = true := by kernel_rfl) (hr : (Region.ready md ops listed).contains i = true := by kernel_rfl)
  (hQ : ∀ c a w, Q (.panic c) (a.put oi.dst undef) w → Q (.panic c) a w := by exact fun _ _ _ h => h) (hw : Region.wanted oi (yielded ops a.tmps) = false := by kernel_rfl) (hS : S w := by assumption) : wpAnyH P md ops Q S (fuel + 1) listed a w :=
 wpAnyH_take hi hs hf hr hQ (Or.inr ⟨hw, rfl⟩) hS h
theorem rdy1 (i1 : Nat) {o1 : Oper} (h1 : ops[i1]? = some o1)
  (k1 : ∀ K' : Act → World → Prop, Shut (∀ a w, S w → (S w → wpAnyH P md ops Q S fuel (listed.setIfInBounds i1 true) a w) → K' a w) → if Region.wanted o1 (yielded ops a.tmps) = true then Oper.wp P o1 a w K' Q else K' (a.put o1.dst undef) w)
  (hr : Region.ready md ops listed = [i1] := by kernel_rfl) : wpAnyH P md ops Q S (fuel + 1) listed a w :=
 wpAnyH_ready hr (List.cons_ne_nil _ _) (AllReadyH.cons h1 k1 AllReadyH.nil)
theorem rdy2 (i1 i2 : Nat) {o1 o2 : Oper} (h1 : ops[i1]? = some o1) (h2 : ops[i2]? = some o2)
  (k1 : ∀ K' : Act → World → Prop, Shut (∀ a w, S w → (S w → wpAnyH P md ops Q S fuel (listed.setIfInBounds i1 true) a w) → K' a w) → if Region.wanted o1 (yielded ops a.tmps) = true then Oper.wp P o1 a w K' Q else K' (a.put o1.dst undef) w)
  (k2 : ∀ K' : Act → World → Prop, Shut (∀ a w, S w → (S w → wpAnyH P md ops Q S fuel (listed.setIfInBounds i2 true) a w) → K' a w) → if Region.wanted o2 (yielded ops a.tmps) = true then Oper.wp P o2 a w K' Q else K' (a.put o2.dst undef) w)
  (hr : Region.ready md ops listed = [i1, i2] := by kernel_rfl) : wpAnyH P md ops Q S (fuel + 1) listed a w :=
 wpAnyH_ready hr (List.cons_ne_nil _ _) (AllReadyH.cons h1 k1 (AllReadyH.cons h2 k2 AllReadyH.nil))
theorem rdy3 (i1 i2 i3 : Nat) {o1 o2 o3 : Oper} (h1 : ops[i1]? = some o1) (h2 : ops[i2]? = some o2) (h3 : ops[i3]? = some o3)
  (k1 : ∀ K' : Act → World → Prop, Shut (∀ a w, S w → (S w → wpAnyH P md ops Q S fuel (listed.setIfInBounds i1 true) a w) → K' a w) → if Region.wanted o1 (yielded ops a.tmps) = true then Oper.wp P o1 a w K' Q else K' (a.put o1.dst undef) w)
  (k2 : ∀ K' : Act → World → Prop, Shut (∀ a w, S w → (S w → wpAnyH P md ops Q S fuel (listed.setIfInBounds i2 true) a w) → K' a w) → if Region.wanted o2 (yielded ops a.tmps) = true then Oper.wp P o2 a w K' Q else K' (a.put o2.dst undef) w)
  (k3 : ∀ K' : Act → World → Prop, Shut (∀ a w, S w → (S w → wpAnyH P md ops Q S fuel (listed.setIfInBounds i3 true) a w) → K' a w) → if Region.wanted o3 (yielded ops a.tmps) = true then Oper.wp P o3 a w K' Q else K' (a.put o3.dst undef) w)
  (hr : Region.ready md ops listed = [i1, i2, i3] := by kernel_rfl) : wpAnyH P md ops Q S (fuel + 1) listed a w :=
 wpAnyH_ready hr (List.cons_ne_nil _ _) (AllReadyH.cons h1 k1 (AllReadyH.cons h2 k2 (AllReadyH.cons h3 k3 AllReadyH.nil)))
theorem rdy4 (i1 i2 i3 i4 : Nat) {o1 o2 o3 o4 : Oper} (h1 : ops[i1]? = some o1) (h2 : ops[i2]? = some o2) (h3 : ops[i3]? = some o3) (h4 : ops[i4]? = some o4)
  (k1 : ∀ K' : Act → World → Prop, Shut (∀ a w, S w → (S w → wpAnyH P md ops Q S fuel (listed.setIfInBounds i1 true) a w) → K' a w) → if Region.wanted o1 (yielded ops a.tmps) = true then Oper.wp P o1 a w K' Q else K' (a.put o1.dst undef) w)
  (k2 : ∀ K' : Act → World → Prop, Shut (∀ a w, S w → (S w → wpAnyH P md ops Q S fuel (listed.setIfInBounds i2 true) a w) → K' a w) → if Region.wanted o2 (yielded ops a.tmps) = true then Oper.wp P o2 a w K' Q else K' (a.put o2.dst undef) w)
  (k3 : ∀ K' : Act → World → Prop, Shut (∀ a w, S w → (S w → wpAnyH P md ops Q S fuel (listed.setIfInBounds i3 true) a w) → K' a w) → if Region.wanted o3 (yielded ops a.tmps) = true then Oper.wp P o3 a w K' Q else K' (a.put o3.dst undef) w)
  (k4 : ∀ K' : Act → World → Prop, Shut (∀ a w, S w → (S w → wpAnyH P md ops Q S fuel (listed.setIfInBounds i4 true) a w) → K' a w) → if Region.wanted o4 (yielded ops a.tmps) = true then Oper.wp P o4 a w K' Q else K' (a.put o4.dst undef) w)
  (hr : Region.ready md ops listed = [i1, i2, i3, i4] := by kernel_rfl) : wpAnyH P md ops Q S (fuel + 1) listed a w :=
 wpAnyH_ready hr (List.cons_ne_nil _ _) (AllReadyH.cons h1 k1 (AllReadyH.cons h2 k2 (AllReadyH.cons h3 k3 (AllReadyH.cons h4 k4 AllReadyH.nil))))
end Go.Proofs.YtmebjdbkngehiaaGreatDoor
