/-
  Package disk: what is told of an error (told); a disk in memory. Conditions: errors.errorType holds the handle of the type error ('SInv').
-/
import Derived.Test.YtlkghcfjcdeokaaDoorDkAs
import Derived.Test.YtlkghcfjcdeokaaDoorDiskP
import Derived.Test.YtlkghcfjcdeokaaDoorOwn
import Derived.Deep.MidRow
import Derived.ScopeJumps
import Derived.WalkMore
namespace Go.Proofs.YtlkghcfjcdeokaaDoor
open Go.RowKit

/-- errors.errorType holds the handle of the type error. -/
def SInv (w : World) : Prop := w.cell? ⟨0, 0, none⟩ = some (.iface 112 (.agg #[.pointer (some ⟨4, 62, none⟩)]))
theorem SInv.below {w w' : World} (h : SInv w) (hb : Below w.heap.size w w') : SInv w' := by
  unfold SInv at h ⊢
  rw [World.cell?_of_block (hb.block _ (cell_lt h))]; exact h
theorem below_drewN' {B : Nat} {a w : World} (h : Below B a w) (n : Nat) : Below B a (w.drewN n) := ⟨h.os, h.tape, h.output, h.size, h.block⟩

theorem tolds_wr (s : ByteArray) (x : Int) (w : World) (h : SInv w) :
    Calls Tryd.prog 29 #[.string s, WrV x] w (Ret (.tuple #[.string ByteArray.empty, .int .i64 x]) w) := by
  have h1 := h.below (ext_new w (.cells #[.int .i64 0] 86))
  unfold SInv at h1
  go_enter Tryd.func29, Tryd.ntmps29
  go_wp2_with fail
  refine (as_hit x _ (.int .i64 0) _ h1 (by simp) (by simp)).mono ?_
  rintro e w1 ⟨rfl, w2, hb, rfl⟩
  have hB := (Blk.new_ w 86 #[.int .i64 0]).below hb
  have hC := (hB.set_ 0 (.int .i64 x)).cell 0
  have hb2 : Below w.heap.size w (w2.setCell ⟨w.heap.size, 0, none⟩ (.int .i64 x)) := (ext_trans (ext_new w _) hb).setCell (by simp) _
  simp only [List.setIfInBounds_toArray, List.set_cons_zero, List.getElem?_toArray, List.getElem?_cons_zero] at hC
  generalize w2.setCell ⟨w.heap.size, 0, none⟩ (.int .i64 x) = W at *
  go_wp2_with fail
  go_quiet (fail)
  go_wp2_with fail
  go_ret2
  exact ⟨rfl, below_drewN' hb2 _⟩
theorem toldi_wr (n : Int) (x : Int) (w : World) (h : SInv w) :
    Calls Tryd.prog 36 #[.int .i64 n, WrV x] w (Ret (.tuple #[.int .i64 0, .int .i64 x]) w) := by
  have h1 := h.below (ext_new w (.cells #[.int .i64 0] 86))
  unfold SInv at h1
  go_enter Tryd.func36, Tryd.ntmps36
  go_wp2_with fail
  refine (as_hit x _ (.int .i64 0) _ h1 (by simp) (by simp)).mono ?_
  rintro e w1 ⟨rfl, w2, hb, rfl⟩
  have hB := (Blk.new_ w 86 #[.int .i64 0]).below hb
  have hC := (hB.set_ 0 (.int .i64 x)).cell 0
  have hb2 : Below w.heap.size w (w2.setCell ⟨w.heap.size, 0, none⟩ (.int .i64 x)) := (ext_trans (ext_new w _) hb).setCell (by simp) _
  simp only [List.setIfInBounds_toArray, List.set_cons_zero, List.getElem?_toArray, List.getElem?_cons_zero] at hC
  generalize w2.setCell ⟨w.heap.size, 0, none⟩ (.int .i64 x) = W at *
  go_wp2_with fail
  go_quiet (fail)
  go_wp2_with fail
  go_ret2
  exact ⟨rfl, below_drewN' hb2 _⟩

/-- A byte as a cell; many. -/
def cellB (b : UInt8) : Value := .int .u8 (b.toNat : Int)
def cellsB (l : List UInt8) : List Value := l.map cellB
theorem cellsB_length (l : List UInt8) : (cellsB l).length = l.length := by simp [cellsB]
/-- A disk in memory: itself at block p, its sectors at block g. -/
structure DAt (w : World) (p g : Nat) (d : DN) : Prop where
  disk : Blk w p 59 #[.slice (some ⟨g, 0, none⟩) d.L.length d.L.length, .int .i64 (d.left : Int), .int .i64 (d.cut : Int), .bool d.down, .int .i64 (d.n : Int)]
  secs : Blk w g 70 (cellsB d.L.flatten).toArray
  ne : p ≠ g
  fit : d.Fit
  len : d.L.length ≤ 256
  left : d.left ≤ 9223372036854775807
  n : d.n ≤ 1000000
/-- All blocks but two stand. -/
structure But2 (p g : Nat) (w w' : World) : Prop where
  os : w'.os = w.os
  tape : w'.tape = w.tape
  output : w'.output = w.output
  size : w.heap.size ≤ w'.heap.size
  block : ∀ k, k < w.heap.size → k ≠ p → k ≠ g → w'.heap[k]? = w.heap[k]?
theorem But2.refl (p g : Nat) (w : World) : But2 p g w w := ⟨rfl, rfl, rfl, Nat.le_refl _, fun _ _ _ _ => rfl⟩
theorem But2.trans {p g : Nat} {a b c : World} (h : But2 p g a b) (k : But2 p g b c) : But2 p g a c :=
  ⟨k.os.trans h.os, k.tape.trans h.tape, k.output.trans h.output, Nat.le_trans h.size k.size, fun i hi h1 h2 => (k.block i (Nat.lt_of_lt_of_le hi h.size) h1 h2).trans (h.block i hi h1 h2)⟩
theorem But2.of_below {p g : Nat} {a b : World} (h : Below a.heap.size a b) : But2 p g a b := ⟨h.os, h.tape, h.output, h.size, fun k hk _ _ => h.block k hk⟩
theorem But2.below {p g : Nat} {a b : World} {B : Nat} (h : But2 p g a b) (h1 : B ≤ p) (h2 : B ≤ g) (h3 : B ≤ a.heap.size) : Below B a b := ⟨h.os, h.tape, h.output, h.size, fun k hk => h.block k (by omega) (by omega) (by omega)⟩
theorem But2.set1 {p g : Nat} {a b : World} (h : But2 p g a b) (i : Nat) (v : Value) : But2 p g a (b.setCell ⟨p, i, none⟩ v) :=
  ⟨h.os, h.tape, h.output, by rw [World.size_setCell]; exact h.size, fun k hk h1 h2 => by
    rw [show (b.setCell ⟨p, i, none⟩ v).heap[k]? = b.heap[k]? by simp [World.setCell, Array.getElem?_modify, Ne.symm h1]]
    exact h.block k hk h1 h2⟩
theorem DAt.below {w w' : World} {p g : Nat} {d : DN} (h : DAt w p g d) (hb : Below w.heap.size w w') : DAt w' p g d := ⟨h.disk.below hb, h.secs.below hb, h.ne, h.fit, h.len, h.left, h.n⟩

end Go.Proofs.YtlkghcfjcdeokaaDoor
