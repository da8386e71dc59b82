/-
  Package signs: first over a row of rules that was just made. Conditions: as the theorems' own hypotheses say.
-/
import Derived.Test.YtinflolpcemnhaaDoorSignsD
namespace Go.Proofs.YtinflolpcemnhaaDoor
open Go.RowKit

theorem MustAt.of {w : World} {hb he : Nat} {b : Bool} {a : Addr} (h1 : w.cell? ⟨hb, 0, none⟩ = some (.bool b)) (h2 : w.cell? ⟨he, 0, none⟩ = some (ErrV a)) :
    MustAt w (.func (.func 35) #[] #[.pointer (some ⟨hb, 0, none⟩), .pointer (some ⟨he, 0, none⟩)]) b a := ⟨hb, he, rfl, h1, h2⟩

theorem rules_new (A : Nat → Addr) (xs : List (Bool × Nat)) (vs : List Value) (w : World) (hl : vs.length = xs.length) (hn : xs.length ≤ 1000)
    (h : ∀ i, (h1 : i < xs.length) → (h2 : i < vs.length) → MustAt w vs[i] xs[i].1 (A xs[i].2)) :
    Calls Tryd.prog 25 #[.slice (some ⟨w.heap.size, 0, none⟩) xs.length xs.length] (w.alloc (.cells vs.toArray 38))
      (Pure (errOf ((firstIx xs).map A)) (w.alloc (.cells vs.toArray 38))) := by
  have hf := first_any (xs.map fun x => (x.1, A x.2)) w.heap.size (w.alloc (.cells vs.toArray 38)) (fun i hi => by
    have hi' : i < xs.length := by simpa using hi
    refine ⟨vs[i]'(by omega), ?_, ?_⟩
    · have : i < vs.length := by omega
      simp [this]
    · have := (h i hi' (by omega)).below (ext_new w (.cells vs.toArray 38))
      simpa using this) (by simpa using hn)
  rw [firstErr_ix, List.length_map] at hf
  exact hf

theorem rules1_new (A : Nat → Addr) (b0 : Bool) (k0 : Nat) (v0 : Value) (w : World) (h0 : MustAt w v0 b0 (A k0)) :
    Calls Tryd.prog 25 #[.slice (some ⟨w.heap.size, 0, none⟩) 1 1] (w.alloc (.cells #[v0] 38))
      (Pure (errOf ((firstIx [(b0, k0)]).map A)) (w.alloc (.cells #[v0] 38))) :=
  rules_new A [(b0, k0)] [v0] w rfl (by simp) (fun i h1 h2 => match i, h1 with
    | 0, _ => h0)
theorem rules2_new (A : Nat → Addr) (b0 b1 : Bool) (k0 k1 : Nat) (v0 v1 : Value) (w : World) (h0 : MustAt w v0 b0 (A k0)) (h1 : MustAt w v1 b1 (A k1)) :
    Calls Tryd.prog 25 #[.slice (some ⟨w.heap.size, 0, none⟩) 2 2] (w.alloc (.cells #[v0, v1] 38))
      (Pure (errOf ((firstIx [(b0, k0), (b1, k1)]).map A)) (w.alloc (.cells #[v0, v1] 38))) :=
  rules_new A [(b0, k0), (b1, k1)] [v0, v1] w rfl (by simp) (fun i g1 g2 => match i, g1 with
    | 0, _ => h0
    | 1, _ => h1)
theorem rules3_new (A : Nat → Addr) (b0 b1 b2 : Bool) (k0 k1 k2 : Nat) (v0 v1 v2 : Value) (w : World) (h0 : MustAt w v0 b0 (A k0)) (h1 : MustAt w v1 b1 (A k1)) (h2 : MustAt w v2 b2 (A k2)) :
    Calls Tryd.prog 25 #[.slice (some ⟨w.heap.size, 0, none⟩) 3 3] (w.alloc (.cells #[v0, v1, v2] 38))
      (Pure (errOf ((firstIx [(b0, k0), (b1, k1), (b2, k2)]).map A)) (w.alloc (.cells #[v0, v1, v2] 38))) :=
  rules_new A [(b0, k0), (b1, k1), (b2, k2)] [v0, v1, v2] w rfl (by simp) (fun i g1 g2 => match i, g1 with
    | 0, _ => h0
    | 1, _ => h1
    | 2, _ => h2)

end Go.Proofs.YtinflolpcemnhaaDoor
