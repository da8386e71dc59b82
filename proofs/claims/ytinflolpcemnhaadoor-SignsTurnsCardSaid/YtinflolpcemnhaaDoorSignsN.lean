/-
  Package signs: what its errors are, and which numbers they have (number). Conditions: the listed variables hold different errors of errors.New's make ('GInv').
-/
import Derived.Test.YtinflolpcemnhaaDoorBase
namespace Go.Proofs.YtinflolpcemnhaaDoor
open Go.RowKit

/-- What package signs's variables hold: different errors. -/
structure GInv (w : World) (A : Nat → Addr) : Prop where
  c0 : w.cell? ⟨2, 0, none⟩ = some (ErrV (A 0))
  c1 : w.cell? ⟨4, 0, none⟩ = some (ErrV (A 1))
  c2 : w.cell? ⟨0, 0, none⟩ = some (ErrV (A 2))
  c3 : w.cell? ⟨1, 0, none⟩ = some (ErrV (A 3))
  c4 : w.cell? ⟨3, 0, none⟩ = some (ErrV (A 4))
  c5 : w.cell? ⟨6, 0, none⟩ = some (ErrV (A 5))
  c6 : w.cell? ⟨7, 0, none⟩ = some (ErrV (A 6))
  c7 : w.cell? ⟨5, 0, none⟩ = some (ErrV (A 7))
  pl : ∀ k, k < 8 → Plain w (A k)
  inj : ∀ i j, i < 8 → j < 8 → A i = A j → i = j

theorem GInv.below {w w' : World} {A : Nat → Addr} (h : GInv w A) (hb : Below w.heap.size w w') : GInv w' A :=
  ⟨cell_later hb h.c0, cell_later hb h.c1, cell_later hb h.c2, cell_later hb h.c3, cell_later hb h.c4, cell_later hb h.c5, cell_later hb h.c6, cell_later hb h.c7, fun k hk => (h.pl k hk).below hb, h.inj⟩

/-- The first one that does not hold. -/
def firstIx : List (Bool × Nat) → Option Nat
  | [] => none
  | (b, k) :: r => if b then firstIx r else some k
/-- The errors' numbers. -/
def codeIx : Option Nat → Int
  | none => 0
  | some k => [2, 10, 131, 132, 133, 134, 135, 136].getD k 0
theorem firstErr_ix (A : Nat → Addr) (xs : List (Bool × Nat)) : firstErr (xs.map fun x => (x.1, A x.2)) = (firstIx xs).map A := by
  induction xs with
  | nil => rfl
  | cons x r ih =>
    obtain ⟨b, k⟩ := x
    cases b <;> simp [firstErr, firstIx, ih]

theorem number_0 (w : World) (A : Nat → Addr) (h : GInv w A) : Calls Tryd.prog 37 #[ErrV (A 0)] w (Pure (.int .i64 2) w) := by
  have g0 := h.c0
  go_enter Tryd.func37, Tryd.ntmps37
  go_wp2_with fail
  refine (is_same (A 0) _).mono ?_
  rintro e w' ⟨rfl, rfl⟩
  go_wp2_with fail
  go_ret
  exact ⟨rfl, rfl⟩

theorem number_1 (w : World) (A : Nat → Addr) (h : GInv w A) : Calls Tryd.prog 37 #[ErrV (A 1)] w (Pure (.int .i64 10) w) := by
  have g0 := h.c0
  have g1 := h.c1
  go_enter Tryd.func37, Tryd.ntmps37
  go_wp2_with fail
  refine (is_other (A 1) (A 0) _ (fun e => absurd (h.inj _ _ (by decide) (by decide) e) (by decide)) (h.pl 1 (by decide)) (h.pl 0 (by decide))).mono ?_
  rintro e w' ⟨rfl, rfl⟩
  go_wp2_with fail
  refine (is_same (A 1) _).mono ?_
  rintro e w' ⟨rfl, rfl⟩
  go_wp2_with fail
  go_ret
  exact ⟨rfl, rfl⟩

theorem number_2 (w : World) (A : Nat → Addr) (h : GInv w A) : Calls Tryd.prog 37 #[ErrV (A 2)] w (Pure (.int .i64 131) w) := by
  have g0 := h.c0
  have g1 := h.c1
  have g2 := h.c2
  go_enter Tryd.func37, Tryd.ntmps37
  go_wp2_with fail
  refine (is_other (A 2) (A 0) _ (fun e => absurd (h.inj _ _ (by decide) (by decide) e) (by decide)) (h.pl 2 (by decide)) (h.pl 0 (by decide))).mono ?_
  rintro e w' ⟨rfl, rfl⟩
  go_wp2_with fail
  refine (is_other (A 2) (A 1) _ (fun e => absurd (h.inj _ _ (by decide) (by decide) e) (by decide)) (h.pl 2 (by decide)) (h.pl 1 (by decide))).mono ?_
  rintro e w' ⟨rfl, rfl⟩
  go_wp2_with fail
  refine (is_same (A 2) _).mono ?_
  rintro e w' ⟨rfl, rfl⟩
  go_wp2_with fail
  go_ret
  exact ⟨rfl, rfl⟩

theorem number_3 (w : World) (A : Nat → Addr) (h : GInv w A) : Calls Tryd.prog 37 #[ErrV (A 3)] w (Pure (.int .i64 132) w) := by
  have g0 := h.c0
  have g1 := h.c1
  have g2 := h.c2
  have g3 := h.c3
  go_enter Tryd.func37, Tryd.ntmps37
  go_wp2_with fail
  refine (is_other (A 3) (A 0) _ (fun e => absurd (h.inj _ _ (by decide) (by decide) e) (by decide)) (h.pl 3 (by decide)) (h.pl 0 (by decide))).mono ?_
  rintro e w' ⟨rfl, rfl⟩
  go_wp2_with fail
  refine (is_other (A 3) (A 1) _ (fun e => absurd (h.inj _ _ (by decide) (by decide) e) (by decide)) (h.pl 3 (by decide)) (h.pl 1 (by decide))).mono ?_
  rintro e w' ⟨rfl, rfl⟩
  go_wp2_with fail
  refine (is_other (A 3) (A 2) _ (fun e => absurd (h.inj _ _ (by decide) (by decide) e) (by decide)) (h.pl 3 (by decide)) (h.pl 2 (by decide))).mono ?_
  rintro e w' ⟨rfl, rfl⟩
  go_wp2_with fail
  refine (is_same (A 3) _).mono ?_
  rintro e w' ⟨rfl, rfl⟩
  go_wp2_with fail
  go_ret
  exact ⟨rfl, rfl⟩

theorem number_4 (w : World) (A : Nat → Addr) (h : GInv w A) : Calls Tryd.prog 37 #[ErrV (A 4)] w (Pure (.int .i64 133) w) := by
  have g0 := h.c0
  have g1 := h.c1
  have g2 := h.c2
  have g3 := h.c3
  have g4 := h.c4
  go_enter Tryd.func37, Tryd.ntmps37
  go_wp2_with fail
  refine (is_other (A 4) (A 0) _ (fun e => absurd (h.inj _ _ (by decide) (by decide) e) (by decide)) (h.pl 4 (by decide)) (h.pl 0 (by decide))).mono ?_
  rintro e w' ⟨rfl, rfl⟩
  go_wp2_with fail
  refine (is_other (A 4) (A 1) _ (fun e => absurd (h.inj _ _ (by decide) (by decide) e) (by decide)) (h.pl 4 (by decide)) (h.pl 1 (by decide))).mono ?_
  rintro e w' ⟨rfl, rfl⟩
  go_wp2_with fail
  refine (is_other (A 4) (A 2) _ (fun e => absurd (h.inj _ _ (by decide) (by decide) e) (by decide)) (h.pl 4 (by decide)) (h.pl 2 (by decide))).mono ?_
  rintro e w' ⟨rfl, rfl⟩
  go_wp2_with fail
  refine (is_other (A 4) (A 3) _ (fun e => absurd (h.inj _ _ (by decide) (by decide) e) (by decide)) (h.pl 4 (by decide)) (h.pl 3 (by decide))).mono ?_
  rintro e w' ⟨rfl, rfl⟩
  go_wp2_with fail
  refine (is_same (A 4) _).mono ?_
  rintro e w' ⟨rfl, rfl⟩
  go_wp2_with fail
  go_ret
  exact ⟨rfl, rfl⟩

theorem number_5 (w : World) (A : Nat → Addr) (h : GInv w A) : Calls Tryd.prog 37 #[ErrV (A 5)] w (Pure (.int .i64 134) w) := by
  have g0 := h.c0
  have g1 := h.c1
  have g2 := h.c2
  have g3 := h.c3
  have g4 := h.c4
  have g5 := h.c5
  go_enter Tryd.func37, Tryd.ntmps37
  go_wp2_with fail
  refine (is_other (A 5) (A 0) _ (fun e => absurd (h.inj _ _ (by decide) (by decide) e) (by decide)) (h.pl 5 (by decide)) (h.pl 0 (by decide))).mono ?_
  rintro e w' ⟨rfl, rfl⟩
  go_wp2_with fail
  refine (is_other (A 5) (A 1) _ (fun e => absurd (h.inj _ _ (by decide) (by decide) e) (by decide)) (h.pl 5 (by decide)) (h.pl 1 (by decide))).mono ?_
  rintro e w' ⟨rfl, rfl⟩
  go_wp2_with fail
  refine (is_other (A 5) (A 2) _ (fun e => absurd (h.inj _ _ (by decide) (by decide) e) (by decide)) (h.pl 5 (by decide)) (h.pl 2 (by decide))).mono ?_
  rintro e w' ⟨rfl, rfl⟩
  go_wp2_with fail
  refine (is_other (A 5) (A 3) _ (fun e => absurd (h.inj _ _ (by decide) (by decide) e) (by decide)) (h.pl 5 (by decide)) (h.pl 3 (by decide))).mono ?_
  rintro e w' ⟨rfl, rfl⟩
  go_wp2_with fail
  refine (is_other (A 5) (A 4) _ (fun e => absurd (h.inj _ _ (by decide) (by decide) e) (by decide)) (h.pl 5 (by decide)) (h.pl 4 (by decide))).mono ?_
  rintro e w' ⟨rfl, rfl⟩
  go_wp2_with fail
  refine (is_same (A 5) _).mono ?_
  rintro e w' ⟨rfl, rfl⟩
  go_wp2_with fail
  go_ret
  exact ⟨rfl, rfl⟩

theorem number_6 (w : World) (A : Nat → Addr) (h : GInv w A) : Calls Tryd.prog 37 #[ErrV (A 6)] w (Pure (.int .i64 135) w) := by
  have g0 := h.c0
  have g1 := h.c1
  have g2 := h.c2
  have g3 := h.c3
  have g4 := h.c4
  have g5 := h.c5
  have g6 := h.c6
  go_enter Tryd.func37, Tryd.ntmps37
  go_wp2_with fail
  refine (is_other (A 6) (A 0) _ (fun e => absurd (h.inj _ _ (by decide) (by decide) e) (by decide)) (h.pl 6 (by decide)) (h.pl 0 (by decide))).mono ?_
  rintro e w' ⟨rfl, rfl⟩
  go_wp2_with fail
  refine (is_other (A 6) (A 1) _ (fun e => absurd (h.inj _ _ (by decide) (by decide) e) (by decide)) (h.pl 6 (by decide)) (h.pl 1 (by decide))).mono ?_
  rintro e w' ⟨rfl, rfl⟩
  go_wp2_with fail
  refine (is_other (A 6) (A 2) _ (fun e => absurd (h.inj _ _ (by decide) (by decide) e) (by decide)) (h.pl 6 (by decide)) (h.pl 2 (by decide))).mono ?_
  rintro e w' ⟨rfl, rfl⟩
  go_wp2_with fail
  refine (is_other (A 6) (A 3) _ (fun e => absurd (h.inj _ _ (by decide) (by decide) e) (by decide)) (h.pl 6 (by decide)) (h.pl 3 (by decide))).mono ?_
  rintro e w' ⟨rfl, rfl⟩
  go_wp2_with fail
  refine (is_other (A 6) (A 4) _ (fun e => absurd (h.inj _ _ (by decide) (by decide) e) (by decide)) (h.pl 6 (by decide)) (h.pl 4 (by decide))).mono ?_
  rintro e w' ⟨rfl, rfl⟩
  go_wp2_with fail
  refine (is_other (A 6) (A 5) _ (fun e => absurd (h.inj _ _ (by decide) (by decide) e) (by decide)) (h.pl 6 (by decide)) (h.pl 5 (by decide))).mono ?_
  rintro e w' ⟨rfl, rfl⟩
  go_wp2_with fail
  refine (is_same (A 6) _).mono ?_
  rintro e w' ⟨rfl, rfl⟩
  go_wp2_with fail
  go_ret
  exact ⟨rfl, rfl⟩

theorem number_7 (w : World) (A : Nat → Addr) (h : GInv w A) : Calls Tryd.prog 37 #[ErrV (A 7)] w (Pure (.int .i64 136) w) := by
  have g0 := h.c0
  have g1 := h.c1
  have g2 := h.c2
  have g3 := h.c3
  have g4 := h.c4
  have g5 := h.c5
  have g6 := h.c6
  go_enter Tryd.func37, Tryd.ntmps37
  go_wp2_with fail
  refine (is_other (A 7) (A 0) _ (fun e => absurd (h.inj _ _ (by decide) (by decide) e) (by decide)) (h.pl 7 (by decide)) (h.pl 0 (by decide))).mono ?_
  rintro e w' ⟨rfl, rfl⟩
  go_wp2_with fail
  refine (is_other (A 7) (A 1) _ (fun e => absurd (h.inj _ _ (by decide) (by decide) e) (by decide)) (h.pl 7 (by decide)) (h.pl 1 (by decide))).mono ?_
  rintro e w' ⟨rfl, rfl⟩
  go_wp2_with fail
  refine (is_other (A 7) (A 2) _ (fun e => absurd (h.inj _ _ (by decide) (by decide) e) (by decide)) (h.pl 7 (by decide)) (h.pl 2 (by decide))).mono ?_
  rintro e w' ⟨rfl, rfl⟩
  go_wp2_with fail
  refine (is_other (A 7) (A 3) _ (fun e => absurd (h.inj _ _ (by decide) (by decide) e) (by decide)) (h.pl 7 (by decide)) (h.pl 3 (by decide))).mono ?_
  rintro e w' ⟨rfl, rfl⟩
  go_wp2_with fail
  refine (is_other (A 7) (A 4) _ (fun e => absurd (h.inj _ _ (by decide) (by decide) e) (by decide)) (h.pl 7 (by decide)) (h.pl 4 (by decide))).mono ?_
  rintro e w' ⟨rfl, rfl⟩
  go_wp2_with fail
  refine (is_other (A 7) (A 5) _ (fun e => absurd (h.inj _ _ (by decide) (by decide) e) (by decide)) (h.pl 7 (by decide)) (h.pl 5 (by decide))).mono ?_
  rintro e w' ⟨rfl, rfl⟩
  go_wp2_with fail
  refine (is_other (A 7) (A 6) _ (fun e => absurd (h.inj _ _ (by decide) (by decide) e) (by decide)) (h.pl 7 (by decide)) (h.pl 6 (by decide))).mono ?_
  rintro e w' ⟨rfl, rfl⟩
  go_wp2_with fail
  go_ret
  exact ⟨rfl, rfl⟩

theorem number_any (k : Nat) (hk : k < 8) (w : World) (A : Nat → Addr) (h : GInv w A) : Calls Tryd.prog 37 #[ErrV (A k)] w (Pure (.int .i64 (codeIx (some k))) w) := by
  match k, hk with
  | 0, _ => exact number_0 w A h
  | 1, _ => exact number_1 w A h
  | 2, _ => exact number_2 w A h
  | 3, _ => exact number_3 w A h
  | 4, _ => exact number_4 w A h
  | 5, _ => exact number_5 w A h
  | 6, _ => exact number_6 w A h
  | 7, _ => exact number_7 w A h

end Go.Proofs.YtinflolpcemnhaaDoor
