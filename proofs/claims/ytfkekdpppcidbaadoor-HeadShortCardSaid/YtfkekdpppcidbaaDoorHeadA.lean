/-
  Package head: what its variables hold ('HInv'), either's contracts, isMajor. Conditions: the listed variables hold different errors of errors.New's make, and the table of rooms ('HInv').
-/
import Derived.Test.YtfkekdpppcidbaaDoorNumsS
import Derived.Test.YtfkekdpppcidbaaDoorHeadM
import Derived.Laws.BitsAllLaws
namespace Go.Proofs.YtfkekdpppcidbaaDoor
open Go.RowKit

/-- What package head's variables hold. -/
structure HInv (w : World) (A : Nat → Addr) (aN aW aS : Addr) : Prop where
  c0 : w.cell? ⟨0, 0, none⟩ = some (ErrV (A 0))
  c1 : w.cell? ⟨1, 0, none⟩ = some (ErrV (A 1))
  c2 : w.cell? ⟨2, 0, none⟩ = some (ErrV (A 2))
  c3 : w.cell? ⟨3, 0, none⟩ = some (ErrV (A 3))
  pl : ∀ k, k < 4 → Plain w (A k)
  inj : ∀ i j, i < 4 → j < 4 → A i = A j → i = j
  r0 : w.cell? ⟨4, 0, none⟩ = some (.int .i64 0)
  r1 : w.cell? ⟨4, 1, none⟩ = some (.int .i64 24)
  r2 : w.cell? ⟨4, 2, none⟩ = some (.int .i64 0)
  r3 : w.cell? ⟨4, 3, none⟩ = some (.int .i64 1)
  r4 : w.cell? ⟨4, 4, none⟩ = some (.int .i64 256)
  r5 : w.cell? ⟨4, 5, none⟩ = some (.int .i64 24)
  r6 : w.cell? ⟨4, 6, none⟩ = some (.int .i64 2)
  r7 : w.cell? ⟨4, 7, none⟩ = some (.int .i64 65536)
  r8 : w.cell? ⟨4, 8, none⟩ = some (.int .i64 25)
  r9 : w.cell? ⟨4, 9, none⟩ = some (.int .i64 4)
  r10 : w.cell? ⟨4, 10, none⟩ = some (.int .i64 4294967296)
  r11 : w.cell? ⟨4, 11, none⟩ = some (.int .i64 26)
  r12 : w.cell? ⟨4, 12, none⟩ = some (.int .i64 8)
  r13 : w.cell? ⟨4, 13, none⟩ = some (.int .i64 281474976710656)
  r14 : w.cell? ⟨4, 14, none⟩ = some (.int .i64 27)
  nums : NInv w aN aW aS

theorem HInv.below {w w' : World} {A : Nat → Addr} {aN aW aS : Addr} (h : HInv w A aN aW aS) (hb : Below w.heap.size w w') : HInv w' A aN aW aS :=
  ⟨cell_later hb h.c0, cell_later hb h.c1, cell_later hb h.c2, cell_later hb h.c3, fun k hk => (h.pl k hk).below hb, h.inj, cell_later hb h.r0, cell_later hb h.r1, cell_later hb h.r2, cell_later hb h.r3, cell_later hb h.r4, cell_later hb h.r5, cell_later hb h.r6, cell_later hb h.r7, cell_later hb h.r8, cell_later hb h.r9, cell_later hb h.r10, cell_later hb h.r11, cell_later hb h.r12, cell_later hb h.r13, cell_later hb h.r14, h.nums.below hb⟩
theorem HInv.ne {w : World} {A : Nat → Addr} {aN aW aS : Addr} (h : HInv w A aN aW aS) {i j : Nat} (hi : i < 4) (hj : j < 4) (hij : i ≠ j) : A i ≠ A j := fun e => hij (h.inj i j hi hj e)

theorem heitherS_0 (v : ByteArray) (w : World) (A : Nat → Addr) (aN aW aS : Addr) (h : HInv w A aN aW aS) :
    Calls Tryd.prog 18 #[.agg #[.string v, ErrV (A 0)]] w (Ret (.tuple #[.string ByteArray.empty, .int .i64 2]) w) := by
  have hI := h.below (ext_new w (.cells #[.string v, ErrV (A 0)] 40))
  have g0 := h.c0
  have z0 : 0 < w.heap.size := cell_lt g0
  clear hI
  have n0 : ¬ (0 = w.heap.size) := by have := z0; omega
  have n0' : ¬ (w.heap.size = 0) := by have := z0; omega
  unfold ErrV at *
  go_enter Tryd.func18, Tryd.ntmps18
  go_wp2_with fail
  refine (is_same (A 0) _).mono ?_
  rintro e w' ⟨rfl, rfl⟩
  go_wp2_with fail
  exact bodyPost_ret (results_tmp2 rfl _ _ _) rfl ⟨rfl, ext_new _ _⟩

theorem heitherS_1 (v : ByteArray) (w : World) (A : Nat → Addr) (aN aW aS : Addr) (h : HInv w A aN aW aS) :
    Calls Tryd.prog 18 #[.agg #[.string v, ErrV (A 1)]] w (Ret (.tuple #[.string ByteArray.empty, .int .i64 10]) w) := by
  have hI := h.below (ext_new w (.cells #[.string v, ErrV (A 1)] 40))
  have g0 := h.c0
  have z0 : 0 < w.heap.size := cell_lt g0
  have g1 := h.c1
  have z1 : 1 < w.heap.size := cell_lt g1
  clear hI
  have n0 : ¬ (0 = w.heap.size) := by have := z1; omega
  have n0' : ¬ (w.heap.size = 0) := by have := z1; omega
  have n1 : ¬ (1 = w.heap.size) := by have := z1; omega
  have n1' : ¬ (w.heap.size = 1) := by have := z1; omega
  unfold ErrV at *
  go_enter Tryd.func18, Tryd.ntmps18
  go_wp2_with fail
  refine (is_other (A 1) (A 0) _ (h.ne (by decide) (by decide) (by decide)) (((h.pl 1 (by decide)).below (by repeat first | exact ext_new _ _ | exact Below.refl _ _ | refine ext_alloc ?_ _))) (((h.pl 0 (by decide)).below (by repeat first | exact ext_new _ _ | exact Below.refl _ _ | refine ext_alloc ?_ _)))).mono ?_
  rintro e w' ⟨rfl, rfl⟩
  go_wp2_with fail
  refine (is_same (A 1) _).mono ?_
  rintro e w' ⟨rfl, rfl⟩
  go_wp2_with fail
  exact bodyPost_ret (results_tmp2 rfl _ _ _) rfl ⟨rfl, ext_new _ _⟩

theorem heitherS_2 (v : ByteArray) (w : World) (A : Nat → Addr) (aN aW aS : Addr) (h : HInv w A aN aW aS) :
    Calls Tryd.prog 18 #[.agg #[.string v, ErrV (A 2)]] w (Ret (.tuple #[.string ByteArray.empty, .int .i64 11]) w) := by
  have hI := h.below (ext_new w (.cells #[.string v, ErrV (A 2)] 40))
  have g0 := h.c0
  have z0 : 0 < w.heap.size := cell_lt g0
  have g1 := h.c1
  have z1 : 1 < w.heap.size := cell_lt g1
  have g2 := h.c2
  have z2 : 2 < w.heap.size := cell_lt g2
  clear hI
  have n0 : ¬ (0 = w.heap.size) := by have := z2; omega
  have n0' : ¬ (w.heap.size = 0) := by have := z2; omega
  have n1 : ¬ (1 = w.heap.size) := by have := z2; omega
  have n1' : ¬ (w.heap.size = 1) := by have := z2; omega
  have n2 : ¬ (2 = w.heap.size) := by have := z2; omega
  have n2' : ¬ (w.heap.size = 2) := by have := z2; omega
  unfold ErrV at *
  go_enter Tryd.func18, Tryd.ntmps18
  go_wp2_with fail
  refine (is_other (A 2) (A 0) _ (h.ne (by decide) (by decide) (by decide)) (((h.pl 2 (by decide)).below (by repeat first | exact ext_new _ _ | exact Below.refl _ _ | refine ext_alloc ?_ _))) (((h.pl 0 (by decide)).below (by repeat first | exact ext_new _ _ | exact Below.refl _ _ | refine ext_alloc ?_ _)))).mono ?_
  rintro e w' ⟨rfl, rfl⟩
  go_wp2_with fail
  refine (is_other (A 2) (A 1) _ (h.ne (by decide) (by decide) (by decide)) (((h.pl 2 (by decide)).below (by repeat first | exact ext_new _ _ | exact Below.refl _ _ | refine ext_alloc ?_ _))) (((h.pl 1 (by decide)).below (by repeat first | exact ext_new _ _ | exact Below.refl _ _ | refine ext_alloc ?_ _)))).mono ?_
  rintro e w' ⟨rfl, rfl⟩
  go_wp2_with fail
  refine (is_same (A 2) _).mono ?_
  rintro e w' ⟨rfl, rfl⟩
  go_wp2_with fail
  exact bodyPost_ret (results_tmp2 rfl _ _ _) rfl ⟨rfl, ext_new _ _⟩

theorem heitherS_3 (v : ByteArray) (w : World) (A : Nat → Addr) (aN aW aS : Addr) (h : HInv w A aN aW aS) :
    Calls Tryd.prog 18 #[.agg #[.string v, ErrV (A 3)]] w (Ret (.tuple #[.string ByteArray.empty, .int .i64 20]) w) := by
  have hI := h.below (ext_new w (.cells #[.string v, ErrV (A 3)] 40))
  have g0 := h.c0
  have z0 : 0 < w.heap.size := cell_lt g0
  have g1 := h.c1
  have z1 : 1 < w.heap.size := cell_lt g1
  have g2 := h.c2
  have z2 : 2 < w.heap.size := cell_lt g2
  have g3 := h.c3
  have z3 : 3 < w.heap.size := cell_lt g3
  clear hI
  have n0 : ¬ (0 = w.heap.size) := by have := z3; omega
  have n0' : ¬ (w.heap.size = 0) := by have := z3; omega
  have n1 : ¬ (1 = w.heap.size) := by have := z3; omega
  have n1' : ¬ (w.heap.size = 1) := by have := z3; omega
  have n2 : ¬ (2 = w.heap.size) := by have := z3; omega
  have n2' : ¬ (w.heap.size = 2) := by have := z3; omega
  have n3 : ¬ (3 = w.heap.size) := by have := z3; omega
  have n3' : ¬ (w.heap.size = 3) := by have := z3; omega
  unfold ErrV at *
  go_enter Tryd.func18, Tryd.ntmps18
  go_wp2_with fail
  refine (is_other (A 3) (A 0) _ (h.ne (by decide) (by decide) (by decide)) (((h.pl 3 (by decide)).below (by repeat first | exact ext_new _ _ | exact Below.refl _ _ | refine ext_alloc ?_ _))) (((h.pl 0 (by decide)).below (by repeat first | exact ext_new _ _ | exact Below.refl _ _ | refine ext_alloc ?_ _)))).mono ?_
  rintro e w' ⟨rfl, rfl⟩
  go_wp2_with fail
  refine (is_other (A 3) (A 1) _ (h.ne (by decide) (by decide) (by decide)) (((h.pl 3 (by decide)).below (by repeat first | exact ext_new _ _ | exact Below.refl _ _ | refine ext_alloc ?_ _))) (((h.pl 1 (by decide)).below (by repeat first | exact ext_new _ _ | exact Below.refl _ _ | refine ext_alloc ?_ _)))).mono ?_
  rintro e w' ⟨rfl, rfl⟩
  go_wp2_with fail
  refine (is_other (A 3) (A 2) _ (h.ne (by decide) (by decide) (by decide)) (((h.pl 3 (by decide)).below (by repeat first | exact ext_new _ _ | exact Below.refl _ _ | refine ext_alloc ?_ _))) (((h.pl 2 (by decide)).below (by repeat first | exact ext_new _ _ | exact Below.refl _ _ | refine ext_alloc ?_ _)))).mono ?_
  rintro e w' ⟨rfl, rfl⟩
  go_wp2_with fail
  refine (is_same (A 3) _).mono ?_
  rintro e w' ⟨rfl, rfl⟩
  go_wp2_with fail
  exact bodyPost_ret (results_tmp2 rfl _ _ _) rfl ⟨rfl, ext_new _ _⟩

theorem heitherS_nil (v : ByteArray) (w : World) (A : Nat → Addr) (aN aW aS : Addr) (h : HInv w A aN aW aS) :
    Calls Tryd.prog 18 #[.agg #[.string v, .nilIface]] w (Ret (.tuple #[.string v, .int .i64 0]) w) := by
  have hI := h.below (ext_new w (.cells #[.string v, .nilIface] 40))
  have g0 := h.c0
  have z0 : 0 < w.heap.size := cell_lt g0
  have g1 := h.c1
  have z1 : 1 < w.heap.size := cell_lt g1
  have g2 := h.c2
  have z2 : 2 < w.heap.size := cell_lt g2
  have g3 := h.c3
  have z3 : 3 < w.heap.size := cell_lt g3
  clear hI
  have n0 : ¬ (0 = w.heap.size) := by have := z3; omega
  have n0' : ¬ (w.heap.size = 0) := by have := z3; omega
  have n1 : ¬ (1 = w.heap.size) := by have := z3; omega
  have n1' : ¬ (w.heap.size = 1) := by have := z3; omega
  have n2 : ¬ (2 = w.heap.size) := by have := z3; omega
  have n2' : ¬ (w.heap.size = 2) := by have := z3; omega
  have n3 : ¬ (3 = w.heap.size) := by have := z3; omega
  have n3' : ¬ (w.heap.size = 3) := by have := z3; omega
  unfold ErrV at *
  go_enter Tryd.func18, Tryd.ntmps18
  go_wp2_with fail
  refine (is_nil (A 0) _).mono ?_
  rintro e w' ⟨rfl, rfl⟩
  go_wp2_with fail
  refine (is_nil (A 1) _).mono ?_
  rintro e w' ⟨rfl, rfl⟩
  go_wp2_with fail
  refine (is_nil (A 2) _).mono ?_
  rintro e w' ⟨rfl, rfl⟩
  go_wp2_with fail
  refine (is_nil (A 3) _).mono ?_
  rintro e w' ⟨rfl, rfl⟩
  go_wp2_with fail
  exact bodyPost_ret (results_tmp2 rfl _ _ _) rfl ⟨rfl, ext_new _ _⟩

theorem heitherI_0 (v : Int) (w : World) (A : Nat → Addr) (aN aW aS : Addr) (h : HInv w A aN aW aS) :
    Calls Tryd.prog 27 #[.agg #[.int .i64 v, ErrV (A 0)]] w (Ret (.tuple #[.int .i64 0, .int .i64 2]) w) := by
  have hI := h.below (ext_new w (.cells #[.int .i64 v, ErrV (A 0)] 57))
  have g0 := h.c0
  have z0 : 0 < w.heap.size := cell_lt g0
  clear hI
  have n0 : ¬ (0 = w.heap.size) := by have := z0; omega
  have n0' : ¬ (w.heap.size = 0) := by have := z0; omega
  unfold ErrV at *
  go_enter Tryd.func27, Tryd.ntmps27
  go_wp2_with fail
  refine (is_same (A 0) _).mono ?_
  rintro e w' ⟨rfl, rfl⟩
  go_wp2_with fail
  exact bodyPost_ret (results_tmp2 rfl _ _ _) rfl ⟨rfl, ext_new _ _⟩

theorem heitherI_1 (v : Int) (w : World) (A : Nat → Addr) (aN aW aS : Addr) (h : HInv w A aN aW aS) :
    Calls Tryd.prog 27 #[.agg #[.int .i64 v, ErrV (A 1)]] w (Ret (.tuple #[.int .i64 0, .int .i64 10]) w) := by
  have hI := h.below (ext_new w (.cells #[.int .i64 v, ErrV (A 1)] 57))
  have g0 := h.c0
  have z0 : 0 < w.heap.size := cell_lt g0
  have g1 := h.c1
  have z1 : 1 < w.heap.size := cell_lt g1
  clear hI
  have n0 : ¬ (0 = w.heap.size) := by have := z1; omega
  have n0' : ¬ (w.heap.size = 0) := by have := z1; omega
  have n1 : ¬ (1 = w.heap.size) := by have := z1; omega
  have n1' : ¬ (w.heap.size = 1) := by have := z1; omega
  unfold ErrV at *
  go_enter Tryd.func27, Tryd.ntmps27
  go_wp2_with fail
  refine (is_other (A 1) (A 0) _ (h.ne (by decide) (by decide) (by decide)) (((h.pl 1 (by decide)).below (by repeat first | exact ext_new _ _ | exact Below.refl _ _ | refine ext_alloc ?_ _))) (((h.pl 0 (by decide)).below (by repeat first | exact ext_new _ _ | exact Below.refl _ _ | refine ext_alloc ?_ _)))).mono ?_
  rintro e w' ⟨rfl, rfl⟩
  go_wp2_with fail
  refine (is_same (A 1) _).mono ?_
  rintro e w' ⟨rfl, rfl⟩
  go_wp2_with fail
  exact bodyPost_ret (results_tmp2 rfl _ _ _) rfl ⟨rfl, ext_new _ _⟩

theorem heitherI_2 (v : Int) (w : World) (A : Nat → Addr) (aN aW aS : Addr) (h : HInv w A aN aW aS) :
    Calls Tryd.prog 27 #[.agg #[.int .i64 v, ErrV (A 2)]] w (Ret (.tuple #[.int .i64 0, .int .i64 11]) w) := by
  have hI := h.below (ext_new w (.cells #[.int .i64 v, ErrV (A 2)] 57))
  have g0 := h.c0
  have z0 : 0 < w.heap.size := cell_lt g0
  have g1 := h.c1
  have z1 : 1 < w.heap.size := cell_lt g1
  have g2 := h.c2
  have z2 : 2 < w.heap.size := cell_lt g2
  clear hI
  have n0 : ¬ (0 = w.heap.size) := by have := z2; omega
  have n0' : ¬ (w.heap.size = 0) := by have := z2; omega
  have n1 : ¬ (1 = w.heap.size) := by have := z2; omega
  have n1' : ¬ (w.heap.size = 1) := by have := z2; omega
  have n2 : ¬ (2 = w.heap.size) := by have := z2; omega
  have n2' : ¬ (w.heap.size = 2) := by have := z2; omega
  unfold ErrV at *
  go_enter Tryd.func27, Tryd.ntmps27
  go_wp2_with fail
  refine (is_other (A 2) (A 0) _ (h.ne (by decide) (by decide) (by decide)) (((h.pl 2 (by decide)).below (by repeat first | exact ext_new _ _ | exact Below.refl _ _ | refine ext_alloc ?_ _))) (((h.pl 0 (by decide)).below (by repeat first | exact ext_new _ _ | exact Below.refl _ _ | refine ext_alloc ?_ _)))).mono ?_
  rintro e w' ⟨rfl, rfl⟩
  go_wp2_with fail
  refine (is_other (A 2) (A 1) _ (h.ne (by decide) (by decide) (by decide)) (((h.pl 2 (by decide)).below (by repeat first | exact ext_new _ _ | exact Below.refl _ _ | refine ext_alloc ?_ _))) (((h.pl 1 (by decide)).below (by repeat first | exact ext_new _ _ | exact Below.refl _ _ | refine ext_alloc ?_ _)))).mono ?_
  rintro e w' ⟨rfl, rfl⟩
  go_wp2_with fail
  refine (is_same (A 2) _).mono ?_
  rintro e w' ⟨rfl, rfl⟩
  go_wp2_with fail
  exact bodyPost_ret (results_tmp2 rfl _ _ _) rfl ⟨rfl, ext_new _ _⟩

theorem heitherI_3 (v : Int) (w : World) (A : Nat → Addr) (aN aW aS : Addr) (h : HInv w A aN aW aS) :
    Calls Tryd.prog 27 #[.agg #[.int .i64 v, ErrV (A 3)]] w (Ret (.tuple #[.int .i64 0, .int .i64 20]) w) := by
  have hI := h.below (ext_new w (.cells #[.int .i64 v, ErrV (A 3)] 57))
  have g0 := h.c0
  have z0 : 0 < w.heap.size := cell_lt g0
  have g1 := h.c1
  have z1 : 1 < w.heap.size := cell_lt g1
  have g2 := h.c2
  have z2 : 2 < w.heap.size := cell_lt g2
  have g3 := h.c3
  have z3 : 3 < w.heap.size := cell_lt g3
  clear hI
  have n0 : ¬ (0 = w.heap.size) := by have := z3; omega
  have n0' : ¬ (w.heap.size = 0) := by have := z3; omega
  have n1 : ¬ (1 = w.heap.size) := by have := z3; omega
  have n1' : ¬ (w.heap.size = 1) := by have := z3; omega
  have n2 : ¬ (2 = w.heap.size) := by have := z3; omega
  have n2' : ¬ (w.heap.size = 2) := by have := z3; omega
  have n3 : ¬ (3 = w.heap.size) := by have := z3; omega
  have n3' : ¬ (w.heap.size = 3) := by have := z3; omega
  unfold ErrV at *
  go_enter Tryd.func27, Tryd.ntmps27
  go_wp2_with fail
  refine (is_other (A 3) (A 0) _ (h.ne (by decide) (by decide) (by decide)) (((h.pl 3 (by decide)).below (by repeat first | exact ext_new _ _ | exact Below.refl _ _ | refine ext_alloc ?_ _))) (((h.pl 0 (by decide)).below (by repeat first | exact ext_new _ _ | exact Below.refl _ _ | refine ext_alloc ?_ _)))).mono ?_
  rintro e w' ⟨rfl, rfl⟩
  go_wp2_with fail
  refine (is_other (A 3) (A 1) _ (h.ne (by decide) (by decide) (by decide)) (((h.pl 3 (by decide)).below (by repeat first | exact ext_new _ _ | exact Below.refl _ _ | refine ext_alloc ?_ _))) (((h.pl 1 (by decide)).below (by repeat first | exact ext_new _ _ | exact Below.refl _ _ | refine ext_alloc ?_ _)))).mono ?_
  rintro e w' ⟨rfl, rfl⟩
  go_wp2_with fail
  refine (is_other (A 3) (A 2) _ (h.ne (by decide) (by decide) (by decide)) (((h.pl 3 (by decide)).below (by repeat first | exact ext_new _ _ | exact Below.refl _ _ | refine ext_alloc ?_ _))) (((h.pl 2 (by decide)).below (by repeat first | exact ext_new _ _ | exact Below.refl _ _ | refine ext_alloc ?_ _)))).mono ?_
  rintro e w' ⟨rfl, rfl⟩
  go_wp2_with fail
  refine (is_same (A 3) _).mono ?_
  rintro e w' ⟨rfl, rfl⟩
  go_wp2_with fail
  exact bodyPost_ret (results_tmp2 rfl _ _ _) rfl ⟨rfl, ext_new _ _⟩

theorem heitherI_nil (v : Int) (w : World) (A : Nat → Addr) (aN aW aS : Addr) (h : HInv w A aN aW aS) :
    Calls Tryd.prog 27 #[.agg #[.int .i64 v, .nilIface]] w (Ret (.tuple #[.int .i64 v, .int .i64 0]) w) := by
  have hI := h.below (ext_new w (.cells #[.int .i64 v, .nilIface] 57))
  have g0 := h.c0
  have z0 : 0 < w.heap.size := cell_lt g0
  have g1 := h.c1
  have z1 : 1 < w.heap.size := cell_lt g1
  have g2 := h.c2
  have z2 : 2 < w.heap.size := cell_lt g2
  have g3 := h.c3
  have z3 : 3 < w.heap.size := cell_lt g3
  clear hI
  have n0 : ¬ (0 = w.heap.size) := by have := z3; omega
  have n0' : ¬ (w.heap.size = 0) := by have := z3; omega
  have n1 : ¬ (1 = w.heap.size) := by have := z3; omega
  have n1' : ¬ (w.heap.size = 1) := by have := z3; omega
  have n2 : ¬ (2 = w.heap.size) := by have := z3; omega
  have n2' : ¬ (w.heap.size = 2) := by have := z3; omega
  have n3 : ¬ (3 = w.heap.size) := by have := z3; omega
  have n3' : ¬ (w.heap.size = 3) := by have := z3; omega
  unfold ErrV at *
  go_enter Tryd.func27, Tryd.ntmps27
  go_wp2_with fail
  refine (is_nil (A 0) _).mono ?_
  rintro e w' ⟨rfl, rfl⟩
  go_wp2_with fail
  refine (is_nil (A 1) _).mono ?_
  rintro e w' ⟨rfl, rfl⟩
  go_wp2_with fail
  refine (is_nil (A 2) _).mono ?_
  rintro e w' ⟨rfl, rfl⟩
  go_wp2_with fail
  refine (is_nil (A 3) _).mono ?_
  rintro e w' ⟨rfl, rfl⟩
  go_wp2_with fail
  exact bodyPost_ret (results_tmp2 rfl _ _ _) rfl ⟨rfl, ext_new _ _⟩

theorem heitherH_0 (m n x : Int) (w : World) (A : Nat → Addr) (aN aW aS : Addr) (h : HInv w A aN aW aS) :
    Calls Tryd.prog 20 #[.agg #[.int .i64 m, .int .i64 n, .int .i64 x, ErrV (A 0)]] w (Ret (.tuple #[.agg #[.int .i64 0, .int .i64 0, .int .i64 0], .int .i64 2]) w) := by
  have hI := h.below (ext_new w (.cells #[.int .i64 m, .int .i64 n, .int .i64 x, ErrV (A 0)] 47))
  have g0 := h.c0
  have z0 : 0 < w.heap.size := cell_lt g0
  clear hI
  have n0 : ¬ (0 = w.heap.size) := by have := z0; omega
  have n0' : ¬ (w.heap.size = 0) := by have := z0; omega
  unfold ErrV at *
  go_enter Tryd.func20, Tryd.ntmps20
  go_wp2_with fail
  refine (is_same (A 0) _).mono ?_
  rintro e w' ⟨rfl, rfl⟩
  go_wp2_with fail
  exact bodyPost_ret (v := .tuple #[.agg #[.int .i64 0, .int .i64 0, .int .i64 0], .int .i64 2]) (by simp [results, Tryd.results20, go_sem, *]) rfl ⟨rfl, by repeat first | exact Below.refl _ _ | exact ext_new _ _ | refine ext_alloc ?_ _⟩

theorem heitherH_1 (m n x : Int) (w : World) (A : Nat → Addr) (aN aW aS : Addr) (h : HInv w A aN aW aS) :
    Calls Tryd.prog 20 #[.agg #[.int .i64 m, .int .i64 n, .int .i64 x, ErrV (A 1)]] w (Ret (.tuple #[.agg #[.int .i64 0, .int .i64 0, .int .i64 0], .int .i64 10]) w) := by
  have hI := h.below (ext_new w (.cells #[.int .i64 m, .int .i64 n, .int .i64 x, ErrV (A 1)] 47))
  have g0 := h.c0
  have z0 : 0 < w.heap.size := cell_lt g0
  have g1 := h.c1
  have z1 : 1 < w.heap.size := cell_lt g1
  clear hI
  have n0 : ¬ (0 = w.heap.size) := by have := z1; omega
  have n0' : ¬ (w.heap.size = 0) := by have := z1; omega
  have n1 : ¬ (1 = w.heap.size) := by have := z1; omega
  have n1' : ¬ (w.heap.size = 1) := by have := z1; omega
  unfold ErrV at *
  go_enter Tryd.func20, Tryd.ntmps20
  go_wp2_with fail
  refine (is_other (A 1) (A 0) _ (h.ne (by decide) (by decide) (by decide)) (((h.pl 1 (by decide)).below (by repeat first | exact ext_new _ _ | exact Below.refl _ _ | refine ext_alloc ?_ _))) (((h.pl 0 (by decide)).below (by repeat first | exact ext_new _ _ | exact Below.refl _ _ | refine ext_alloc ?_ _)))).mono ?_
  rintro e w' ⟨rfl, rfl⟩
  go_wp2_with fail
  refine (is_same (A 1) _).mono ?_
  rintro e w' ⟨rfl, rfl⟩
  go_wp2_with fail
  exact bodyPost_ret (v := .tuple #[.agg #[.int .i64 0, .int .i64 0, .int .i64 0], .int .i64 10]) (by simp [results, Tryd.results20, go_sem, *]) rfl ⟨rfl, by repeat first | exact Below.refl _ _ | exact ext_new _ _ | refine ext_alloc ?_ _⟩

theorem heitherH_2 (m n x : Int) (w : World) (A : Nat → Addr) (aN aW aS : Addr) (h : HInv w A aN aW aS) :
    Calls Tryd.prog 20 #[.agg #[.int .i64 m, .int .i64 n, .int .i64 x, ErrV (A 2)]] w (Ret (.tuple #[.agg #[.int .i64 0, .int .i64 0, .int .i64 0], .int .i64 11]) w) := by
  have hI := h.below (ext_new w (.cells #[.int .i64 m, .int .i64 n, .int .i64 x, ErrV (A 2)] 47))
  have g0 := h.c0
  have z0 : 0 < w.heap.size := cell_lt g0
  have g1 := h.c1
  have z1 : 1 < w.heap.size := cell_lt g1
  have g2 := h.c2
  have z2 : 2 < w.heap.size := cell_lt g2
  clear hI
  have n0 : ¬ (0 = w.heap.size) := by have := z2; omega
  have n0' : ¬ (w.heap.size = 0) := by have := z2; omega
  have n1 : ¬ (1 = w.heap.size) := by have := z2; omega
  have n1' : ¬ (w.heap.size = 1) := by have := z2; omega
  have n2 : ¬ (2 = w.heap.size) := by have := z2; omega
  have n2' : ¬ (w.heap.size = 2) := by have := z2; omega
  unfold ErrV at *
  go_enter Tryd.func20, Tryd.ntmps20
  go_wp2_with fail
  refine (is_other (A 2) (A 0) _ (h.ne (by decide) (by decide) (by decide)) (((h.pl 2 (by decide)).below (by repeat first | exact ext_new _ _ | exact Below.refl _ _ | refine ext_alloc ?_ _))) (((h.pl 0 (by decide)).below (by repeat first | exact ext_new _ _ | exact Below.refl _ _ | refine ext_alloc ?_ _)))).mono ?_
  rintro e w' ⟨rfl, rfl⟩
  go_wp2_with fail
  refine (is_other (A 2) (A 1) _ (h.ne (by decide) (by decide) (by decide)) (((h.pl 2 (by decide)).below (by repeat first | exact ext_new _ _ | exact Below.refl _ _ | refine ext_alloc ?_ _))) (((h.pl 1 (by decide)).below (by repeat first | exact ext_new _ _ | exact Below.refl _ _ | refine ext_alloc ?_ _)))).mono ?_
  rintro e w' ⟨rfl, rfl⟩
  go_wp2_with fail
  refine (is_same (A 2) _).mono ?_
  rintro e w' ⟨rfl, rfl⟩
  go_wp2_with fail
  exact bodyPost_ret (v := .tuple #[.agg #[.int .i64 0, .int .i64 0, .int .i64 0], .int .i64 11]) (by simp [results, Tryd.results20, go_sem, *]) rfl ⟨rfl, by repeat first | exact Below.refl _ _ | exact ext_new _ _ | refine ext_alloc ?_ _⟩

theorem heitherH_3 (m n x : Int) (w : World) (A : Nat → Addr) (aN aW aS : Addr) (h : HInv w A aN aW aS) :
    Calls Tryd.prog 20 #[.agg #[.int .i64 m, .int .i64 n, .int .i64 x, ErrV (A 3)]] w (Ret (.tuple #[.agg #[.int .i64 0, .int .i64 0, .int .i64 0], .int .i64 20]) w) := by
  have hI := h.below (ext_new w (.cells #[.int .i64 m, .int .i64 n, .int .i64 x, ErrV (A 3)] 47))
  have g0 := h.c0
  have z0 : 0 < w.heap.size := cell_lt g0
  have g1 := h.c1
  have z1 : 1 < w.heap.size := cell_lt g1
  have g2 := h.c2
  have z2 : 2 < w.heap.size := cell_lt g2
  have g3 := h.c3
  have z3 : 3 < w.heap.size := cell_lt g3
  clear hI
  have n0 : ¬ (0 = w.heap.size) := by have := z3; omega
  have n0' : ¬ (w.heap.size = 0) := by have := z3; omega
  have n1 : ¬ (1 = w.heap.size) := by have := z3; omega
  have n1' : ¬ (w.heap.size = 1) := by have := z3; omega
  have n2 : ¬ (2 = w.heap.size) := by have := z3; omega
  have n2' : ¬ (w.heap.size = 2) := by have := z3; omega
  have n3 : ¬ (3 = w.heap.size) := by have := z3; omega
  have n3' : ¬ (w.heap.size = 3) := by have := z3; omega
  have G3 : (((w.alloc (.cells #[.int .i64 m, .int .i64 n, .int .i64 x, ErrV (A 3)] 47)).alloc (.cells #[.int .i64 0, .int .i64 0, .int .i64 0] 43)).alloc (.cells #[.int .i64 0, .int .i64 0, .int .i64 0] 43)).cell? ⟨3, 0, none⟩ = some (ErrV (A 3)) := cell_later (ext_alloc (ext_alloc (ext_new _ _) _) _) h.c3
  unfold ErrV at *
  go_enter Tryd.func20, Tryd.ntmps20
  go_wp2_with fail
  refine (is_other (A 3) (A 0) _ (h.ne (by decide) (by decide) (by decide)) (((h.pl 3 (by decide)).below (by repeat first | exact ext_new _ _ | exact Below.refl _ _ | refine ext_alloc ?_ _))) (((h.pl 0 (by decide)).below (by repeat first | exact ext_new _ _ | exact Below.refl _ _ | refine ext_alloc ?_ _)))).mono ?_
  rintro e w' ⟨rfl, rfl⟩
  go_wp2_with fail
  refine (is_other (A 3) (A 1) _ (h.ne (by decide) (by decide) (by decide)) (((h.pl 3 (by decide)).below (by repeat first | exact ext_new _ _ | exact Below.refl _ _ | refine ext_alloc ?_ _))) (((h.pl 1 (by decide)).below (by repeat first | exact ext_new _ _ | exact Below.refl _ _ | refine ext_alloc ?_ _)))).mono ?_
  rintro e w' ⟨rfl, rfl⟩
  go_wp2_with fail
  refine (is_other (A 3) (A 2) _ (h.ne (by decide) (by decide) (by decide)) (((h.pl 3 (by decide)).below (by repeat first | exact ext_new _ _ | exact Below.refl _ _ | refine ext_alloc ?_ _))) (((h.pl 2 (by decide)).below (by repeat first | exact ext_new _ _ | exact Below.refl _ _ | refine ext_alloc ?_ _)))).mono ?_
  rintro e w' ⟨rfl, rfl⟩
  go_wp2_with fail
  refine (is_same (A 3) _).mono ?_
  rintro e w' ⟨rfl, rfl⟩
  go_wp2_with fail
  exact bodyPost_ret (v := .tuple #[.agg #[.int .i64 0, .int .i64 0, .int .i64 0], .int .i64 20]) (by simp [results, Tryd.results20, go_sem, *]) rfl ⟨rfl, by repeat first | exact Below.refl _ _ | exact ext_new _ _ | refine ext_alloc ?_ _⟩

theorem heitherH_nil (m n x : Int) (w : World) (A : Nat → Addr) (aN aW aS : Addr) (h : HInv w A aN aW aS) :
    Calls Tryd.prog 20 #[.agg #[.int .i64 m, .int .i64 n, .int .i64 x, .nilIface]] w (Ret (.tuple #[.agg #[.int .i64 m, .int .i64 n, .int .i64 x], .int .i64 0]) w) := by
  have hI := h.below (ext_new w (.cells #[.int .i64 m, .int .i64 n, .int .i64 x, .nilIface] 47))
  have g0 := h.c0
  have z0 : 0 < w.heap.size := cell_lt g0
  have g1 := h.c1
  have z1 : 1 < w.heap.size := cell_lt g1
  have g2 := h.c2
  have z2 : 2 < w.heap.size := cell_lt g2
  have g3 := h.c3
  have z3 : 3 < w.heap.size := cell_lt g3
  clear hI
  have n0 : ¬ (0 = w.heap.size) := by have := z3; omega
  have n0' : ¬ (w.heap.size = 0) := by have := z3; omega
  have n1 : ¬ (1 = w.heap.size) := by have := z3; omega
  have n1' : ¬ (w.heap.size = 1) := by have := z3; omega
  have n2 : ¬ (2 = w.heap.size) := by have := z3; omega
  have n2' : ¬ (w.heap.size = 2) := by have := z3; omega
  have n3 : ¬ (3 = w.heap.size) := by have := z3; omega
  have n3' : ¬ (w.heap.size = 3) := by have := z3; omega
  have G3 : (((w.alloc (.cells #[.int .i64 m, .int .i64 n, .int .i64 x, .nilIface] 47)).alloc (.cells #[.int .i64 0, .int .i64 0, .int .i64 0] 43)).alloc (.cells #[.int .i64 0, .int .i64 0, .int .i64 0] 43)).cell? ⟨3, 0, none⟩ = some (ErrV (A 3)) := cell_later (ext_alloc (ext_alloc (ext_new _ _) _) _) h.c3
  unfold ErrV at *
  go_enter Tryd.func20, Tryd.ntmps20
  go_wp2_with fail
  refine (is_nil (A 0) _).mono ?_
  rintro e w' ⟨rfl, rfl⟩
  go_wp2_with fail
  refine (is_nil (A 1) _).mono ?_
  rintro e w' ⟨rfl, rfl⟩
  go_wp2_with fail
  refine (is_nil (A 2) _).mono ?_
  rintro e w' ⟨rfl, rfl⟩
  go_wp2_with fail
  refine (is_nil (A 3) _).mono ?_
  rintro e w' ⟨rfl, rfl⟩
  go_wp2_with fail
  exact bodyPost_ret (v := .tuple #[.agg #[.int .i64 m, .int .i64 n, .int .i64 x], .int .i64 0]) (by simp [results, Tryd.results20, go_sem, *]) rfl ⟨rfl, by repeat first | exact Below.refl _ _ | exact ext_new _ _ | refine ext_alloc ?_ _⟩

end Go.Proofs.YtfkekdpppcidbaaDoor
