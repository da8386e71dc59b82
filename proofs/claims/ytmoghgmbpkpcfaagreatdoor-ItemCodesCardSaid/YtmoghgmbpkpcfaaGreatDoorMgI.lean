/-
  Package head: what its variables hold ('HInv'), either's contracts, isMajor. Conditions: the listed variables hold different errors of errors.New's make, and the table of rooms ('HInv'). Package head: the iterator over the rooms that have room for an argument (fits$1), as a contract for whatever loop body. Conditions: as the theorems' own hypotheses say. Package head: isMajor, and a head's bytes where there are none (encoded). Conditions: the listed variables hold what 'HInv' says.
-/
import Derived.Test.YtmoghgmbpkpcfaaGreatDoorMgE
import Derived.Test.YtmoghgmbpkpcfaaGreatDoorMgC
import Derived.Laws.BitsAllLaws
import Derived.Test.YtmoghgmbpkpcfaaGreatDoorMgB
import Derived.Test.YtmoghgmbpkpcfaaGreatDoorMgA
namespace Go.Proofs.YtmoghgmbpkpcfaaGreatDoor
open Go.RowKit

/-- What package head's variables hold. -/
structure HInv (w : World) (A : Nat → Addr) (aN aW aS : Addr) : Prop where
  c0 : w.cell? ⟨0, 0, none⟩ = some (ErrV (A 0))
  c1 : w.cell? ⟨1, 0, none⟩ = some (ErrV (A 1))
  c2 : w.cell? ⟨2, 0, none⟩ = some (ErrV (A 2))
  c3 : w.cell? ⟨3, 0, none⟩ = some (ErrV (A 3))
  pl : ∀ k, k < 4 → Plain w (A k)
  inj : ∀ i j, i < 4 → j < 4 → A i = A j → i = j
  r0 : w.cell? ⟨5, 0, none⟩ = some (.int .i64 0)
  r1 : w.cell? ⟨5, 1, none⟩ = some (.int .i64 24)
  r2 : w.cell? ⟨5, 2, none⟩ = some (.int .i64 0)
  r3 : w.cell? ⟨5, 3, none⟩ = some (.int .i64 1)
  r4 : w.cell? ⟨5, 4, none⟩ = some (.int .i64 256)
  r5 : w.cell? ⟨5, 5, none⟩ = some (.int .i64 24)
  r6 : w.cell? ⟨5, 6, none⟩ = some (.int .i64 2)
  r7 : w.cell? ⟨5, 7, none⟩ = some (.int .i64 65536)
  r8 : w.cell? ⟨5, 8, none⟩ = some (.int .i64 25)
  r9 : w.cell? ⟨5, 9, none⟩ = some (.int .i64 4)
  r10 : w.cell? ⟨5, 10, none⟩ = some (.int .i64 4294967296)
  r11 : w.cell? ⟨5, 11, none⟩ = some (.int .i64 26)
  r12 : w.cell? ⟨5, 12, none⟩ = some (.int .i64 8)
  r13 : w.cell? ⟨5, 13, none⟩ = some (.int .i64 281474976710656)
  r14 : w.cell? ⟨5, 14, none⟩ = some (.int .i64 27)
  nums : NInv w aN aW aS

theorem HInv.below {w w' : World} {A : Nat → Addr} {aN aW aS : Addr} (h : HInv w A aN aW aS) (hb : Below w.heap.size w w') : HInv w' A aN aW aS :=
  ⟨cell_later hb h.c0, cell_later hb h.c1, cell_later hb h.c2, cell_later hb h.c3, fun k hk => (h.pl k hk).below hb, h.inj, cell_later hb h.r0, cell_later hb h.r1, cell_later hb h.r2, cell_later hb h.r3, cell_later hb h.r4, cell_later hb h.r5, cell_later hb h.r6, cell_later hb h.r7, cell_later hb h.r8, cell_later hb h.r9, cell_later hb h.r10, cell_later hb h.r11, cell_later hb h.r12, cell_later hb h.r13, cell_later hb h.r14, h.nums.below hb⟩
theorem HInv.ne {w : World} {A : Nat → Addr} {aN aW aS : Addr} (h : HInv w A aN aW aS) {i j : Nat} (hi : i < 4) (hj : j < 4) (hij : i ≠ j) : A i ≠ A j := fun e => hij (h.inj i j hi hj e)

theorem heitherS_0 (v : ByteArray) (w : World) (A : Nat → Addr) (aN aW aS : Addr) (h : HInv w A aN aW aS) :
    Calls Tryz.prog 32 #[.agg #[.string v, ErrV (A 0)]] w (Ret (.tuple #[.string ByteArray.empty, .int .i64 2]) w) := by
  have hI := h.below (ext_new w (.cells #[.string v, ErrV (A 0)] 77))
  have g0 := h.c0
  have z0 : 0 < w.heap.size := cell_lt g0
  clear hI
  have n0 : ¬ (0 = w.heap.size) := by have := z0; omega
  have n0' : ¬ (w.heap.size = 0) := by have := z0; omega
  unfold ErrV at *
  go_enter Tryz.func32, Tryz.ntmps32
  go_wp2_with fail
  refine (is_same (A 0) _).mono ?_
  rintro e w' ⟨rfl, rfl⟩
  go_wp2_with fail
  exact bodyPost_ret (results_tmp2 rfl _ _ _) rfl ⟨rfl, ext_new _ _⟩

theorem heitherS_1 (v : ByteArray) (w : World) (A : Nat → Addr) (aN aW aS : Addr) (h : HInv w A aN aW aS) :
    Calls Tryz.prog 32 #[.agg #[.string v, ErrV (A 1)]] w (Ret (.tuple #[.string ByteArray.empty, .int .i64 10]) w) := by
  have hI := h.below (ext_new w (.cells #[.string v, ErrV (A 1)] 77))
  have g0 := h.c0
  have z0 : 0 < w.heap.size := cell_lt g0
  have g1 := h.c1
  have z1 : 1 < w.heap.size := cell_lt g1
  clear hI
  have n0 : ¬ (0 = w.heap.size) := by have := z1; omega
  have n0' : ¬ (w.heap.size = 0) := by have := z1; omega
  have n1 : ¬ (1 = w.heap.size) := by have := z1; omega
  have n1' : ¬ (w.heap.size = 1) := by have := z1; omega
  unfold ErrV at *
  go_enter Tryz.func32, Tryz.ntmps32
  go_wp2_with fail
  refine (is_other (A 1) (A 0) _ (h.ne (by decide) (by decide) (by decide)) (((h.pl 1 (by decide)).below (by repeat first | exact ext_new _ _ | exact Below.refl _ _ | refine ext_alloc ?_ _))) (((h.pl 0 (by decide)).below (by repeat first | exact ext_new _ _ | exact Below.refl _ _ | refine ext_alloc ?_ _)))).mono ?_
  rintro e w' ⟨rfl, rfl⟩
  go_wp2_with fail
  refine (is_same (A 1) _).mono ?_
  rintro e w' ⟨rfl, rfl⟩
  go_wp2_with fail
  exact bodyPost_ret (results_tmp2 rfl _ _ _) rfl ⟨rfl, ext_new _ _⟩

theorem heitherS_2 (v : ByteArray) (w : World) (A : Nat → Addr) (aN aW aS : Addr) (h : HInv w A aN aW aS) :
    Calls Tryz.prog 32 #[.agg #[.string v, ErrV (A 2)]] w (Ret (.tuple #[.string ByteArray.empty, .int .i64 11]) w) := by
  have hI := h.below (ext_new w (.cells #[.string v, ErrV (A 2)] 77))
  have g0 := h.c0
  have z0 : 0 < w.heap.size := cell_lt g0
  have g1 := h.c1
  have z1 : 1 < w.heap.size := cell_lt g1
  have g2 := h.c2
  have z2 : 2 < w.heap.size := cell_lt g2
  clear hI
  have n0 : ¬ (0 = w.heap.size) := by have := z2; omega
  have n0' : ¬ (w.heap.size = 0) := by have := z2; omega
  have n1 : ¬ (1 = w.heap.size) := by have := z2; omega
  have n1' : ¬ (w.heap.size = 1) := by have := z2; omega
  have n2 : ¬ (2 = w.heap.size) := by have := z2; omega
  have n2' : ¬ (w.heap.size = 2) := by have := z2; omega
  unfold ErrV at *
  go_enter Tryz.func32, Tryz.ntmps32
  go_wp2_with fail
  refine (is_other (A 2) (A 0) _ (h.ne (by decide) (by decide) (by decide)) (((h.pl 2 (by decide)).below (by repeat first | exact ext_new _ _ | exact Below.refl _ _ | refine ext_alloc ?_ _))) (((h.pl 0 (by decide)).below (by repeat first | exact ext_new _ _ | exact Below.refl _ _ | refine ext_alloc ?_ _)))).mono ?_
  rintro e w' ⟨rfl, rfl⟩
  go_wp2_with fail
  refine (is_other (A 2) (A 1) _ (h.ne (by decide) (by decide) (by decide)) (((h.pl 2 (by decide)).below (by repeat first | exact ext_new _ _ | exact Below.refl _ _ | refine ext_alloc ?_ _))) (((h.pl 1 (by decide)).below (by repeat first | exact ext_new _ _ | exact Below.refl _ _ | refine ext_alloc ?_ _)))).mono ?_
  rintro e w' ⟨rfl, rfl⟩
  go_wp2_with fail
  refine (is_same (A 2) _).mono ?_
  rintro e w' ⟨rfl, rfl⟩
  go_wp2_with fail
  exact bodyPost_ret (results_tmp2 rfl _ _ _) rfl ⟨rfl, ext_new _ _⟩

theorem heitherS_3 (v : ByteArray) (w : World) (A : Nat → Addr) (aN aW aS : Addr) (h : HInv w A aN aW aS) :
    Calls Tryz.prog 32 #[.agg #[.string v, ErrV (A 3)]] w (Ret (.tuple #[.string ByteArray.empty, .int .i64 20]) w) := by
  have hI := h.below (ext_new w (.cells #[.string v, ErrV (A 3)] 77))
  have g0 := h.c0
  have z0 : 0 < w.heap.size := cell_lt g0
  have g1 := h.c1
  have z1 : 1 < w.heap.size := cell_lt g1
  have g2 := h.c2
  have z2 : 2 < w.heap.size := cell_lt g2
  have g3 := h.c3
  have z3 : 3 < w.heap.size := cell_lt g3
  clear hI
  have n0 : ¬ (0 = w.heap.size) := by have := z3; omega
  have n0' : ¬ (w.heap.size = 0) := by have := z3; omega
  have n1 : ¬ (1 = w.heap.size) := by have := z3; omega
  have n1' : ¬ (w.heap.size = 1) := by have := z3; omega
  have n2 : ¬ (2 = w.heap.size) := by have := z3; omega
  have n2' : ¬ (w.heap.size = 2) := by have := z3; omega
  have n3 : ¬ (3 = w.heap.size) := by have := z3; omega
  have n3' : ¬ (w.heap.size = 3) := by have := z3; omega
  unfold ErrV at *
  go_enter Tryz.func32, Tryz.ntmps32
  go_wp2_with fail
  refine (is_other (A 3) (A 0) _ (h.ne (by decide) (by decide) (by decide)) (((h.pl 3 (by decide)).below (by repeat first | exact ext_new _ _ | exact Below.refl _ _ | refine ext_alloc ?_ _))) (((h.pl 0 (by decide)).below (by repeat first | exact ext_new _ _ | exact Below.refl _ _ | refine ext_alloc ?_ _)))).mono ?_
  rintro e w' ⟨rfl, rfl⟩
  go_wp2_with fail
  refine (is_other (A 3) (A 1) _ (h.ne (by decide) (by decide) (by decide)) (((h.pl 3 (by decide)).below (by repeat first | exact ext_new _ _ | exact Below.refl _ _ | refine ext_alloc ?_ _))) (((h.pl 1 (by decide)).below (by repeat first | exact ext_new _ _ | exact Below.refl _ _ | refine ext_alloc ?_ _)))).mono ?_
  rintro e w' ⟨rfl, rfl⟩
  go_wp2_with fail
  refine (is_other (A 3) (A 2) _ (h.ne (by decide) (by decide) (by decide)) (((h.pl 3 (by decide)).below (by repeat first | exact ext_new _ _ | exact Below.refl _ _ | refine ext_alloc ?_ _))) (((h.pl 2 (by decide)).below (by repeat first | exact ext_new _ _ | exact Below.refl _ _ | refine ext_alloc ?_ _)))).mono ?_
  rintro e w' ⟨rfl, rfl⟩
  go_wp2_with fail
  refine (is_same (A 3) _).mono ?_
  rintro e w' ⟨rfl, rfl⟩
  go_wp2_with fail
  exact bodyPost_ret (results_tmp2 rfl _ _ _) rfl ⟨rfl, ext_new _ _⟩

theorem heitherS_nil (v : ByteArray) (w : World) (A : Nat → Addr) (aN aW aS : Addr) (h : HInv w A aN aW aS) :
    Calls Tryz.prog 32 #[.agg #[.string v, .nilIface]] w (Ret (.tuple #[.string v, .int .i64 0]) w) := by
  have hI := h.below (ext_new w (.cells #[.string v, .nilIface] 77))
  have g0 := h.c0
  have z0 : 0 < w.heap.size := cell_lt g0
  have g1 := h.c1
  have z1 : 1 < w.heap.size := cell_lt g1
  have g2 := h.c2
  have z2 : 2 < w.heap.size := cell_lt g2
  have g3 := h.c3
  have z3 : 3 < w.heap.size := cell_lt g3
  clear hI
  have n0 : ¬ (0 = w.heap.size) := by have := z3; omega
  have n0' : ¬ (w.heap.size = 0) := by have := z3; omega
  have n1 : ¬ (1 = w.heap.size) := by have := z3; omega
  have n1' : ¬ (w.heap.size = 1) := by have := z3; omega
  have n2 : ¬ (2 = w.heap.size) := by have := z3; omega
  have n2' : ¬ (w.heap.size = 2) := by have := z3; omega
  have n3 : ¬ (3 = w.heap.size) := by have := z3; omega
  have n3' : ¬ (w.heap.size = 3) := by have := z3; omega
  unfold ErrV at *
  go_enter Tryz.func32, Tryz.ntmps32
  go_wp2_with fail
  refine (is_nil (A 0) _).mono ?_
  rintro e w' ⟨rfl, rfl⟩
  go_wp2_with fail
  refine (is_nil (A 1) _).mono ?_
  rintro e w' ⟨rfl, rfl⟩
  go_wp2_with fail
  refine (is_nil (A 2) _).mono ?_
  rintro e w' ⟨rfl, rfl⟩
  go_wp2_with fail
  refine (is_nil (A 3) _).mono ?_
  rintro e w' ⟨rfl, rfl⟩
  go_wp2_with fail
  exact bodyPost_ret (results_tmp2 rfl _ _ _) rfl ⟨rfl, ext_new _ _⟩

theorem heitherH_0 (m n x : Int) (w : World) (A : Nat → Addr) (aN aW aS : Addr) (h : HInv w A aN aW aS) :
    Calls Tryz.prog 75 #[.agg #[.int .i64 m, .int .i64 n, .int .i64 x, ErrV (A 0)]] w (Ret (.tuple #[.agg #[.int .i64 0, .int .i64 0, .int .i64 0], .int .i64 2]) w) := by
  have hI := h.below (ext_new w (.cells #[.int .i64 m, .int .i64 n, .int .i64 x, ErrV (A 0)] 139))
  have g0 := h.c0
  have z0 : 0 < w.heap.size := cell_lt g0
  clear hI
  have n0 : ¬ (0 = w.heap.size) := by have := z0; omega
  have n0' : ¬ (w.heap.size = 0) := by have := z0; omega
  unfold ErrV at *
  go_enter Tryz.func75, Tryz.ntmps75
  go_wp2_with fail
  refine (is_same (A 0) _).mono ?_
  rintro e w' ⟨rfl, rfl⟩
  go_wp2_with fail
  exact bodyPost_ret (v := .tuple #[.agg #[.int .i64 0, .int .i64 0, .int .i64 0], .int .i64 2]) (by simp [results, Tryz.results75, go_sem, *]) rfl ⟨rfl, by repeat first | exact Below.refl _ _ | exact ext_new _ _ | refine ext_alloc ?_ _⟩

theorem heitherH_1 (m n x : Int) (w : World) (A : Nat → Addr) (aN aW aS : Addr) (h : HInv w A aN aW aS) :
    Calls Tryz.prog 75 #[.agg #[.int .i64 m, .int .i64 n, .int .i64 x, ErrV (A 1)]] w (Ret (.tuple #[.agg #[.int .i64 0, .int .i64 0, .int .i64 0], .int .i64 10]) w) := by
  have hI := h.below (ext_new w (.cells #[.int .i64 m, .int .i64 n, .int .i64 x, ErrV (A 1)] 139))
  have g0 := h.c0
  have z0 : 0 < w.heap.size := cell_lt g0
  have g1 := h.c1
  have z1 : 1 < w.heap.size := cell_lt g1
  clear hI
  have n0 : ¬ (0 = w.heap.size) := by have := z1; omega
  have n0' : ¬ (w.heap.size = 0) := by have := z1; omega
  have n1 : ¬ (1 = w.heap.size) := by have := z1; omega
  have n1' : ¬ (w.heap.size = 1) := by have := z1; omega
  unfold ErrV at *
  go_enter Tryz.func75, Tryz.ntmps75
  go_wp2_with fail
  refine (is_other (A 1) (A 0) _ (h.ne (by decide) (by decide) (by decide)) (((h.pl 1 (by decide)).below (by repeat first | exact ext_new _ _ | exact Below.refl _ _ | refine ext_alloc ?_ _))) (((h.pl 0 (by decide)).below (by repeat first | exact ext_new _ _ | exact Below.refl _ _ | refine ext_alloc ?_ _)))).mono ?_
  rintro e w' ⟨rfl, rfl⟩
  go_wp2_with fail
  refine (is_same (A 1) _).mono ?_
  rintro e w' ⟨rfl, rfl⟩
  go_wp2_with fail
  exact bodyPost_ret (v := .tuple #[.agg #[.int .i64 0, .int .i64 0, .int .i64 0], .int .i64 10]) (by simp [results, Tryz.results75, go_sem, *]) rfl ⟨rfl, by repeat first | exact Below.refl _ _ | exact ext_new _ _ | refine ext_alloc ?_ _⟩

theorem heitherH_2 (m n x : Int) (w : World) (A : Nat → Addr) (aN aW aS : Addr) (h : HInv w A aN aW aS) :
    Calls Tryz.prog 75 #[.agg #[.int .i64 m, .int .i64 n, .int .i64 x, ErrV (A 2)]] w (Ret (.tuple #[.agg #[.int .i64 0, .int .i64 0, .int .i64 0], .int .i64 11]) w) := by
  have hI := h.below (ext_new w (.cells #[.int .i64 m, .int .i64 n, .int .i64 x, ErrV (A 2)] 139))
  have g0 := h.c0
  have z0 : 0 < w.heap.size := cell_lt g0
  have g1 := h.c1
  have z1 : 1 < w.heap.size := cell_lt g1
  have g2 := h.c2
  have z2 : 2 < w.heap.size := cell_lt g2
  clear hI
  have n0 : ¬ (0 = w.heap.size) := by have := z2; omega
  have n0' : ¬ (w.heap.size = 0) := by have := z2; omega
  have n1 : ¬ (1 = w.heap.size) := by have := z2; omega
  have n1' : ¬ (w.heap.size = 1) := by have := z2; omega
  have n2 : ¬ (2 = w.heap.size) := by have := z2; omega
  have n2' : ¬ (w.heap.size = 2) := by have := z2; omega
  unfold ErrV at *
  go_enter Tryz.func75, Tryz.ntmps75
  go_wp2_with fail
  refine (is_other (A 2) (A 0) _ (h.ne (by decide) (by decide) (by decide)) (((h.pl 2 (by decide)).below (by repeat first | exact ext_new _ _ | exact Below.refl _ _ | refine ext_alloc ?_ _))) (((h.pl 0 (by decide)).below (by repeat first | exact ext_new _ _ | exact Below.refl _ _ | refine ext_alloc ?_ _)))).mono ?_
  rintro e w' ⟨rfl, rfl⟩
  go_wp2_with fail
  refine (is_other (A 2) (A 1) _ (h.ne (by decide) (by decide) (by decide)) (((h.pl 2 (by decide)).below (by repeat first | exact ext_new _ _ | exact Below.refl _ _ | refine ext_alloc ?_ _))) (((h.pl 1 (by decide)).below (by repeat first | exact ext_new _ _ | exact Below.refl _ _ | refine ext_alloc ?_ _)))).mono ?_
  rintro e w' ⟨rfl, rfl⟩
  go_wp2_with fail
  refine (is_same (A 2) _).mono ?_
  rintro e w' ⟨rfl, rfl⟩
  go_wp2_with fail
  exact bodyPost_ret (v := .tuple #[.agg #[.int .i64 0, .int .i64 0, .int .i64 0], .int .i64 11]) (by simp [results, Tryz.results75, go_sem, *]) rfl ⟨rfl, by repeat first | exact Below.refl _ _ | exact ext_new _ _ | refine ext_alloc ?_ _⟩

theorem heitherH_3 (m n x : Int) (w : World) (A : Nat → Addr) (aN aW aS : Addr) (h : HInv w A aN aW aS) :
    Calls Tryz.prog 75 #[.agg #[.int .i64 m, .int .i64 n, .int .i64 x, ErrV (A 3)]] w (Ret (.tuple #[.agg #[.int .i64 0, .int .i64 0, .int .i64 0], .int .i64 20]) w) := by
  have hI := h.below (ext_new w (.cells #[.int .i64 m, .int .i64 n, .int .i64 x, ErrV (A 3)] 139))
  have g0 := h.c0
  have z0 : 0 < w.heap.size := cell_lt g0
  have g1 := h.c1
  have z1 : 1 < w.heap.size := cell_lt g1
  have g2 := h.c2
  have z2 : 2 < w.heap.size := cell_lt g2
  have g3 := h.c3
  have z3 : 3 < w.heap.size := cell_lt g3
  clear hI
  have n0 : ¬ (0 = w.heap.size) := by have := z3; omega
  have n0' : ¬ (w.heap.size = 0) := by have := z3; omega
  have n1 : ¬ (1 = w.heap.size) := by have := z3; omega
  have n1' : ¬ (w.heap.size = 1) := by have := z3; omega
  have n2 : ¬ (2 = w.heap.size) := by have := z3; omega
  have n2' : ¬ (w.heap.size = 2) := by have := z3; omega
  have n3 : ¬ (3 = w.heap.size) := by have := z3; omega
  have n3' : ¬ (w.heap.size = 3) := by have := z3; omega
  have G3 : (((w.alloc (.cells #[.int .i64 m, .int .i64 n, .int .i64 x, ErrV (A 3)] 139)).alloc (.cells #[.int .i64 0, .int .i64 0, .int .i64 0] 135)).alloc (.cells #[.int .i64 0, .int .i64 0, .int .i64 0] 135)).cell? ⟨3, 0, none⟩ = some (ErrV (A 3)) := cell_later (ext_alloc (ext_alloc (ext_new _ _) _) _) h.c3
  unfold ErrV at *
  go_enter Tryz.func75, Tryz.ntmps75
  go_wp2_with fail
  refine (is_other (A 3) (A 0) _ (h.ne (by decide) (by decide) (by decide)) (((h.pl 3 (by decide)).below (by repeat first | exact ext_new _ _ | exact Below.refl _ _ | refine ext_alloc ?_ _))) (((h.pl 0 (by decide)).below (by repeat first | exact ext_new _ _ | exact Below.refl _ _ | refine ext_alloc ?_ _)))).mono ?_
  rintro e w' ⟨rfl, rfl⟩
  go_wp2_with fail
  refine (is_other (A 3) (A 1) _ (h.ne (by decide) (by decide) (by decide)) (((h.pl 3 (by decide)).below (by repeat first | exact ext_new _ _ | exact Below.refl _ _ | refine ext_alloc ?_ _))) (((h.pl 1 (by decide)).below (by repeat first | exact ext_new _ _ | exact Below.refl _ _ | refine ext_alloc ?_ _)))).mono ?_
  rintro e w' ⟨rfl, rfl⟩
  go_wp2_with fail
  refine (is_other (A 3) (A 2) _ (h.ne (by decide) (by decide) (by decide)) (((h.pl 3 (by decide)).below (by repeat first | exact ext_new _ _ | exact Below.refl _ _ | refine ext_alloc ?_ _))) (((h.pl 2 (by decide)).below (by repeat first | exact ext_new _ _ | exact Below.refl _ _ | refine ext_alloc ?_ _)))).mono ?_
  rintro e w' ⟨rfl, rfl⟩
  go_wp2_with fail
  refine (is_same (A 3) _).mono ?_
  rintro e w' ⟨rfl, rfl⟩
  go_wp2_with fail
  exact bodyPost_ret (v := .tuple #[.agg #[.int .i64 0, .int .i64 0, .int .i64 0], .int .i64 20]) (by simp [results, Tryz.results75, go_sem, *]) rfl ⟨rfl, by repeat first | exact Below.refl _ _ | exact ext_new _ _ | refine ext_alloc ?_ _⟩

theorem heitherH_nil (m n x : Int) (w : World) (A : Nat → Addr) (aN aW aS : Addr) (h : HInv w A aN aW aS) :
    Calls Tryz.prog 75 #[.agg #[.int .i64 m, .int .i64 n, .int .i64 x, .nilIface]] w (Ret (.tuple #[.agg #[.int .i64 m, .int .i64 n, .int .i64 x], .int .i64 0]) w) := by
  have hI := h.below (ext_new w (.cells #[.int .i64 m, .int .i64 n, .int .i64 x, .nilIface] 139))
  have g0 := h.c0
  have z0 : 0 < w.heap.size := cell_lt g0
  have g1 := h.c1
  have z1 : 1 < w.heap.size := cell_lt g1
  have g2 := h.c2
  have z2 : 2 < w.heap.size := cell_lt g2
  have g3 := h.c3
  have z3 : 3 < w.heap.size := cell_lt g3
  clear hI
  have n0 : ¬ (0 = w.heap.size) := by have := z3; omega
  have n0' : ¬ (w.heap.size = 0) := by have := z3; omega
  have n1 : ¬ (1 = w.heap.size) := by have := z3; omega
  have n1' : ¬ (w.heap.size = 1) := by have := z3; omega
  have n2 : ¬ (2 = w.heap.size) := by have := z3; omega
  have n2' : ¬ (w.heap.size = 2) := by have := z3; omega
  have n3 : ¬ (3 = w.heap.size) := by have := z3; omega
  have n3' : ¬ (w.heap.size = 3) := by have := z3; omega
  have G3 : (((w.alloc (.cells #[.int .i64 m, .int .i64 n, .int .i64 x, .nilIface] 139)).alloc (.cells #[.int .i64 0, .int .i64 0, .int .i64 0] 135)).alloc (.cells #[.int .i64 0, .int .i64 0, .int .i64 0] 135)).cell? ⟨3, 0, none⟩ = some (ErrV (A 3)) := cell_later (ext_alloc (ext_alloc (ext_new _ _) _) _) h.c3
  unfold ErrV at *
  go_enter Tryz.func75, Tryz.ntmps75
  go_wp2_with fail
  refine (is_nil (A 0) _).mono ?_
  rintro e w' ⟨rfl, rfl⟩
  go_wp2_with fail
  refine (is_nil (A 1) _).mono ?_
  rintro e w' ⟨rfl, rfl⟩
  go_wp2_with fail
  refine (is_nil (A 2) _).mono ?_
  rintro e w' ⟨rfl, rfl⟩
  go_wp2_with fail
  refine (is_nil (A 3) _).mono ?_
  rintro e w' ⟨rfl, rfl⟩
  go_wp2_with fail
  exact bodyPost_ret (v := .tuple #[.agg #[.int .i64 m, .int .i64 n, .int .i64 x], .int .i64 0]) (by simp [results, Tryz.results75, go_sem, *]) rfl ⟨rfl, by repeat first | exact Below.refl _ _ | exact ext_new _ _ | refine ext_alloc ?_ _⟩

end Go.Proofs.YtmoghgmbpkpcfaaGreatDoor

namespace Go.Proofs.YtmoghgmbpkpcfaaGreatDoor
open Go.RowKit
attribute [local go_sem] Oper.semAt_some

/-- The rooms: width, first argument that has no room, what is put to the major. -/
def roomW (i : Nat) : Nat := [0, 1, 2, 4, 8].getD i 0
def roomM (i : Nat) : Nat := [24, 256, 65536, 4294967296, 281474976710656].getD i 0
def roomX (i : Nat) : Nat := [0, 24, 25, 26, 27].getD i 0
def roomV (i : Nat) : Value := .agg #[.int .i64 (roomW i : Int), .int .i64 (roomM i : Int), .int .i64 (roomX i : Int)]
def roomsV : Value := .agg #[.int .i64 0, .int .i64 24, .int .i64 0, .int .i64 1, .int .i64 256, .int .i64 24, .int .i64 2, .int .i64 65536, .int .i64 25, .int .i64 4, .int .i64 4294967296, .int .i64 26, .int .i64 8, .int .i64 281474976710656, .int .i64 27]
theorem roomsAt0 (w : World) : (Instr.index 124 (.agg #[.int .i64 0, .int .i64 24, .int .i64 0, .int .i64 1, .int .i64 256, .int .i64 24, .int .i64 2, .int .i64 65536, .int .i64 25, .int .i64 4, .int .i64 4294967296, .int .i64 26, .int .i64 8, .int .i64 281474976710656, .int .i64 27]) (.int .i64 0)).run Tryz.prog w = .ok (.agg #[.int .i64 0, .int .i64 24, .int .i64 0]) w := by kernel_rfl
theorem roomsAt1 (w : World) : (Instr.index 124 (.agg #[.int .i64 0, .int .i64 24, .int .i64 0, .int .i64 1, .int .i64 256, .int .i64 24, .int .i64 2, .int .i64 65536, .int .i64 25, .int .i64 4, .int .i64 4294967296, .int .i64 26, .int .i64 8, .int .i64 281474976710656, .int .i64 27]) (.int .i64 1)).run Tryz.prog w = .ok (.agg #[.int .i64 1, .int .i64 256, .int .i64 24]) w := by kernel_rfl
theorem roomsAt2 (w : World) : (Instr.index 124 (.agg #[.int .i64 0, .int .i64 24, .int .i64 0, .int .i64 1, .int .i64 256, .int .i64 24, .int .i64 2, .int .i64 65536, .int .i64 25, .int .i64 4, .int .i64 4294967296, .int .i64 26, .int .i64 8, .int .i64 281474976710656, .int .i64 27]) (.int .i64 2)).run Tryz.prog w = .ok (.agg #[.int .i64 2, .int .i64 65536, .int .i64 25]) w := by kernel_rfl
theorem roomsAt3 (w : World) : (Instr.index 124 (.agg #[.int .i64 0, .int .i64 24, .int .i64 0, .int .i64 1, .int .i64 256, .int .i64 24, .int .i64 2, .int .i64 65536, .int .i64 25, .int .i64 4, .int .i64 4294967296, .int .i64 26, .int .i64 8, .int .i64 281474976710656, .int .i64 27]) (.int .i64 3)).run Tryz.prog w = .ok (.agg #[.int .i64 4, .int .i64 4294967296, .int .i64 26]) w := by kernel_rfl
theorem roomsAt4 (w : World) : (Instr.index 124 (.agg #[.int .i64 0, .int .i64 24, .int .i64 0, .int .i64 1, .int .i64 256, .int .i64 24, .int .i64 2, .int .i64 65536, .int .i64 25, .int .i64 4, .int .i64 4294967296, .int .i64 26, .int .i64 8, .int .i64 281474976710656, .int .i64 27]) (.int .i64 4)).run Tryz.prog w = .ok (.agg #[.int .i64 8, .int .i64 281474976710656, .int .i64 27]) w := by kernel_rfl
theorem roomsAt (i : Nat) (h : i < 5) (w : World) : (Instr.index 124 (.agg #[.int .i64 0, .int .i64 24, .int .i64 0, .int .i64 1, .int .i64 256, .int .i64 24, .int .i64 2, .int .i64 65536, .int .i64 25, .int .i64 4, .int .i64 4294967296, .int .i64 26, .int .i64 8, .int .i64 281474976710656, .int .i64 27]) (.int .i64 (i : Int))).run Tryz.prog w = .ok (.agg #[.int .i64 (roomW i : Int), .int .i64 (roomM i : Int), .int .i64 (roomX i : Int)]) w := by
  match i, h with
  | 0, _ => exact roomsAt0 w
  | 1, _ => exact roomsAt1 w
  | 2, _ => exact roomsAt2 w
  | 3, _ => exact roomsAt3 w
  | 4, _ => exact roomsAt4 w

/-- The rooms that fit, of the first k. -/
def fitsL (n k : Nat) : List Nat := (List.range k).filter fun i => decide (n < roomM i)
theorem fitsL_yes {n k : Nat} (h : n < roomM k) : fitsL n (k + 1) = fitsL n k ++ [k] := by rw [fitsL, List.range_succ, List.filter_append]; simp [h, fitsL]
theorem fitsL_no {n k : Nat} (h : ¬ n < roomM k) : fitsL n (k + 1) = fitsL n k := by rw [fitsL, List.range_succ, List.filter_append]; simp [h, fitsL]

theorem fits_any (n : Int) (w : World) :
    Calls Tryz.prog 51 #[.int .i64 n] w fun e w' =>
      e = .returned (.func (.func 69) #[] #[.pointer (some ⟨w.heap.size, 0, none⟩)]) ∧ w.alloc (.cells #[.int .i64 n] 3) = w' := by
  go_enter Tryz.func51, Tryz.ntmps51
  go_wp2
  go_ret
  exact ⟨rfl, rfl⟩

/-- The table of rooms lies where it lay. -/
def RoomsAt (w : World) : Prop := ∀ k v, [0, 24, 0, 1, 256, 24, 2, 65536, 25, 4, 4294967296, 26, 8, 281474976710656, 27][k]? = some v → w.cell? ⟨5, k, none⟩ = some (.int .i64 v)

set_option maxRecDepth 100000 in
set_option maxHeartbeats 1000000 in
theorem fits_seq (n : Nat) (hn : n ≤ 9223372036854775807) (Bn m : Nat) :
    SeqM Fence.wide m Tryz.prog 69 #[.pointer (some ⟨Bn, 0, none⟩)] (fun i : Nat => #[roomV i])
      (fun A B => B.heap[Bn]? = A.heap[Bn]?) (fun A B => ∃ o, B = A.alloc o) (fun pre i => i < 5 ∧ n < roomM i ∧ pre = fitsL n i) (fun xs => xs = fitsL n 5) (fun _ => True)
      (fun W => Boxed W Bn 3 (.int .i64 (n : Int)) ∧ RoomsAt W) := by
  rintro l J Jx W ⟨hbn, hrm⟩ hJ hJx hY h0
  have r0 := hrm 0 _ rfl
  have r1 := hrm 1 _ rfl
  have r2 := hrm 2 _ rfl
  have r3 := hrm 3 _ rfl
  have r4 := hrm 4 _ rfl
  have r5 := hrm 5 _ rfl
  have r6 := hrm 6 _ rfl
  have r7 := hrm 7 _ rfl
  have r8 := hrm 8 _ rfl
  have r9 := hrm 9 _ rfl
  have r10 := hrm 10 _ rfl
  have r11 := hrm 11 _ rfl
  have r12 := hrm 12 _ rfl
  have r13 := hrm 13 _ rfl
  have r14 := hrm 14 _ rfl
  clear hrm
  refine callsIn_of_wp Tryz.func69 rfl trivial ?_ rfl
  simp only [Tryz.ntmps69, List.size_toArray, List.length_cons, List.length_nil, Nat.reduceAdd, Nat.reduceSub, Array.replicate_succ, Array.replicate_zero, List.push_toArray, List.append_toArray, List.nil_append, List.cons_append]
  refine wpIn_scope (wpIn_seq (wpIn_label ?_))
  gi_wp2
  clear r0 r1 r2 r3 r4 r5 r6 r7 r8 r9 r10 r11 r12 r13 r14
  gi_loopw [6] (fun i wr => ∃ k : Nat, k ≤ 5 ∧ i = .int .i64 (k : Int) ∧ J (fitsL n k) wr ∧ Boxed wr Bn 3 (.int .i64 (n : Int))) (fun i _ => 5 - (intOf i).toNat)
  case atStart => exact ⟨0, Nat.zero_le _, rfl, h0, hbn⟩
  case round =>
    obtain ⟨k, hk, rfl, hJk, hbk⟩ := hrel
    have cn := hbk.cell
    have hbl := hbk.lt
    by_cases hlt : k < 5
    · have hidx := roomsAt k hlt
      have hy0 := fun A hA hfit => hY (fitsL n k) k A hA ⟨hlt, hfit, rfl⟩
      unfold roomV at hy0
      dsimp only at hy0
      have HYes := Lib.hid (@fitsL_yes n k)
      have HNo := Lib.hid (@fitsL_no n k)
      generalize roomW k = rw_ at hidx hy0
      generalize roomX k = rx at hidx hy0
      generalize roomM k = rm at hidx hy0 HYes HNo
      have cn2 : (wr.alloc (.cells #[.int .i64 (rw_ : Int), .int .i64 (rm : Int), .int .i64 (rx : Int)] 98)).cell? ⟨Bn, 0, none⟩ = some (.int .i64 (n : Int)) := (World.cell?_alloc_lt _ _ _ hbl).trans cn
      by_cases hfit : n < rm
      · have hf1 : decide ((n : Int) < (rm : Int)) = true := by simp; exact hfit
        have hy := hy0 _ (hJ _ _ _ hJk ⟨.cells #[.int .i64 (rw_ : Int), .int .i64 (rm : Int), .int .i64 (rx : Int)] 98, rfl⟩) hfit
        obtain ⟨fnn, tmps, assign, body, hy, hR⟩ := hy
        clear hy0
        gi_wp2
        refine ⟨fun hd => (by cases hd), hR.mono ?_⟩
        rintro e W3 (⟨rfl, hJ3, hk3⟩ | ⟨rfl, hJx3⟩)
        · have hb3 := boxed_kept (hbk.alloc _) hk3
          gi_wp2
          go_roundw
          case rel => exact ⟨k + 1, by omega, by go_num, by rw [HYes.out hfit]; exact hJ3, hb3⟩
          case measure => simp [intOf]; omega
        · gi_wp2
          simp only [Exit.noGoto]
          go_end0
          exact ⟨⟨_, rfl⟩, .inr ⟨_, trivial, hJx3⟩⟩
      · have hf1 : decide ((n : Int) < (rm : Int)) = false := by simp; omega
        clear hy0
        gi_wp2
        refine ⟨fun _ h => (by cases h), ?_⟩
        gi_wp2
        go_roundw
        case rel => exact ⟨k + 1, by omega, by go_num, by rw [HNo.out hfit]; exact hJ _ _ _ hJk ⟨_, rfl⟩, hbk.alloc _⟩
        case measure => simp [intOf]; omega
    · gi_wp2
      simp only [Exit.noGoto]
      go_end0
      obtain rfl : k = 5 := by omega
      exact ⟨⟨_, rfl⟩, .inl ⟨_, rfl, hJk⟩⟩

end Go.Proofs.YtmoghgmbpkpcfaaGreatDoor

namespace Go.Proofs.YtmoghgmbpkpcfaaGreatDoor
open Go.RowKit

/-- Is a number a major? -/
def majB (n : Int) : Bool := n == 0 || n == 2 || n == 3 || n == 4

set_option maxRecDepth 100000 in
theorem isMajor_0 (w : World) : Calls Tryz.prog 50 #[.int .i64 0] w (Ret (.bool true) w) := by
  go_enter Tryz.func50, Tryz.ntmps50
  go_wp2_with fail
  have h1 : Calls Tryz.prog 68 #[.int .i64 0, .slice (some ⟨w.heap.size, 0, none⟩) 4 4] (w.alloc (.cells #[.int .i64 0, .int .i64 2, .int .i64 3, .int .i64 4] 3)) (Pure (.bool true) (w.alloc (.cells #[.int .i64 0, .int .i64 2, .int .i64 3, .int .i64 4] 3))) := by
    go_enter Tryz.func68, Tryz.ntmps68
    go_wp2
    refine wp_loop_rounds 1 ?_
    rw [rounds_succ]
    go_wp2
    go_ret
    exact ⟨rfl, rfl⟩
  refine h1.mono ?_
  rintro e w1 ⟨rfl, rfl⟩
  go_wp2_with fail
  go_ret
  exact ⟨rfl, ext_new _ _⟩

set_option maxRecDepth 100000 in
theorem isMajor_2 (w : World) : Calls Tryz.prog 50 #[.int .i64 2] w (Ret (.bool true) w) := by
  go_enter Tryz.func50, Tryz.ntmps50
  go_wp2_with fail
  have h1 : Calls Tryz.prog 68 #[.int .i64 2, .slice (some ⟨w.heap.size, 0, none⟩) 4 4] (w.alloc (.cells #[.int .i64 0, .int .i64 2, .int .i64 3, .int .i64 4] 3)) (Pure (.bool true) (w.alloc (.cells #[.int .i64 0, .int .i64 2, .int .i64 3, .int .i64 4] 3))) := by
    go_enter Tryz.func68, Tryz.ntmps68
    go_wp2
    refine wp_loop_rounds 2 ?_
    rw [rounds_succ]
    go_wp2
    rw [rounds_succ]
    go_wp2
    go_ret
    exact ⟨rfl, rfl⟩
  refine h1.mono ?_
  rintro e w1 ⟨rfl, rfl⟩
  go_wp2_with fail
  go_ret
  exact ⟨rfl, ext_new _ _⟩

set_option maxRecDepth 100000 in
theorem isMajor_3 (w : World) : Calls Tryz.prog 50 #[.int .i64 3] w (Ret (.bool true) w) := by
  go_enter Tryz.func50, Tryz.ntmps50
  go_wp2_with fail
  have h1 : Calls Tryz.prog 68 #[.int .i64 3, .slice (some ⟨w.heap.size, 0, none⟩) 4 4] (w.alloc (.cells #[.int .i64 0, .int .i64 2, .int .i64 3, .int .i64 4] 3)) (Pure (.bool true) (w.alloc (.cells #[.int .i64 0, .int .i64 2, .int .i64 3, .int .i64 4] 3))) := by
    go_enter Tryz.func68, Tryz.ntmps68
    go_wp2
    refine wp_loop_rounds 3 ?_
    rw [rounds_succ]
    go_wp2
    rw [rounds_succ]
    go_wp2
    rw [rounds_succ]
    go_wp2
    go_ret
    exact ⟨rfl, rfl⟩
  refine h1.mono ?_
  rintro e w1 ⟨rfl, rfl⟩
  go_wp2_with fail
  go_ret
  exact ⟨rfl, ext_new _ _⟩

set_option maxRecDepth 100000 in
theorem isMajor_4 (w : World) : Calls Tryz.prog 50 #[.int .i64 4] w (Ret (.bool true) w) := by
  go_enter Tryz.func50, Tryz.ntmps50
  go_wp2_with fail
  have h1 : Calls Tryz.prog 68 #[.int .i64 4, .slice (some ⟨w.heap.size, 0, none⟩) 4 4] (w.alloc (.cells #[.int .i64 0, .int .i64 2, .int .i64 3, .int .i64 4] 3)) (Pure (.bool true) (w.alloc (.cells #[.int .i64 0, .int .i64 2, .int .i64 3, .int .i64 4] 3))) := by
    go_enter Tryz.func68, Tryz.ntmps68
    go_wp2
    refine wp_loop_rounds 4 ?_
    rw [rounds_succ]
    go_wp2
    rw [rounds_succ]
    go_wp2
    rw [rounds_succ]
    go_wp2
    rw [rounds_succ]
    go_wp2
    go_ret
    exact ⟨rfl, rfl⟩
  refine h1.mono ?_
  rintro e w1 ⟨rfl, rfl⟩
  go_wp2_with fail
  go_ret
  exact ⟨rfl, ext_new _ _⟩

set_option maxRecDepth 100000 in
theorem isMajor_no (n : Int) (w : World) (h : majB n = false) : Calls Tryz.prog 50 #[.int .i64 n] w (Ret (.bool false) w) := by
  rw [majB, Bool.or_eq_false_iff, Bool.or_eq_false_iff, Bool.or_eq_false_iff] at h
  obtain ⟨⟨⟨h0, h2⟩, h3⟩, h4⟩ := h
  have e0 : ((0 : Int) == n) = false := by rw [beq_eq_false_iff_ne] at h0 ⊢; omega
  have e2 : ((2 : Int) == n) = false := by rw [beq_eq_false_iff_ne] at h2 ⊢; omega
  have e3 : ((3 : Int) == n) = false := by rw [beq_eq_false_iff_ne] at h3 ⊢; omega
  have e4 : ((4 : Int) == n) = false := by rw [beq_eq_false_iff_ne] at h4 ⊢; omega
  clear h0 h2 h3 h4
  go_enter Tryz.func50, Tryz.ntmps50
  go_wp2_with fail
  have h1 : Calls Tryz.prog 68 #[.int .i64 n, .slice (some ⟨w.heap.size, 0, none⟩) 4 4] (w.alloc (.cells #[.int .i64 0, .int .i64 2, .int .i64 3, .int .i64 4] 3)) (Pure (.bool false) (w.alloc (.cells #[.int .i64 0, .int .i64 2, .int .i64 3, .int .i64 4] 3))) := by
    go_enter Tryz.func68, Tryz.ntmps68
    go_wp2
    refine wp_loop_rounds 5 ?_
    rw [rounds_succ]
    go_wp2
    rw [rounds_succ]
    go_wp2
    rw [rounds_succ]
    go_wp2
    rw [rounds_succ]
    go_wp2
    rw [rounds_succ]
    go_wp2
    go_ret
    exact ⟨rfl, rfl⟩
  refine h1.mono ?_
  rintro e w1 ⟨rfl, rfl⟩
  go_wp2_with fail
  go_ret
  exact ⟨rfl, ext_new _ _⟩
theorem isMajor_any (n : Int) (w : World) : Calls Tryz.prog 50 #[.int .i64 n] w (Ret (.bool (majB n)) w) := by
  by_cases h0 : n = 0
  · subst h0; exact isMajor_0 w
  by_cases h2 : n = 2
  · subst h2; exact isMajor_2 w
  by_cases h3 : n = 3
  · subst h3; exact isMajor_3 w
  by_cases h4 : n = 4
  · subst h4; exact isMajor_4 w
  · have hm : majB n = false := by simp [majB, h0, h2, h3, h4]
    rw [hm]
    exact isMajor_no n w hm

theorem encoded_major (m n : Int) (w : World) (A : Nat → Addr) (aN aW aS : Addr) (h : HInv w A aN aW aS) (hm : majB m = false) :
    Calls Tryz.prog 33 #[.int .i64 m, .int .i64 n] w (Ret (.agg #[.string ByteArray.empty, ErrV (A 0)]) w) := by
  have HM := Lib.hid hm
  clear hm
  go_enter Tryz.func33, Tryz.ntmps33
  go_wp2_with fail
  refine (isMajor_any m _).mono ?_
  rintro e w1 ⟨rfl, hb1⟩
  rw [HM.out]
  have hb0 : Below w.heap.size w w1 := ext_trans (ext_alloc (ext_new w _) _) hb1
  have hB : Blk w1 (w.heap.size + 1) 77 #[.string ByteArray.empty, .nilIface] := (Blk.at_ (by simp)).below hb1
  have c0 := hB.cell 0
  have c1 := hB.cell 1
  have f0 := hB.frozen 0
  have f1 := hB.frozen 1
  simp only [List.getElem?_toArray, List.getElem?_cons_zero, List.getElem?_cons_succ] at c0 c1
  have g0 := (h.below hb0).c0
  unfold ErrV at g0
  have hsz := hB.lt
  go_wp2_with fail
  generalize hW : (w1.setCell ⟨w.heap.size + 1, 0, none⟩ (.string ⟨#[]⟩)).setCell ⟨w.heap.size + 1, 1, none⟩ (.iface 164 (.pointer (some (A 0)))) = WF
  have hF : Blk WF (w.heap.size + 1) 77 #[.string ByteArray.empty, .iface 164 (.pointer (some (A 0)))] := by rw [← hW]; exact (hB.set_ 0 (.string ⟨#[]⟩)).set_ 1 (.iface 164 (.pointer (some (A 0))))
  have hbF : Below w.heap.size w WF := by rw [← hW]; exact (hb0.setCell (by simp) _).setCell (by simp) _
  have F0 := hF.cell 0
  have F1 := hF.cell 1
  simp only [List.getElem?_toArray, List.getElem?_cons_zero, List.getElem?_cons_succ] at F0 F1
  clear hW
  exact bodyPost_ret (v := .agg #[.string ByteArray.empty, .iface 164 (.pointer (some (A 0)))]) (by simp [results, Tryz.results33, go_sem, F0, F1]) rfl ⟨rfl, hbF⟩
theorem encoded_num (m n : Int) (w : World) (A : Nat → Addr) (aN aW aS : Addr) (h : HInv w A aN aW aS) (hm : majB m = true) (hn : okNum n = false) :
    Calls Tryz.prog 33 #[.int .i64 m, .int .i64 n] w (Ret (.agg #[.string ByteArray.empty, ErrV (A 1)]) w) := by
  have HM := Lib.hid hm
  have HN := Lib.hid hn
  clear hm hn
  go_enter Tryz.func33, Tryz.ntmps33
  go_wp2_with fail
  refine (isMajor_any m _).mono ?_
  rintro e w1 ⟨rfl, hb1⟩
  rw [HM.out]
  have hb0 : Below w.heap.size w w1 := ext_trans (ext_alloc (ext_new w _) _) hb1
  have hB : Blk w1 (w.heap.size + 1) 77 #[.string ByteArray.empty, .nilIface] := (Blk.at_ (by simp)).below hb1
  have hC : Blk w1 w.heap.size 3 #[.int .i64 n] := ((Blk.new_ w _ _).alloc _).below hb1
  have d0 := hC.cell 0
  have c0 := hB.cell 0
  have c1 := hB.cell 1
  have f0 := hB.frozen 0
  have f1 := hB.frozen 1
  simp only [List.getElem?_toArray, List.getElem?_cons_zero, List.getElem?_cons_succ] at c0 c1 d0
  have g0 := (h.below hb0).c1
  unfold ErrV at g0
  have hsz := hB.lt
  go_wp2_with fail
  refine (Right_any n _).mono ?_
  rintro e w2 ⟨rfl, rfl⟩
  rw [HN.out]
  go_wp2_with fail
  generalize hW : (w1.setCell ⟨w.heap.size + 1, 0, none⟩ (.string ⟨#[]⟩)).setCell ⟨w.heap.size + 1, 1, none⟩ (.iface 164 (.pointer (some (A 1)))) = WF
  have hF : Blk WF (w.heap.size + 1) 77 #[.string ByteArray.empty, .iface 164 (.pointer (some (A 1)))] := by rw [← hW]; exact (hB.set_ 0 (.string ⟨#[]⟩)).set_ 1 (.iface 164 (.pointer (some (A 1))))
  have hbF : Below w.heap.size w WF := by rw [← hW]; exact (hb0.setCell (by simp) _).setCell (by simp) _
  have F0 := hF.cell 0
  have F1 := hF.cell 1
  simp only [List.getElem?_toArray, List.getElem?_cons_zero, List.getElem?_cons_succ] at F0 F1
  clear hW
  exact bodyPost_ret (v := .agg #[.string ByteArray.empty, .iface 164 (.pointer (some (A 1)))]) (by simp [results, Tryz.results33, go_sem, F0, F1]) rfl ⟨rfl, hbF⟩

end Go.Proofs.YtmoghgmbpkpcfaaGreatDoor
