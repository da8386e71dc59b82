/-
  Package postriderlaw13: the walks of the statements SignsFlags, SignsMarks and SignsTimes: each hands back true. Conditions: the listed variables hold different errors of errors.New's make ('GInv').
-/
import Derived.Test.YtinflolpcemnhaaDoorSignsM
namespace Go.Proofs.YtinflolpcemnhaaDoor
open Go.RowKit

theorem sh1 : toldV (upV 16400) (upE 16400) = 16448 ∧ codeIx (upE 16400) = 0 := by constructor <;> kernel_rfl
theorem sh2 : codeIx (upE 16384) = 132 := by kernel_rfl
theorem sh3 : toldV (dnV 4 2 true) (dnE 4 2) = 284 ∧ codeIx (dnE 4 2) = 0 := by constructor <;> kernel_rfl
theorem sh4 : codeIx (dnE 64 0) = 133 := by kernel_rfl
theorem sh5 : codeIx (secE 1500) = 136 := by kernel_rfl

theorem shown_any (w : World) (A : Nat → Addr) (hI : GInv w A) : Calls Tryd.prog 9 #[] w (Ret (.bool true) w) := by
  go_enter Tryd.func9, Tryd.ntmps9
  go_wp2_with fail
  refine (Up_any 16400 _ A hI (by decide)).mono ?_
  rintro e w1 ⟨rfl, hb1⟩
  rw [sh1.1, sh1.2]
  go_wp2_with fail
  refine (Up_any 16384 _ A (hI.below hb1) (by decide)).mono ?_
  rintro e w2 ⟨rfl, hb2'⟩
  have hb2 := ext_trans hb1 hb2'
  clear hb1 hb2'
  rw [sh2]
  generalize toldV (upV 16384) (upE 16384) = z1
  go_wp2_with fail
  refine (Down_any 4 2 true _ A (hI.below hb2)).mono ?_
  rintro e w3 ⟨rfl, hb3'⟩
  have hb3 := ext_trans hb2 hb3'
  clear hb2 hb3'
  rw [sh3.1, sh3.2]
  go_wp2_with fail
  refine (Down_any 64 0 false _ A (hI.below hb3)).mono ?_
  rintro e w4 ⟨rfl, hb4'⟩
  have hb4 := ext_trans hb3 hb4'
  clear hb3 hb4'
  rw [sh4]
  generalize toldV (dnV 64 0 false) (dnE 64 0) = z2
  go_wp2_with fail
  refine (Seconds_any 1500 _ A (hI.below hb4) (by decide) (by decide)).mono ?_
  rintro e w5 ⟨rfl, hb5'⟩
  have hb5 := ext_trans hb4 hb5'
  clear hb4 hb5'
  rw [sh5]
  generalize toldV ((1500 : Int).tdiv 1000) (secE 1500) = z3
  go_wp2_with fail
  go_ret
  exact ⟨rfl, hb5⟩

theorem SignsFlags_law (f g p : Int) (c : Bool) (w : World) (A : Nat → Addr) (hI : GInv w A) (hf : f ≤ 9223372036854775807) (hg : g ≤ 9223372036854775807) (hp1 : -9223372036854775808 ≤ p) (hp2 : p ≤ 9223372036854775807) :
    Calls Tryd.prog 5 #[.int .i64 f, .int .i64 g, .int .i64 p, .bool c] w (Ret (.bool true) w) := by
  have U := Lib.hid (Up_ref f hf)
  have D := Lib.hid (Down_ref g p c hg)
  have C := Lib.hid (Class_ref f hf)
  go_enter Tryd.func5, Tryd.ntmps5
  go_wp2_with fail
  refine (shown_any _ A hI).mono ?_
  rintro e w1 ⟨rfl, hb1⟩
  go_wp2_with fail
  refine (Up_any f _ A (hI.below hb1) hf).mono ?_
  rintro e w2 ⟨rfl, hb2'⟩
  have hb2 := ext_trans hb1 hb2'
  clear hb1 hb2'
  rw [U.out.1, U.out.2]
  go_wp2_with fail
  refine (rUp_any f _ hf).mono ?_
  rintro e w3 ⟨rfl, rfl⟩
  generalize rUp f = ru
  go_wp2_with fail
  refine (Down_any g p c _ A (hI.below hb2)).mono ?_
  rintro e w3 ⟨rfl, hb3'⟩
  have hb3 := ext_trans hb2 hb3'
  clear hb2 hb3'
  rw [D.out.1, D.out.2]
  go_wp2_with fail
  refine (rDown_any g p c _ hp1 hp2).mono ?_
  rintro e w4 ⟨rfl, rfl⟩
  generalize rDown g p c = rd
  go_wp2_with fail
  refine (Class_any f _ A (hI.below hb3) hf).mono ?_
  rintro e w4 ⟨rfl, hb4'⟩
  have hb4 := ext_trans hb3 hb4'
  clear hb3 hb4'
  rw [C.out.1, C.out.2.1, C.out.2.2]
  go_wp2_with fail
  refine (rClass_any f _ hf).mono ?_
  rintro e w5 ⟨rfl, rfl⟩
  generalize rClass f = rc
  go_wp2_with fail
  go_ret
  exact ⟨rfl, hb4⟩

theorem SignsMarks_law (f g n : Int) (c : Bool) (w : World) (A : Nat → Addr) (hI : GInv w A) (hf : f ≤ 9223372036854775807) (hg : g ≤ 9223372036854775807) (hn1 : -9223372036854775808 ≤ n) (hn2 : n ≤ 9223372036854775807) :
    Calls Tryd.prog 7 #[.int .i64 f, .int .i64 g, .int .i64 n, .bool c] w (Ret (.bool true) w) := by
  have U := Lib.hid (MarkUp_ref f hf)
  have D := Lib.hid (MarkDown_ref g c hg)
  have M := Lib.hid (Millis_ref n)
  have S := Lib.hid (Seconds_ref n)
  have hdown : ∀ W : World, GInv W A → Calls Tryd.prog 21 #[.int .i64 g, .bool c] W (Ret (.tuple #[.int .i64 (rMarkDown g c).1, .int .i64 (rMarkDown g c).2]) W) := by
    intro W hW
    rw [← D.out.1, ← D.out.2]
    cases c
    · exact MarkDown_no g W A hW
    · exact MarkDown_yes g W A hW
  go_enter Tryd.func7, Tryd.ntmps7
  go_wp2_with fail
  refine (shown_any _ A hI).mono ?_
  rintro e w1 ⟨rfl, hb1⟩
  go_wp2_with fail
  refine (MarkUp_any f _ A (hI.below hb1)).mono ?_
  rintro e w2 ⟨rfl, hb2'⟩
  have hb2 := ext_trans hb1 hb2'
  clear hb1 hb2'
  rw [U.out.1, U.out.2]
  go_wp2_with fail
  refine (rMarkUp_any f _).mono ?_
  rintro e w3 ⟨rfl, rfl⟩
  generalize rMarkUp f = ru
  go_wp2_with fail
  refine (hdown _ (hI.below hb2)).mono ?_
  rintro e w3 ⟨rfl, hb3'⟩
  have hb3 := ext_trans hb2 hb3'
  clear hb2 hb3'
  go_wp2_with fail
  refine (rMarkDown_any g c _).mono ?_
  rintro e w4 ⟨rfl, rfl⟩
  generalize rMarkDown g c = rd
  go_wp2_with fail
  refine (Millis_any n _ A (hI.below hb3)).mono ?_
  rintro e w4 ⟨rfl, hb4'⟩
  have hb4 := ext_trans hb3 hb4'
  clear hb3 hb4'
  rw [M.out.1, M.out.2]
  go_wp2_with fail
  refine (rMillis_any n _).mono ?_
  rintro e w5 ⟨rfl, rfl⟩
  generalize rMillis n = rm
  go_wp2_with fail
  refine (Seconds_any n _ A (hI.below hb4) hn1 hn2).mono ?_
  rintro e w5 ⟨rfl, hb5'⟩
  have hb5 := ext_trans hb4 hb5'
  clear hb4 hb5'
  rw [S.out.1, S.out.2]
  go_wp2_with fail
  refine (rSeconds_any n _ hn1 hn2).mono ?_
  rintro e w6 ⟨rfl, rfl⟩
  generalize rSeconds n = rs
  go_wp2_with fail
  go_ret
  exact ⟨rfl, hb5⟩

end Go.Proofs.YtinflolpcemnhaaDoor
