/-
  Package crc: Table, Sum, Of: their contracts. Conditions: the listed variables hold what 'CInv' says.
-/
import Derived.Test.YtlabmomehjfjdaaDoorCrcE
namespace Go.Proofs.YtlabmomehjfjdaaDoor
open Go.RowKit

/-- What Table hands back for a kind that is one. -/
def TableRes (g : Bool) (w : World) (e : Ending) (w' : World) : Prop := ∃ h cap, e = .returned (.tuple #[.slice (some ⟨h, 0, none⟩) 256 cap, .int .i64 0]) ∧ RdU w' (some ⟨h, 0, none⟩) (tabL g) ∧ Below w.heap.size w w'
theorem tab_small (g : Bool) : ∀ x ∈ tabL g, x < 4294967296 := by
  intro x hx
  obtain ⟨i, hi, rfl⟩ := List.mem_map.1 hx
  have h1 := partN_lt g (List.mem_range.1 hi)
  have h2 : 2 ^ bitsN g ≤ 4294967296 := by cases g <;> simp [bitsN]
  omega

theorem table_no (n : Int) (w : World) (aA aT aN aW aS : Addr) (h : CInv w aA aT aN aW aS) (h1 : n ≠ 1) (h2 : n ≠ 2) : Calls Tryd.prog 41 #[.int .i64 n] w (Ret (.tuple #[.slice none 0 0, ErrV aA]) w) := by
  have e1 : (n == 1) = false := beq_eq_false_iff_ne.2 h1
  have e2 : (n == 2) = false := beq_eq_false_iff_ne.2 h2
  have hA := h.cA
  have hz := cell_lt hA
  unfold ErrV at *
  clear h1 h2
  go_enter Tryd.func41, Tryd.ntmps41
  go_wp2
  go_region
  all_goals
    go_wp2
    go_ret2
    exact ⟨rfl, (Below.refl _ _).drew⟩

theorem sumBy_no (n : Int) (A : Option Addr) (m c : Nat) (s : ByteArray) (w : World) (aA aT aN aW aS : Addr) (h : CInv w aA aT aN aW aS) (h1 : n ≠ 1) (h2 : n ≠ 2) : Calls Tryd.prog 43 #[.int .i64 n, .slice A m c, .string s] w (Ret (.tuple #[.int .u32 0, ErrV aA]) w) := by
  have HS := Lib.hid (show sizeV n = 0 by rw [sizeV, if_neg h1, if_neg h2])
  clear h1 h2
  go_enter Tryd.func43, Tryd.ntmps43
  go_wp2_with fail
  refine (Size_any n _ aA aT aN aW aS h).mono ?_
  rintro e w1 ⟨rfl, hb1⟩
  rw [HS.out]
  have hA := (h.below hb1).cA
  have hz := cell_lt hA
  unfold ErrV at hA
  go_wp2_with fail
  go_region
  all_goals
    go_wp2
    go_ret2
    exact ⟨rfl, hb1.drew⟩

theorem sumBy16_len (A : Option Addr) (m c : Nat) (s : ByteArray) (w : World) (aA aT aN aW aS : Addr) (h : CInv w aA aT aN aW aS) (hm : m ≠ 256) : Calls Tryd.prog 43 #[.int .i64 1, .slice A m c, .string s] w (Ret (.tuple #[.int .u32 0, ErrV aT]) w) := by
  have e1 : ((m : Int) != 256) = true := by simp; omega
  clear hm
  go_enter Tryd.func43, Tryd.ntmps43
  go_wp2_with fail
  refine (Size_1 _ aA aT aN aW aS h).mono ?_
  rintro e w1 ⟨rfl, hb1⟩
  have hT := (h.below hb1).cT
  have hz := cell_lt hT
  unfold ErrV at hT
  go_wp2_with fail
  go_region
  all_goals
    go_wp2
    go_ret2
    exact ⟨rfl, hb1.drew⟩
theorem sumBy16_ok (A : Option Addr) (c : Nat) (T : List Nat) (s : ByteArray) (w : World) (aA aT aN aW aS : Addr) (h : CInv w aA aT aN aW aS) (hT : T.length = 256) (hr : RdU w A T) (hv : ∀ x ∈ T, x < 4294967296) (hs : s.size ≤ 9223372036854775807) :
    Calls Tryd.prog 43 #[.int .i64 1, .slice A 256 c, .string s] w (Ret (.tuple #[.int .u32 ((sumT false T s.data.toList : Nat) : Int), .nilIface]) w) := by
  have HT := Lib.hid hT
  have HV := Lib.hid hv
  clear hT hv
  go_enter Tryd.func43, Tryd.ntmps43
  go_wp2_with fail
  refine (Size_1 _ aA aT aN aW aS h).mono ?_
  rintro e w1 ⟨rfl, hb1⟩
  go_wp2_with fail
  refine (sum16_any A c T s _ HT.out (hr.below hb1) HV.out hs).mono ?_
  rintro e w2 ⟨rfl, rfl⟩
  go_wp2_with fail
  go_ret2
  exact ⟨rfl, hb1⟩

theorem sumBy32_len (A : Option Addr) (m c : Nat) (s : ByteArray) (w : World) (aA aT aN aW aS : Addr) (h : CInv w aA aT aN aW aS) (hm : m ≠ 256) : Calls Tryd.prog 43 #[.int .i64 2, .slice A m c, .string s] w (Ret (.tuple #[.int .u32 0, ErrV aT]) w) := by
  have e1 : ((m : Int) != 256) = true := by simp; omega
  clear hm
  go_enter Tryd.func43, Tryd.ntmps43
  go_wp2_with fail
  refine (Size_2 _ aA aT aN aW aS h).mono ?_
  rintro e w1 ⟨rfl, hb1⟩
  have hT := (h.below hb1).cT
  have hz := cell_lt hT
  unfold ErrV at hT
  go_wp2_with fail
  go_region
  all_goals
    go_wp2
    go_ret2
    exact ⟨rfl, hb1.drew⟩
theorem sumBy32_ok (A : Option Addr) (c : Nat) (T : List Nat) (s : ByteArray) (w : World) (aA aT aN aW aS : Addr) (h : CInv w aA aT aN aW aS) (hT : T.length = 256) (hr : RdU w A T) (hv : ∀ x ∈ T, x < 4294967296) (hs : s.size ≤ 9223372036854775807) :
    Calls Tryd.prog 43 #[.int .i64 2, .slice A 256 c, .string s] w (Ret (.tuple #[.int .u32 ((sumT true T s.data.toList : Nat) : Int), .nilIface]) w) := by
  have HT := Lib.hid hT
  have HV := Lib.hid hv
  clear hT hv
  go_enter Tryd.func43, Tryd.ntmps43
  go_wp2_with fail
  refine (Size_2 _ aA aT aN aW aS h).mono ?_
  rintro e w1 ⟨rfl, hb1⟩
  go_wp2_with fail
  refine (sum32_any A c T s _ HT.out (hr.below hb1) HV.out hs).mono ?_
  rintro e w2 ⟨rfl, rfl⟩
  go_wp2_with fail
  go_ret2
  exact ⟨rfl, hb1⟩

theorem Of_0 (s : ByteArray) (w : World) (aA aT aN aW aS : Addr) (h : CInv w aA aT aN aW aS) : Calls Tryd.prog 26 #[.int .i64 0, .string s] w (Ret (.tuple #[.string ByteArray.empty, .int .i64 0]) w) := by
  go_enter Tryd.func26, Tryd.ntmps26
  go_wp2_with fail
  go_ret2
  exact ⟨rfl, Below.refl _ _⟩
theorem Of_no (n : Int) (s : ByteArray) (w : World) (aA aT aN aW aS : Addr) (h : CInv w aA aT aN aW aS) (h0 : n ≠ 0) (h1 : n ≠ 1) (h2 : n ≠ 2) : Calls Tryd.prog 26 #[.int .i64 n, .string s] w (Ret (.tuple #[.string ByteArray.empty, .int .i64 2]) w) := by
  have e0 : (n == 0) = false := beq_eq_false_iff_ne.2 h0
  have HT := Lib.hid (table_no n w aA aT aN aW aS h h1 h2)
  clear h1 h2 h0
  go_enter Tryd.func26, Tryd.ntmps26
  go_wp2_with fail
  refine HT.out.mono ?_
  rintro e w1 ⟨rfl, hb1⟩
  unfold ErrV
  go_wp2_with fail
  refine (ceitherS_A ByteArray.empty _ aA aT aN aW aS (h.below hb1)).mono ?_
  rintro e w2 ⟨rfl, rfl⟩
  go_wp2_with fail
  go_ret2
  exact ⟨rfl, hb1⟩

theorem Of_1 (s : ByteArray) (w : World) (aA aT aN aW aS : Addr) (h : CInv w aA aT aN aW aS) (hs : s.size ≤ 9223372036854775807) : Calls Tryd.prog 26 #[.int .i64 1, .string s] w (Ret (.tuple #[.string ⟨(sumB false s.data.toList).toArray⟩, .int .i64 0]) w) := by
  have hl : sumN false s.data.toList < 4294967296 := Nat.lt_of_lt_of_le (sumN_lt false _) (by simp [bitsN])
  have HB := Lib.hid (show bytesV ((sumN false s.data.toList : Nat) : Int) 2 = (⟨(sumB false s.data.toList).toArray⟩, 0) by
    have h1 := sumN_lt false s.data.toList
    rw [← (sizeN_bits false).2] at h1
    exact bytesV_ok (n := ((sumN false s.data.toList : Nat) : Int)) (wd := 2) (by decide) (by
      simp only [fits, Bool.and_eq_true, decide_eq_true_eq, Int.toNat_natCast]
      exact ⟨okNum_iff.2 ⟨by omega, by omega⟩, h1⟩))
  go_enter Tryd.func26, Tryd.ntmps26
  go_wp2_with fail
  refine (table16_any _).mono ?_
  rintro e w1 ⟨hh, cap, rfl, hr, hb1⟩
  go_wp2_with fail
  refine (sumBy16_ok (some ⟨hh, 0, none⟩) cap (tabL false) s _ aA aT aN aW aS (h.below hb1) (tabL_length false) hr (tab_small false) hs).mono ?_
  rintro e w2 ⟨rfl, hb2'⟩
  rw [sumT_own]
  have hb2 := ext_trans hb1 hb2'
  clear hb1 hb2' hr
  generalize hz : sumN false s.data.toList = z at hl HB
  have HZ := Lib.hid hz
  clear hz
  go_wp2_with fail
  refine (Size_1 _ aA aT aN aW aS (h.below hb2)).mono ?_
  rintro e w3 ⟨rfl, hb3'⟩
  have hb3 := ext_trans hb2 hb3'
  clear hb2 hb3'
  go_wp2_with fail
  refine (Bytes_any (z : Int) 2 _ aN aW aS (h.below hb3).nums).mono ?_
  rintro e w4 ⟨rfl, hb4'⟩
  have hb4 := ext_trans hb3 hb4'
  clear hb3 hb4'
  rw [HB.out]
  go_wp2_with fail
  refine (ceitherS_nil _ _ aA aT aN aW aS (h.below hb4)).mono ?_
  rintro e w5 ⟨rfl, rfl⟩
  go_wp2_with fail
  go_ret2
  exact ⟨rfl, hb4⟩

theorem Of_2 (s : ByteArray) (w : World) (aA aT aN aW aS : Addr) (h : CInv w aA aT aN aW aS) (hs : s.size ≤ 9223372036854775807) : Calls Tryd.prog 26 #[.int .i64 2, .string s] w (Ret (.tuple #[.string ⟨(sumB true s.data.toList).toArray⟩, .int .i64 0]) w) := by
  have hl : sumN true s.data.toList < 4294967296 := Nat.lt_of_lt_of_le (sumN_lt true _) (by simp [bitsN])
  have HB := Lib.hid (show bytesV ((sumN true s.data.toList : Nat) : Int) 4 = (⟨(sumB true s.data.toList).toArray⟩, 0) by
    have h1 := sumN_lt true s.data.toList
    rw [← (sizeN_bits true).2] at h1
    exact bytesV_ok (n := ((sumN true s.data.toList : Nat) : Int)) (wd := 4) (by decide) (by
      simp only [fits, Bool.and_eq_true, decide_eq_true_eq, Int.toNat_natCast]
      exact ⟨okNum_iff.2 ⟨by omega, by omega⟩, h1⟩))
  go_enter Tryd.func26, Tryd.ntmps26
  go_wp2_with fail
  refine (table32_any _).mono ?_
  rintro e w1 ⟨hh, cap, rfl, hr, hb1⟩
  go_wp2_with fail
  refine (sumBy32_ok (some ⟨hh, 0, none⟩) cap (tabL true) s _ aA aT aN aW aS (h.below hb1) (tabL_length true) hr (tab_small true) hs).mono ?_
  rintro e w2 ⟨rfl, hb2'⟩
  rw [sumT_own]
  have hb2 := ext_trans hb1 hb2'
  clear hb1 hb2' hr
  generalize hz : sumN true s.data.toList = z at hl HB
  have HZ := Lib.hid hz
  clear hz
  go_wp2_with fail
  refine (Size_2 _ aA aT aN aW aS (h.below hb2)).mono ?_
  rintro e w3 ⟨rfl, hb3'⟩
  have hb3 := ext_trans hb2 hb3'
  clear hb2 hb3'
  go_wp2_with fail
  refine (Bytes_any (z : Int) 4 _ aN aW aS (h.below hb3).nums).mono ?_
  rintro e w4 ⟨rfl, hb4'⟩
  have hb4 := ext_trans hb3 hb4'
  clear hb3 hb4'
  rw [HB.out]
  go_wp2_with fail
  refine (ceitherS_nil _ _ aA aT aN aW aS (h.below hb4)).mono ?_
  rintro e w5 ⟨rfl, rfl⟩
  go_wp2_with fail
  go_ret2
  exact ⟨rfl, hb4⟩

end Go.Proofs.YtlabmomehjfjdaaDoor
