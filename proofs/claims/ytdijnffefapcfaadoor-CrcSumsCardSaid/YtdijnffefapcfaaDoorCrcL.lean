/-
  Package postriderlaw05: the walks of the statements CrcSums, CrcOwn, CrcTables, CrcTurns: each hands back true. Conditions: the listed variables hold what 'CInv' says.
-/
import Derived.Test.YtdijnffefapcfaaDoorCrcH
namespace Go.Proofs.YtdijnffefapcfaaDoor
open Go.RowKit

theorem beq_refl_u32 (x : Int) : (x == x) = true := beq_self_eq_true x

/-- The statement CrcSums, for a kind that is none of the two. -/
theorem CrcSums_no (n : Int) (A : Option Addr) (m c : Nat) (s : ByteArray) (w : World) (aA aT aN aW aS : Addr) (h : CInv w aA aT aN aW aS) (hs : s.size ≤ 9223372036854775807) (hm : m ≤ c) (hc : c ≤ 9223372036854775807) (h00 : A = none → m = 0 ∧ c = 0)
    (h1 : n ≠ 1) (h2 : n ≠ 2) : Calls Tryd.prog 3 #[.int .i64 n, .slice A m c, .string s] w (Ret (.bool true) w) := by
  have H1 := Lib.hid h1
  have H2 := Lib.hid h2
  have HF := Lib.hid (fun W => few_any A m c W hm hc h00)
  have HZ := Lib.hid (show sizeV n = 0 by rw [sizeV, if_neg h1, if_neg h2])
  clear h1 h2 h00 hm hc
  go_enter Tryd.func3, Tryd.ntmps3
  go_wp2_with fail
  refine (cshown_any _ aA aT aN aW aS h).mono ?_
  rintro e w1 ⟨rfl, hb1⟩
  go_wp2_with fail
  refine (HF.out _).mono ?_
  rintro e w2 ⟨rfl, rfl⟩
  go_wp2_with fail
  refine (ccut_any s _ hs).mono ?_
  rintro e w2 ⟨rfl, rfl⟩
  have hsz := cut200_size s
  generalize cut200 s = s at hsz
  generalize min m 257 = m
  go_wp2_with fail
  refine (Table_no n _ aA aT aN aW aS (h.below hb1) H1.out H2.out).mono ?_
  rintro e w2 ⟨rfl, hb2'⟩
  have hb2 := ext_trans hb1 hb2'
  clear hb1 hb2'
  go_wp2_with fail
  refine (rTable_no n _ H1.out H2.out).mono ?_
  rintro e w3 ⟨rfl, rfl⟩
  go_wp2_with fail
  refine (Sum_no n A m c s _ aA aT aN aW aS (h.below hb2) H1.out H2.out).mono ?_
  rintro e w3 ⟨rfl, hb3'⟩
  have hb3 := ext_trans hb2 hb3'
  clear hb2 hb3'
  go_wp2_with fail
  refine (rSum_no n A m c s _ H1.out H2.out).mono ?_
  rintro e w4 ⟨rfl, rfl⟩
  go_wp2_with fail
  by_cases h0 : n = 0
  · subst h0
    refine (Of_0 s _ aA aT aN aW aS (h.below hb3)).mono ?_
    rintro e w4 ⟨rfl, hb4'⟩
    have hb4 := ext_trans hb3 hb4'
    clear hb3 hb4'
    go_wp2_with fail
    refine (rOf_0 s _).mono ?_
    rintro e w5 ⟨rfl, rfl⟩
    go_wp2_with fail
    refine (Same_true none none 0 0 0 [] _ rfl (fun hh => absurd hh (by simp)) (fun hh => absurd hh (by simp)) (by omega)).mono ?_
    rintro e w5 ⟨rfl, hb5'⟩
    have hb5 := ext_trans hb4 hb5'
    clear hb4 hb5'
    go_wp2_with fail
    refine (Size_0 _ aA aT aN aW aS (h.below hb5)).mono ?_
    rintro e w6 ⟨rfl, hb6'⟩
    have hb6 := ext_trans hb5 hb6'
    clear hb5 hb6'
    go_wp2_with fail
    refine (rSize_no 0 _ (by decide) (by decide)).mono ?_
    rintro e w7 ⟨rfl, rfl⟩
    go_wp2_with fail
    go_ret
    exact ⟨rfl, hb6⟩
  · have H0 := Lib.hid h0
    clear h0
    refine (Of_no n s _ aA aT aN aW aS (h.below hb3) H0.out H1.out H2.out).mono ?_
    rintro e w4 ⟨rfl, hb4'⟩
    have hb4 := ext_trans hb3 hb4'
    clear hb3 hb4'
    go_wp2_with fail
    refine (rOf_no n s _ H0.out H1.out H2.out).mono ?_
    rintro e w5 ⟨rfl, hb5'⟩
    have hb5 := ext_trans hb4 hb5'
    clear hb4 hb5'
    go_wp2_with fail
    refine (Same_true none none 0 0 0 [] _ rfl (fun hh => absurd hh (by simp)) (fun hh => absurd hh (by simp)) (by omega)).mono ?_
    rintro e w6 ⟨rfl, hb6'⟩
    have hb6 := ext_trans hb5 hb6'
    clear hb5 hb6'
    go_wp2_with fail
    refine (Size_any n _ aA aT aN aW aS (h.below hb6)).mono ?_
    rintro e w7 ⟨rfl, hb7'⟩
    have hb7 := ext_trans hb6 hb7'
    clear hb6 hb7'
    rw [HZ.out]
    go_wp2_with fail
    refine (rSize_no n _ H1.out H2.out).mono ?_
    rintro e w8 ⟨rfl, rfl⟩
    go_wp2_with fail
    go_ret
    exact ⟨rfl, hb7⟩

/-- The statement CrcSums, for a kind that is one of the two. -/
theorem CrcSums_1 (A : Option Addr) (m c : Nat) (T : List Nat) (s : ByteArray) (w : World) (aA aT aN aW aS : Addr) (h : CInv w aA aT aN aW aS) (hs : s.size ≤ 9223372036854775807) (hm : m ≤ c) (hc : c ≤ 9223372036854775807) (h00 : A = none → m = 0 ∧ c = 0)
    (hT : T.length = min m 257) (hr : RdU w A T) (hv : ∀ x ∈ T, x < 4294967296) : Calls Tryd.prog 3 #[.int .i64 1, .slice A m c, .string s] w (Ret (.bool true) w) := by
  have HF := Lib.hid (fun W => few_any A m c W hm hc h00)
  have HT := Lib.hid hT
  have HV := Lib.hid hv
  clear h00 hm hc hT hv
  go_enter Tryd.func3, Tryd.ntmps3
  go_wp2_with fail
  refine (cshown_any _ aA aT aN aW aS h).mono ?_
  rintro e w1 ⟨rfl, hb1⟩
  go_wp2_with fail
  refine (HF.out _).mono ?_
  rintro e w2 ⟨rfl, rfl⟩
  go_wp2_with fail
  refine (ccut_any s _ hs).mono ?_
  rintro e w2 ⟨rfl, rfl⟩
  have hsz := cut200_size s
  generalize cut200 s = s at hsz
  generalize min m 257 = m at HT
  have hs200 : s.size ≤ 9223372036854775807 := by omega
  go_wp2_with fail
  refine (Table_1 _ aA aT aN aW aS (h.below hb1)).mono ?_
  rintro e w2 ⟨ha, ca, rfl, hra, hb2'⟩
  have hb2 := ext_trans hb1 hb2'
  clear hb1 hb2'
  go_wp2_with fail
  refine (rTable_1 _).mono ?_
  rintro e w3 ⟨hb, cb, rfl, hrb, hb3'⟩
  have hb3 := ext_trans hb2 hb3'
  have hra3 := hra.below hb3'
  clear hb2 hb3' hra
  by_cases h256 : m = 256
  · subst h256
    go_wp2_with fail
    refine (Sum_1_ok A c T s _ aA aT aN aW aS (h.below hb3) HT.out (hr.below hb3) HV.out hs200).mono ?_
    rintro e w4 ⟨rfl, hb4'⟩
    have hb4 := ext_trans hb3 hb4'
    have hra4 := hra3.below hb4'
    have hrb4 := hrb.below hb4'
    clear hb3 hb4' hra3 hrb
    go_wp2_with fail
    refine (rSum_1_ok A c T s _ HT.out (hr.below hb4) HV.out hs200).mono ?_
    rintro e w5 ⟨rfl, rfl⟩
    generalize sumT false T s.data.toList = z1
    go_wp2_with fail
    refine (Of_1 s _ aA aT aN aW aS (h.below hb4) hs200).mono ?_
    rintro e w5 ⟨rfl, hb5'⟩
    have hb5 := ext_trans hb4 hb5'
    have hra5 := hra4.below hb5'
    have hrb5 := hrb4.below hb5'
    clear hb4 hb5' hra4 hrb4
    go_wp2_with fail
    refine (rOf_1 s _ hs200).mono ?_
    rintro e w6 ⟨rfl, hb6'⟩
    have hb6 := ext_trans hb5 hb6'
    have hra6 := hra5.below hb6'
    have hrb6 := hrb5.below hb6'
    clear hb5 hb6' hra5 hrb5
    generalize (⟨(sumB false s.data.toList).toArray⟩ : ByteArray) = z2
    go_wp2_with fail
    refine (Same_true (some ⟨ha, 0, none⟩) (some ⟨hb, 0, none⟩) ca cb 256 (tabL false) _ (tabL_length false) hra6 hrb6 (by omega)).mono ?_
    rintro e w7 ⟨rfl, hb7'⟩
    have hb7 := ext_trans hb6 hb7'
    clear hb6 hb7' hra6 hrb6
    go_wp2_with fail
    refine (Size_1 _ aA aT aN aW aS (h.below hb7)).mono ?_
    rintro e w8 ⟨rfl, hb8'⟩
    have hb8 := ext_trans hb7 hb8'
    clear hb7 hb8'
    go_wp2_with fail
    refine (rSize_1 _).mono ?_
    rintro e w9 ⟨rfl, rfl⟩
    go_wp2_with fail
    go_ret
    exact ⟨rfl, hb8⟩
  · have H256 := Lib.hid h256
    clear h256
    go_wp2_with fail
    refine (Sum_1_len A m c s _ aA aT aN aW aS (h.below hb3) H256.out).mono ?_
    rintro e w4 ⟨rfl, hb4'⟩
    have hb4 := ext_trans hb3 hb4'
    have hra4 := hra3.below hb4'
    have hrb4 := hrb.below hb4'
    clear hb3 hb4' hra3 hrb
    go_wp2_with fail
    refine (rSum_1_len A m c s _ H256.out).mono ?_
    rintro e w5 ⟨rfl, rfl⟩
    go_wp2_with fail
    refine (Of_1 s _ aA aT aN aW aS (h.below hb4) hs200).mono ?_
    rintro e w5 ⟨rfl, hb5'⟩
    have hb5 := ext_trans hb4 hb5'
    have hra5 := hra4.below hb5'
    have hrb5 := hrb4.below hb5'
    clear hb4 hb5' hra4 hrb4
    go_wp2_with fail
    refine (rOf_1 s _ hs200).mono ?_
    rintro e w6 ⟨rfl, hb6'⟩
    have hb6 := ext_trans hb5 hb6'
    have hra6 := hra5.below hb6'
    have hrb6 := hrb5.below hb6'
    clear hb5 hb6' hra5 hrb5
    generalize (⟨(sumB false s.data.toList).toArray⟩ : ByteArray) = z2
    go_wp2_with fail
    refine (Same_true (some ⟨ha, 0, none⟩) (some ⟨hb, 0, none⟩) ca cb 256 (tabL false) _ (tabL_length false) hra6 hrb6 (by omega)).mono ?_
    rintro e w7 ⟨rfl, hb7'⟩
    have hb7 := ext_trans hb6 hb7'
    clear hb6 hb7' hra6 hrb6
    go_wp2_with fail
    refine (Size_1 _ aA aT aN aW aS (h.below hb7)).mono ?_
    rintro e w8 ⟨rfl, hb8'⟩
    have hb8 := ext_trans hb7 hb8'
    clear hb7 hb8'
    go_wp2_with fail
    refine (rSize_1 _).mono ?_
    rintro e w9 ⟨rfl, rfl⟩
    go_wp2_with fail
    go_ret
    exact ⟨rfl, hb8⟩

/-- The statement CrcSums, for a kind that is one of the two. -/
theorem CrcSums_2 (A : Option Addr) (m c : Nat) (T : List Nat) (s : ByteArray) (w : World) (aA aT aN aW aS : Addr) (h : CInv w aA aT aN aW aS) (hs : s.size ≤ 9223372036854775807) (hm : m ≤ c) (hc : c ≤ 9223372036854775807) (h00 : A = none → m = 0 ∧ c = 0)
    (hT : T.length = min m 257) (hr : RdU w A T) (hv : ∀ x ∈ T, x < 4294967296) : Calls Tryd.prog 3 #[.int .i64 2, .slice A m c, .string s] w (Ret (.bool true) w) := by
  have HF := Lib.hid (fun W => few_any A m c W hm hc h00)
  have HT := Lib.hid hT
  have HV := Lib.hid hv
  clear h00 hm hc hT hv
  go_enter Tryd.func3, Tryd.ntmps3
  go_wp2_with fail
  refine (cshown_any _ aA aT aN aW aS h).mono ?_
  rintro e w1 ⟨rfl, hb1⟩
  go_wp2_with fail
  refine (HF.out _).mono ?_
  rintro e w2 ⟨rfl, rfl⟩
  go_wp2_with fail
  refine (ccut_any s _ hs).mono ?_
  rintro e w2 ⟨rfl, rfl⟩
  have hsz := cut200_size s
  generalize cut200 s = s at hsz
  generalize min m 257 = m at HT
  have hs200 : s.size ≤ 9223372036854775807 := by omega
  go_wp2_with fail
  refine (Table_2 _ aA aT aN aW aS (h.below hb1)).mono ?_
  rintro e w2 ⟨ha, ca, rfl, hra, hb2'⟩
  have hb2 := ext_trans hb1 hb2'
  clear hb1 hb2'
  go_wp2_with fail
  refine (rTable_2 _).mono ?_
  rintro e w3 ⟨hb, cb, rfl, hrb, hb3'⟩
  have hb3 := ext_trans hb2 hb3'
  have hra3 := hra.below hb3'
  clear hb2 hb3' hra
  by_cases h256 : m = 256
  · subst h256
    go_wp2_with fail
    refine (Sum_2_ok A c T s _ aA aT aN aW aS (h.below hb3) HT.out (hr.below hb3) HV.out hs200).mono ?_
    rintro e w4 ⟨rfl, hb4'⟩
    have hb4 := ext_trans hb3 hb4'
    have hra4 := hra3.below hb4'
    have hrb4 := hrb.below hb4'
    clear hb3 hb4' hra3 hrb
    go_wp2_with fail
    refine (rSum_2_ok A c T s _ HT.out (hr.below hb4) HV.out hs200).mono ?_
    rintro e w5 ⟨rfl, rfl⟩
    generalize sumT true T s.data.toList = z1
    go_wp2_with fail
    refine (Of_2 s _ aA aT aN aW aS (h.below hb4) hs200).mono ?_
    rintro e w5 ⟨rfl, hb5'⟩
    have hb5 := ext_trans hb4 hb5'
    have hra5 := hra4.below hb5'
    have hrb5 := hrb4.below hb5'
    clear hb4 hb5' hra4 hrb4
    go_wp2_with fail
    refine (rOf_2 s _ hs200).mono ?_
    rintro e w6 ⟨rfl, hb6'⟩
    have hb6 := ext_trans hb5 hb6'
    have hra6 := hra5.below hb6'
    have hrb6 := hrb5.below hb6'
    clear hb5 hb6' hra5 hrb5
    generalize (⟨(sumB true s.data.toList).toArray⟩ : ByteArray) = z2
    go_wp2_with fail
    refine (Same_true (some ⟨ha, 0, none⟩) (some ⟨hb, 0, none⟩) ca cb 256 (tabL true) _ (tabL_length true) hra6 hrb6 (by omega)).mono ?_
    rintro e w7 ⟨rfl, hb7'⟩
    have hb7 := ext_trans hb6 hb7'
    clear hb6 hb7' hra6 hrb6
    go_wp2_with fail
    refine (Size_2 _ aA aT aN aW aS (h.below hb7)).mono ?_
    rintro e w8 ⟨rfl, hb8'⟩
    have hb8 := ext_trans hb7 hb8'
    clear hb7 hb8'
    go_wp2_with fail
    refine (rSize_2 _).mono ?_
    rintro e w9 ⟨rfl, rfl⟩
    go_wp2_with fail
    go_ret
    exact ⟨rfl, hb8⟩
  · have H256 := Lib.hid h256
    clear h256
    go_wp2_with fail
    refine (Sum_2_len A m c s _ aA aT aN aW aS (h.below hb3) H256.out).mono ?_
    rintro e w4 ⟨rfl, hb4'⟩
    have hb4 := ext_trans hb3 hb4'
    have hra4 := hra3.below hb4'
    have hrb4 := hrb.below hb4'
    clear hb3 hb4' hra3 hrb
    go_wp2_with fail
    refine (rSum_2_len A m c s _ H256.out).mono ?_
    rintro e w5 ⟨rfl, rfl⟩
    go_wp2_with fail
    refine (Of_2 s _ aA aT aN aW aS (h.below hb4) hs200).mono ?_
    rintro e w5 ⟨rfl, hb5'⟩
    have hb5 := ext_trans hb4 hb5'
    have hra5 := hra4.below hb5'
    have hrb5 := hrb4.below hb5'
    clear hb4 hb5' hra4 hrb4
    go_wp2_with fail
    refine (rOf_2 s _ hs200).mono ?_
    rintro e w6 ⟨rfl, hb6'⟩
    have hb6 := ext_trans hb5 hb6'
    have hra6 := hra5.below hb6'
    have hrb6 := hrb5.below hb6'
    clear hb5 hb6' hra5 hrb5
    generalize (⟨(sumB true s.data.toList).toArray⟩ : ByteArray) = z2
    go_wp2_with fail
    refine (Same_true (some ⟨ha, 0, none⟩) (some ⟨hb, 0, none⟩) ca cb 256 (tabL true) _ (tabL_length true) hra6 hrb6 (by omega)).mono ?_
    rintro e w7 ⟨rfl, hb7'⟩
    have hb7 := ext_trans hb6 hb7'
    clear hb6 hb7' hra6 hrb6
    go_wp2_with fail
    refine (Size_2 _ aA aT aN aW aS (h.below hb7)).mono ?_
    rintro e w8 ⟨rfl, hb8'⟩
    have hb8 := ext_trans hb7 hb8'
    clear hb7 hb8'
    go_wp2_with fail
    refine (rSize_2 _).mono ?_
    rintro e w9 ⟨rfl, rfl⟩
    go_wp2_with fail
    go_ret
    exact ⟨rfl, hb8⟩

theorem CrcSums_law (n : Int) (A : Option Addr) (m c : Nat) (T : List Nat) (s : ByteArray) (w : World) (aA aT aN aW aS : Addr) (h : CInv w aA aT aN aW aS) (hs : s.size ≤ 9223372036854775807) (hm : m ≤ c) (hc : c ≤ 9223372036854775807) (h00 : A = none → m = 0 ∧ c = 0)
    (hT : T.length = min m 257) (hr : RdU w A T) (hv : ∀ x ∈ T, x < 4294967296) : Calls Tryd.prog 3 #[.int .i64 n, .slice A m c, .string s] w (Ret (.bool true) w) := by
  by_cases h1 : n = 1
  · subst h1; exact CrcSums_1 A m c T s w aA aT aN aW aS h hs hm hc h00 hT hr hv
  by_cases h2 : n = 2
  · subst h2; exact CrcSums_2 A m c T s w aA aT aN aW aS h hs hm hc h00 hT hr hv
  · exact CrcSums_no n A m c s w aA aT aN aW aS h hs hm hc h00 h1 h2

end Go.Proofs.YtdijnffefapcfaaDoor
