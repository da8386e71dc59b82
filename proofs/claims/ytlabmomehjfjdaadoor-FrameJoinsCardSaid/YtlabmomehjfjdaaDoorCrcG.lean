/-
  The document's answer for chapter 05 (postriderref05), and the small functions of its statements (few, cut, mixed): their contracts. Conditions: as the theorems' own hypotheses say.
-/
import Derived.Test.YtlabmomehjfjdaaDoorCrcF
import Derived.StillTailTactics
namespace Go.Proofs.YtlabmomehjfjdaaDoor
open Go.RowKit

theorem below_drewN' {B : Nat} {a w : World} (h : Below B a w) (n : Nat) : Below B a (w.drewN n) := ⟨h.os, h.tape, h.output, h.size, h.block⟩
theorem rright_no (n : Int) (w : World) (h1 : n ≠ 1) (h2 : n ≠ 2) : Calls Tryd.prog 57 #[.int .i64 n] w (Pure (.bool false) w) := by
  have e1 : (n == 1) = false := beq_eq_false_iff_ne.2 h1
  have e2 : (n == 2) = false := beq_eq_false_iff_ne.2 h2
  clear h1 h2
  go_enter Tryd.func57, Tryd.ntmps57
  go_wp2
  go_ret
  exact ⟨rfl, rfl⟩
theorem rTable_no (n : Int) (w : World) (h1 : n ≠ 1) (h2 : n ≠ 2) : Calls Tryd.prog 45 #[.int .i64 n] w (Pure (.tuple #[.slice none 0 0, .int .i64 2]) w) := by
  have HT := Lib.hid (rright_no n w h1 h2)
  clear h1 h2
  go_enter Tryd.func45, Tryd.ntmps45
  go_wp2_with fail
  refine HT.out.mono ?_
  rintro e w1 ⟨rfl, rfl⟩
  go_wp2_with fail
  go_ret2
  exact ⟨rfl, rfl⟩
theorem rSum_no (n : Int) (A : Option Addr) (m c : Nat) (s : ByteArray) (w : World) (h1 : n ≠ 1) (h2 : n ≠ 2) : Calls Tryd.prog 46 #[.int .i64 n, .slice A m c, .string s] w (Pure (.tuple #[.int .u32 0, .int .i64 2]) w) := by
  have HT := Lib.hid (rright_no n w h1 h2)
  clear h1 h2
  go_enter Tryd.func46, Tryd.ntmps46
  go_wp2_with fail
  refine HT.out.mono ?_
  rintro e w1 ⟨rfl, rfl⟩
  go_wp2_with fail
  go_ret2
  exact ⟨rfl, rfl⟩
theorem rSize_no (n : Int) (w : World) (h1 : n ≠ 1) (h2 : n ≠ 2) : Calls Tryd.prog 47 #[.int .i64 n] w (Pure (.int .i64 0) w) := by
  have e1 : (n == 1) = false := beq_eq_false_iff_ne.2 h1
  have e2 : (n == 2) = false := beq_eq_false_iff_ne.2 h2
  clear h1 h2
  go_enter Tryd.func47, Tryd.ntmps47
  go_wp2
  go_ret
  exact ⟨rfl, rfl⟩
theorem rOf_0 (s : ByteArray) (w : World) : Calls Tryd.prog 28 #[.int .i64 0, .string s] w (Pure (.tuple #[.string ByteArray.empty, .int .i64 0]) w) := by
  go_enter Tryd.func28, Tryd.ntmps28
  go_wp2_with fail
  go_ret2
  exact ⟨rfl, rfl⟩
theorem rOf_no (n : Int) (s : ByteArray) (w : World) (h0 : n ≠ 0) (h1 : n ≠ 1) (h2 : n ≠ 2) : Calls Tryd.prog 28 #[.int .i64 n, .string s] w (Ret (.tuple #[.string ByteArray.empty, .int .i64 2]) w) := by
  have e0 : (n == 0) = false := beq_eq_false_iff_ne.2 h0
  have HT := Lib.hid (rTable_no n w h1 h2)
  clear h1 h2 h0
  go_enter Tryd.func28, Tryd.ntmps28
  go_wp2_with fail
  refine HT.out.mono ?_
  rintro e w1 ⟨rfl, rfl⟩
  go_wp2
  go_ret2
  exact ⟨rfl, Below.refl _ _⟩

theorem rright_1 (w : World) : Calls Tryd.prog 57 #[.int .i64 1] w (Pure (.bool true) w) := by
  go_enter Tryd.func57, Tryd.ntmps57
  go_wp2
  go_ret
  exact ⟨rfl, rfl⟩
theorem rSize_1 (w : World) : Calls Tryd.prog 47 #[.int .i64 1] w (Pure (.int .i64 2) w) := by
  go_enter Tryd.func47, Tryd.ntmps47
  go_wp2
  go_ret
  exact ⟨rfl, rfl⟩
set_option maxHeartbeats 1000000 in
theorem rpart_1 (b : Nat) (hb : b < 256) (w : World) : Calls Tryd.prog 58 #[.int .i64 1, .int .i64 (b : Int)] w (Pure (.int .u32 ((partN (putN false) b : Nat) : Int)) w) := by
  have hlt32 : ∀ k, stepsN (putN false) k b < 4294967296 := fun k => stepsN_lt (w := 32) k (by have := putN_lt false; simp only [putN]; decide) (by omega)
  have HL := Lib.hid hlt32
  clear hlt32
  go_enter Tryd.func58, Tryd.ntmps58
  go_wp2
  go_loop [6, 7, 8] (fun r i _ => ∃ k : Nat, k ≤ 8 ∧ i = .int .i64 k ∧ r = .int .u32 ((stepsN (putN false) k b : Nat) : Int)) (fun _ i _ => 8 - (intOf i).toNat)
  case atStart => exact ⟨0, Nat.zero_le _, rfl, rfl⟩
  case round =>
    obtain ⟨k, hk, rfl, rfl⟩ := hrel
    by_cases hlt : k < 8
    · have hq := HL.out k
      have hstep : stepsN (putN false) (k + 1) b = stepN (putN false) (stepsN (putN false) k b) := rfl
      generalize stepsN (putN false) k b = q at hq hstep
      rcases Nat.mod_two_eq_zero_or_one q with hq2 | hq2
      · have HS := Lib.hid (show stepsN (putN false) (k + 1) b = q / 2 by rw [hstep, stepN, if_neg (by omega)])
        have ho : ((q : Int) % 2 == 1) = false := beq_eq_false_iff_ne.2 (by omega)
        clear hstep hq2
        go_wp2
        go_round
        case rel => exact ⟨k + 1, by omega, by go_num, by rw [HS.out]; rfl⟩
        case measure => simp [intOf]; omega
      · have HS := Lib.hid (show stepsN (putN false) (k + 1) b = q / 2 ^^^ putN false by rw [hstep, stepN, if_pos hq2])
        have ho : ((q : Int) % 2 == 1) = true := beq_iff_eq.2 (by omega)
        have hx : bits .xor .u32 ((q : Int) / 2) 33800 = ((q / 2 ^^^ putN false : Nat) : Int) := u32_xor_nat (q / 2) (putN false) (by omega) (by simp [putN])
        clear hstep hq2
        go_wp2
        go_round
        case rel => exact ⟨k + 1, by omega, by go_num, by rw [HS.out]⟩
        case measure => simp [intOf]; omega
    · obtain rfl : k = 8 := by omega
      go_wp2
      go_ret
      exact ⟨rfl, rfl⟩
/-- What Table hands back. -/
def rTableRes1 (w : World) (e : Ending) (w' : World) : Prop := ∃ h cap, e = .returned (.tuple #[.slice (some ⟨h, 0, none⟩) 256 cap, .int .i64 0]) ∧ RdU w' (some ⟨h, 0, none⟩) (tabL false) ∧ Below w.heap.size w w'
set_option maxRecDepth 100000 in
set_option maxHeartbeats 1000000 in
theorem rTable_1 (w : World) : Calls Tryd.prog 45 #[.int .i64 1] w (rTableRes1 w) := by
  obtain ⟨i0, hi0, hz0, hz1, hz2⟩ := info_parts infoU32
  go_enter Tryd.func45, Tryd.ntmps45
  go_wp2_with fail
  refine (rright_1 _).mono ?_
  rintro e w1 ⟨rfl, rfl⟩
  go_wp2_with fail
  go_loopw [4, 5] (fun out i wr => ∃ k : Nat, k ≤ 256 ∧ i = .int .i64 k ∧ wr.ownsRow w.heap.size 77 1 out k (cellsU ((tabL false).take k)) ∧ Below w.heap.size w wr) (fun _ i _ => 256 - (intOf i).toNat)
  case atStart => exact ⟨0, by omega, rfl, own_nil, Below.refl _ _⟩
  case round =>
    obtain ⟨k, hk, rfl, hown, hbe⟩ := hrel
    have hsz := hbe.size
    by_cases hlt : k < 256
    · have HT := Lib.hid (tab_take false k hlt)
      go_wp2_with fail
      refine (rpart_1 k hlt _).mono ?_
      rintro e w2 ⟨rfl, rfl⟩
      generalize hp : partN (putN false) k = pk at HT
      have HP := Lib.hid hp
      clear hp
      go_wp2_with (at_builtin; refine wpList_append_own_at _ rfl _ _ _ rfl w.heap.size 77 i0 (.int .u32 0) 1 4 Tryd.underlying74 hi0 hz0 hz1 hz2 rfl (by omega) _ k _ rfl (hown.alloc _) ⟨wr.heap.size, 0, none⟩ 1 1 [.int .u32 (pk : Int)] rfl rfl (new_one _ _ _) (fun u hu => by rw [List.mem_singleton.1 hu]; rfl) (by unfold maxLen; omega) (by omega) (by simp; omega) ?_; intro v' w3 hown3 hgrow _ hat)
      have hbe3 : Below w.heap.size w w3 := below_append (hbe.alloc hsz _) (hown.alloc _) (Nat.le_refl _) (Nat.le_refl _) hgrow
      rw [← cellsU_snoc, ← HT.out] at hown3
      clear hown hbe hgrow hat
      go_roundw
      case rel => exact ⟨k + 1, by omega, by go_num, hown3, hbe3⟩
      case measure => simp [intOf]; omega
    · go_wp2_with fail
      obtain rfl : k = 256 := by omega
      rw [show (tabL false).take 256 = tabL false from List.take_of_length_le (by rw [tabL_length]; omega)] at hown
      obtain ⟨g, cap, rfl⟩ := ownsRow_succ hown
      exact bodyPost_ret (results_tmp2 rfl _ _ _) rfl ⟨g, cap, rfl, rdU_own hown, hbe⟩
theorem rSum_1_len (A : Option Addr) (m c : Nat) (s : ByteArray) (w : World) (hm : m ≠ 256) : Calls Tryd.prog 46 #[.int .i64 1, .slice A m c, .string s] w (Pure (.tuple #[.int .u32 0, .int .i64 50]) w) := by
  have e1 : ((m : Int) != 256) = true := by simp; omega
  clear hm
  go_enter Tryd.func46, Tryd.ntmps46
  go_wp2_with fail
  refine (rright_1 _).mono ?_
  rintro e w1 ⟨rfl, rfl⟩
  go_wp2_with fail
  go_ret2
  exact ⟨rfl, rfl⟩
set_option maxRecDepth 100000 in
set_option maxHeartbeats 1000000 in
theorem rSum_1_ok (A : Option Addr) (c : Nat) (T : List Nat) (s : ByteArray) (w : World) (hT : T.length = 256) (hr : RdU w A T) (hv : ∀ x ∈ T, x < 4294967296) (hs : s.size ≤ 9223372036854775807) :
    Calls Tryd.prog 46 #[.int .i64 1, .slice A 256 c, .string s] w (Pure (.tuple #[.int .u32 ((sumT false T s.data.toList : Nat) : Int), .int .i64 0]) w) := by
  obtain ⟨a, rfl, hab, hcell⟩ := hr (by omega)
  have HC := Lib.hid hcell
  have HV := Lib.hid hv
  clear hcell hr hv
  go_enter Tryd.func46, Tryd.ntmps46
  go_wp2_with fail
  refine (rright_1 _).mono ?_
  rintro e w1 ⟨rfl, rfl⟩
  go_wp2_with fail
  go_loop [9, 10, 11] (fun r i _ => ∃ k : Nat, k ≤ s.size ∧ i = .int .i64 k ∧ r = .int .u32 ((runT false T (allN false) (s.data.toList.take k) : Nat) : Int)) (fun _ i _ => s.size - (intOf i).toNat)
  case atStart => exact ⟨0, Nat.zero_le _, rfl, rfl⟩
  case round =>
    obtain ⟨k, hk, rfl, rfl⟩ := hrel
    by_cases hlt : k < s.size
    · have hq := runT_lt false T (s.data.toList.take k) _ (allN_lt false)
      have hnext : runT false T (allN false) (s.data.toList.take (k + 1)) = stepT false T (runT false T (allN false) (s.data.toList.take k)) s[k] := by
        rw [list_take_snoc s k hlt, runT_snoc]
      have HN := Lib.hid hnext
      clear hnext
      generalize runT false T (allN false) (s.data.toList.take k) = q at hq HN
      have hq' : q < 4294967296 := Nat.lt_of_lt_of_le hq (by simp [bitsN])
      have hx : bits .xor .u32 ((q : Int) % 256) ((s[k]).toNat % 4294967296 : Int) = ((q % 256 ^^^ s[k].toNat : Nat) : Int) := by
        rw [show ((s[k]).toNat % 4294967296 : Int) = (s[k]).toNat by have := s[k].toNat_lt; omega]
        exact u32_xor_nat (q % 256) s[k].toNat (by omega) (by have := s[k].toNat_lt; omega)
      have hil := idx_lt q s[k]
      have hc := HC.out (q % 256 ^^^ s[k].toNat) (by omega)
      have htv : T[q % 256 ^^^ s[k].toNat]'(by omega) < 4294967296 := HV.out _ (List.getElem_mem _)
      have hgd : T[q % 256 ^^^ s[k].toNat]'(by omega) = T.getD (q % 256 ^^^ s[k].toNat) 0 := by
        rw [List.getD, List.getElem?_eq_getElem (by omega)]; rfl
      rw [hgd] at hc htv
      clear hgd
      generalize hj : q % 256 ^^^ s[k].toNat = j at hx hil hc htv
      generalize htt : T.getD j 0 = t at hc htv
      have HJ := Lib.hid hj
      have HG := Lib.hid htt
      clear hj htt
      have ha : bits .and .u32 (t : Int) 65535 = ((t % 2 ^ bitsN false : Nat) : Int) := by
        have := u32_and_nat t 65535 htv (by omega)
        rw [show (t &&& 65535) = t % 2 ^ bitsN false from Nat.and_two_pow_sub_one_eq_mod t 16] at this
        exact this
      have hm2 : t % 2 ^ bitsN false < 4294967296 := Nat.lt_of_le_of_lt (Nat.mod_le _ _) htv
      generalize hmm : t % 2 ^ bitsN false = m at ha hm2
      have HM := Lib.hid hmm
      clear hmm
      have hxx : bits .xor .u32 ((q : Int) / 256) (m : Int) = ((q / 256 ^^^ m : Nat) : Int) := u32_xor_nat (q / 256) m (by omega) hm2
      go_wp2
      go_round
      case rel => exact ⟨k + 1, by omega, by go_num, by rw [HN.out, stepT, HJ.out, HG.out, HM.out]⟩
      case measure => simp [intOf]; omega
    · have hq := runT_lt false T (s.data.toList.take k) _ (allN_lt false)
      have hall : s.data.toList.take k = s.data.toList := List.take_of_length_le (by simp; omega)
      rw [hall] at hq ⊢
      have hx : bits .xor .u32 ((runT false T (allN false) s.data.toList : Nat) : Int) 65535 = ((sumT false T s.data.toList : Nat) : Int) := u32_xor_nat _ 65535 (Nat.lt_of_lt_of_le hq (by simp [bitsN])) (by omega)
      generalize hz : sumT false T s.data.toList = z at hx
      have HZ := Lib.hid hz
      clear hz hall
      go_wp2
      go_ret2
      exact ⟨by rw [HZ.out]; rfl, rfl⟩
theorem rOf_1 (s : ByteArray) (w : World) (hs : s.size ≤ 9223372036854775807) : Calls Tryd.prog 28 #[.int .i64 1, .string s] w (Ret (.tuple #[.string ⟨(sumB false s.data.toList).toArray⟩, .int .i64 0]) w) := by
  have hl : sumN false s.data.toList < 4294967296 := Nat.lt_of_lt_of_le (sumN_lt false _) (by simp [bitsN])
  have HB := Lib.hid (show bytesV ((sumN false s.data.toList : Nat) : Int) 2 = (⟨(sumB false s.data.toList).toArray⟩, 0) by
    have h1 := sumN_lt false s.data.toList
    rw [← (sizeN_bits false).2] at h1
    exact bytesV_ok (n := ((sumN false s.data.toList : Nat) : Int)) (wd := 2) (by decide) (by
      simp only [fits, Bool.and_eq_true, decide_eq_true_eq, Int.toNat_natCast]
      exact ⟨okNum_iff.2 ⟨by omega, by omega⟩, h1⟩))
  go_enter Tryd.func28, Tryd.ntmps28
  go_wp2_with fail
  refine (rTable_1 _).mono ?_
  rintro e w1 ⟨hh, cap, rfl, hr, hb1⟩
  go_wp2_with fail
  refine (rSum_1_ok (some ⟨hh, 0, none⟩) cap (tabL false) s _ (tabL_length false) hr (tab_small false) hs).mono ?_
  rintro e w2 ⟨rfl, rfl⟩
  rw [sumT_own]
  clear hr
  generalize hz : sumN false s.data.toList = z at hl HB
  go_wp2_with fail
  refine (rSize_1 _).mono ?_
  rintro e w3 ⟨rfl, rfl⟩
  go_wp2_with fail
  refine (rBytes_any (z : Int) 2 _).mono ?_
  rintro e w4 ⟨rfl, hb4'⟩
  have hb4 := ext_trans hb1 hb4'
  clear hb1 hb4'
  rw [HB.out]
  go_wp2_with fail
  go_ret2
  exact ⟨rfl, hb4⟩

theorem rright_2 (w : World) : Calls Tryd.prog 57 #[.int .i64 2] w (Pure (.bool true) w) := by
  go_enter Tryd.func57, Tryd.ntmps57
  go_wp2
  go_ret
  exact ⟨rfl, rfl⟩
theorem rSize_2 (w : World) : Calls Tryd.prog 47 #[.int .i64 2] w (Pure (.int .i64 4) w) := by
  go_enter Tryd.func47, Tryd.ntmps47
  go_wp2
  go_ret
  exact ⟨rfl, rfl⟩
set_option maxHeartbeats 1000000 in
theorem rpart_2 (b : Nat) (hb : b < 256) (w : World) : Calls Tryd.prog 58 #[.int .i64 2, .int .i64 (b : Int)] w (Pure (.int .u32 ((partN (putN true) b : Nat) : Int)) w) := by
  have hlt32 : ∀ k, stepsN (putN true) k b < 4294967296 := fun k => stepsN_lt (w := 32) k (by have := putN_lt true; simp only [putN]; decide) (by omega)
  have HL := Lib.hid hlt32
  clear hlt32
  go_enter Tryd.func58, Tryd.ntmps58
  go_wp2
  go_loop [6, 7, 8] (fun r i _ => ∃ k : Nat, k ≤ 8 ∧ i = .int .i64 k ∧ r = .int .u32 ((stepsN (putN true) k b : Nat) : Int)) (fun _ i _ => 8 - (intOf i).toNat)
  case atStart => exact ⟨0, Nat.zero_le _, rfl, rfl⟩
  case round =>
    obtain ⟨k, hk, rfl, rfl⟩ := hrel
    by_cases hlt : k < 8
    · have hq := HL.out k
      have hstep : stepsN (putN true) (k + 1) b = stepN (putN true) (stepsN (putN true) k b) := rfl
      generalize stepsN (putN true) k b = q at hq hstep
      rcases Nat.mod_two_eq_zero_or_one q with hq2 | hq2
      · have HS := Lib.hid (show stepsN (putN true) (k + 1) b = q / 2 by rw [hstep, stepN, if_neg (by omega)])
        have ho : ((q : Int) % 2 == 1) = false := beq_eq_false_iff_ne.2 (by omega)
        clear hstep hq2
        go_wp2
        go_round
        case rel => exact ⟨k + 1, by omega, by go_num, by rw [HS.out]; rfl⟩
        case measure => simp [intOf]; omega
      · have HS := Lib.hid (show stepsN (putN true) (k + 1) b = q / 2 ^^^ putN true by rw [hstep, stepN, if_pos hq2])
        have ho : ((q : Int) % 2 == 1) = true := beq_iff_eq.2 (by omega)
        have hx : bits .xor .u32 ((q : Int) / 2) 2197175160 = ((q / 2 ^^^ putN true : Nat) : Int) := u32_xor_nat (q / 2) (putN true) (by omega) (by simp [putN])
        clear hstep hq2
        go_wp2
        go_round
        case rel => exact ⟨k + 1, by omega, by go_num, by rw [HS.out]⟩
        case measure => simp [intOf]; omega
    · obtain rfl : k = 8 := by omega
      go_wp2
      go_ret
      exact ⟨rfl, rfl⟩
/-- What Table hands back. -/
def rTableRes2 (w : World) (e : Ending) (w' : World) : Prop := ∃ h cap, e = .returned (.tuple #[.slice (some ⟨h, 0, none⟩) 256 cap, .int .i64 0]) ∧ RdU w' (some ⟨h, 0, none⟩) (tabL true) ∧ Below w.heap.size w w'
set_option maxRecDepth 100000 in
set_option maxHeartbeats 1000000 in
theorem rTable_2 (w : World) : Calls Tryd.prog 45 #[.int .i64 2] w (rTableRes2 w) := by
  obtain ⟨i0, hi0, hz0, hz1, hz2⟩ := info_parts infoU32
  go_enter Tryd.func45, Tryd.ntmps45
  go_wp2_with fail
  refine (rright_2 _).mono ?_
  rintro e w1 ⟨rfl, rfl⟩
  go_wp2_with fail
  go_loopw [4, 5] (fun out i wr => ∃ k : Nat, k ≤ 256 ∧ i = .int .i64 k ∧ wr.ownsRow w.heap.size 77 1 out k (cellsU ((tabL true).take k)) ∧ Below w.heap.size w wr) (fun _ i _ => 256 - (intOf i).toNat)
  case atStart => exact ⟨0, by omega, rfl, own_nil, Below.refl _ _⟩
  case round =>
    obtain ⟨k, hk, rfl, hown, hbe⟩ := hrel
    have hsz := hbe.size
    by_cases hlt : k < 256
    · have HT := Lib.hid (tab_take true k hlt)
      go_wp2_with fail
      refine (rpart_2 k hlt _).mono ?_
      rintro e w2 ⟨rfl, rfl⟩
      generalize hp : partN (putN true) k = pk at HT
      have HP := Lib.hid hp
      clear hp
      go_wp2_with (at_builtin; refine wpList_append_own_at _ rfl _ _ _ rfl w.heap.size 77 i0 (.int .u32 0) 1 4 Tryd.underlying74 hi0 hz0 hz1 hz2 rfl (by omega) _ k _ rfl (hown.alloc _) ⟨wr.heap.size, 0, none⟩ 1 1 [.int .u32 (pk : Int)] rfl rfl (new_one _ _ _) (fun u hu => by rw [List.mem_singleton.1 hu]; rfl) (by unfold maxLen; omega) (by omega) (by simp; omega) ?_; intro v' w3 hown3 hgrow _ hat)
      have hbe3 : Below w.heap.size w w3 := below_append (hbe.alloc hsz _) (hown.alloc _) (Nat.le_refl _) (Nat.le_refl _) hgrow
      rw [← cellsU_snoc, ← HT.out] at hown3
      clear hown hbe hgrow hat
      go_roundw
      case rel => exact ⟨k + 1, by omega, by go_num, hown3, hbe3⟩
      case measure => simp [intOf]; omega
    · go_wp2_with fail
      obtain rfl : k = 256 := by omega
      rw [show (tabL true).take 256 = tabL true from List.take_of_length_le (by rw [tabL_length]; omega)] at hown
      obtain ⟨g, cap, rfl⟩ := ownsRow_succ hown
      exact bodyPost_ret (results_tmp2 rfl _ _ _) rfl ⟨g, cap, rfl, rdU_own hown, hbe⟩
theorem rSum_2_len (A : Option Addr) (m c : Nat) (s : ByteArray) (w : World) (hm : m ≠ 256) : Calls Tryd.prog 46 #[.int .i64 2, .slice A m c, .string s] w (Pure (.tuple #[.int .u32 0, .int .i64 50]) w) := by
  have e1 : ((m : Int) != 256) = true := by simp; omega
  clear hm
  go_enter Tryd.func46, Tryd.ntmps46
  go_wp2_with fail
  refine (rright_2 _).mono ?_
  rintro e w1 ⟨rfl, rfl⟩
  go_wp2_with fail
  go_ret2
  exact ⟨rfl, rfl⟩
set_option maxRecDepth 100000 in
set_option maxHeartbeats 1000000 in
theorem rSum_2_ok (A : Option Addr) (c : Nat) (T : List Nat) (s : ByteArray) (w : World) (hT : T.length = 256) (hr : RdU w A T) (hv : ∀ x ∈ T, x < 4294967296) (hs : s.size ≤ 9223372036854775807) :
    Calls Tryd.prog 46 #[.int .i64 2, .slice A 256 c, .string s] w (Pure (.tuple #[.int .u32 ((sumT true T s.data.toList : Nat) : Int), .int .i64 0]) w) := by
  obtain ⟨a, rfl, hab, hcell⟩ := hr (by omega)
  have HC := Lib.hid hcell
  have HV := Lib.hid hv
  clear hcell hr hv
  go_enter Tryd.func46, Tryd.ntmps46
  go_wp2_with fail
  refine (rright_2 _).mono ?_
  rintro e w1 ⟨rfl, rfl⟩
  go_wp2_with fail
  go_loop [9, 10, 11] (fun r i _ => ∃ k : Nat, k ≤ s.size ∧ i = .int .i64 k ∧ r = .int .u32 ((runT true T (allN true) (s.data.toList.take k) : Nat) : Int)) (fun _ i _ => s.size - (intOf i).toNat)
  case atStart => exact ⟨0, Nat.zero_le _, rfl, rfl⟩
  case round =>
    obtain ⟨k, hk, rfl, rfl⟩ := hrel
    by_cases hlt : k < s.size
    · have hq := runT_lt true T (s.data.toList.take k) _ (allN_lt true)
      have hnext : runT true T (allN true) (s.data.toList.take (k + 1)) = stepT true T (runT true T (allN true) (s.data.toList.take k)) s[k] := by
        rw [list_take_snoc s k hlt, runT_snoc]
      have HN := Lib.hid hnext
      clear hnext
      generalize runT true T (allN true) (s.data.toList.take k) = q at hq HN
      have hq' : q < 4294967296 := Nat.lt_of_lt_of_le hq (by simp [bitsN])
      have hx : bits .xor .u32 ((q : Int) % 256) ((s[k]).toNat % 4294967296 : Int) = ((q % 256 ^^^ s[k].toNat : Nat) : Int) := by
        rw [show ((s[k]).toNat % 4294967296 : Int) = (s[k]).toNat by have := s[k].toNat_lt; omega]
        exact u32_xor_nat (q % 256) s[k].toNat (by omega) (by have := s[k].toNat_lt; omega)
      have hil := idx_lt q s[k]
      have hc := HC.out (q % 256 ^^^ s[k].toNat) (by omega)
      have htv : T[q % 256 ^^^ s[k].toNat]'(by omega) < 4294967296 := HV.out _ (List.getElem_mem _)
      have hgd : T[q % 256 ^^^ s[k].toNat]'(by omega) = T.getD (q % 256 ^^^ s[k].toNat) 0 := by
        rw [List.getD, List.getElem?_eq_getElem (by omega)]; rfl
      rw [hgd] at hc htv
      clear hgd
      generalize hj : q % 256 ^^^ s[k].toNat = j at hx hil hc htv
      generalize htt : T.getD j 0 = t at hc htv
      have HJ := Lib.hid hj
      have HG := Lib.hid htt
      clear hj htt
      have ha : bits .and .u32 (t : Int) 4294967295 = ((t % 2 ^ bitsN true : Nat) : Int) := by
        have := u32_and_nat t 4294967295 htv (by omega)
        rw [show (t &&& 4294967295) = t % 2 ^ bitsN true from Nat.and_two_pow_sub_one_eq_mod t 32] at this
        exact this
      have hm2 : t % 2 ^ bitsN true < 4294967296 := Nat.lt_of_le_of_lt (Nat.mod_le _ _) htv
      generalize hmm : t % 2 ^ bitsN true = m at ha hm2
      have HM := Lib.hid hmm
      clear hmm
      have hxx : bits .xor .u32 ((q : Int) / 256) (m : Int) = ((q / 256 ^^^ m : Nat) : Int) := u32_xor_nat (q / 256) m (by omega) hm2
      go_wp2
      go_round
      case rel => exact ⟨k + 1, by omega, by go_num, by rw [HN.out, stepT, HJ.out, HG.out, HM.out]⟩
      case measure => simp [intOf]; omega
    · have hq := runT_lt true T (s.data.toList.take k) _ (allN_lt true)
      have hall : s.data.toList.take k = s.data.toList := List.take_of_length_le (by simp; omega)
      rw [hall] at hq ⊢
      have hx : bits .xor .u32 ((runT true T (allN true) s.data.toList : Nat) : Int) 4294967295 = ((sumT true T s.data.toList : Nat) : Int) := u32_xor_nat _ 4294967295 (Nat.lt_of_lt_of_le hq (by simp [bitsN])) (by omega)
      generalize hz : sumT true T s.data.toList = z at hx
      have HZ := Lib.hid hz
      clear hz hall
      go_wp2
      go_ret2
      exact ⟨by rw [HZ.out]; rfl, rfl⟩
theorem rOf_2 (s : ByteArray) (w : World) (hs : s.size ≤ 9223372036854775807) : Calls Tryd.prog 28 #[.int .i64 2, .string s] w (Ret (.tuple #[.string ⟨(sumB true s.data.toList).toArray⟩, .int .i64 0]) w) := by
  have hl : sumN true s.data.toList < 4294967296 := Nat.lt_of_lt_of_le (sumN_lt true _) (by simp [bitsN])
  have HB := Lib.hid (show bytesV ((sumN true s.data.toList : Nat) : Int) 4 = (⟨(sumB true s.data.toList).toArray⟩, 0) by
    have h1 := sumN_lt true s.data.toList
    rw [← (sizeN_bits true).2] at h1
    exact bytesV_ok (n := ((sumN true s.data.toList : Nat) : Int)) (wd := 4) (by decide) (by
      simp only [fits, Bool.and_eq_true, decide_eq_true_eq, Int.toNat_natCast]
      exact ⟨okNum_iff.2 ⟨by omega, by omega⟩, h1⟩))
  go_enter Tryd.func28, Tryd.ntmps28
  go_wp2_with fail
  refine (rTable_2 _).mono ?_
  rintro e w1 ⟨hh, cap, rfl, hr, hb1⟩
  go_wp2_with fail
  refine (rSum_2_ok (some ⟨hh, 0, none⟩) cap (tabL true) s _ (tabL_length true) hr (tab_small true) hs).mono ?_
  rintro e w2 ⟨rfl, rfl⟩
  rw [sumT_own]
  clear hr
  generalize hz : sumN true s.data.toList = z at hl HB
  go_wp2_with fail
  refine (rSize_2 _).mono ?_
  rintro e w3 ⟨rfl, rfl⟩
  go_wp2_with fail
  refine (rBytes_any (z : Int) 4 _).mono ?_
  rintro e w4 ⟨rfl, hb4'⟩
  have hb4 := ext_trans hb1 hb4'
  clear hb1 hb4'
  rw [HB.out]
  go_wp2_with fail
  go_ret2
  exact ⟨rfl, hb4⟩

end Go.Proofs.YtlabmomehjfjdaaDoor
