/-
  Package crc: a kind's own table (table), and more of the kind. Conditions: as the theorems' own hypotheses say.
-/
import Derived.Test.YtmebjdbkngehiaaGreatDoorQgF
import Derived.Maps.AppendAt
import Derived.Deep.AppendLies
import Derived.Deep.DeepMust
import Derived.StillTailTactics
namespace Go.Proofs.YtmebjdbkngehiaaGreatDoor
open Go.RowKit
set_option maxHeartbeats 1000000
theorem infoU32 : (Tryz.prog.info? 251).map (fun i => (i.zero, i.size, i.bytes)) = some (some (.int .u32 0), 1, 4) := by kernel_rfl
theorem new_one (w : World) (x : Value) (t : TypeId) : ∀ j u, ([x] : List Value)[j]? = some u → (w.alloc (.cells #[x] t)).cell? ((⟨w.heap.size, 0, none⟩ : Addr).add j) = some u := by
 intro j u h
 cases j with
 | zero =>
  simp only [List.getElem?_cons_zero, Option.some.injEq] at h
  subst h
  simp [Addr.add]
 | succ j => simp at h
def cellsU (l : List Nat) : List Value := l.map fun (n : Nat) => Value.int .u32 (n : Int)
theorem cellsU_snoc (l : List Nat) (n : Nat) : cellsU (l ++ [n]) = cellsU l ++ [.int .u32 (n : Int)] := by simp [cellsU]
theorem rdU_own {w : World} {base : Nat} {g cap n : Nat} {l : List Nat} (h : w.ownsRow base 251 1 (.slice (some ⟨g, 0, none⟩) n cap) n (cellsU l)) : RdU w (some ⟨g, 0, none⟩) l := fun _ => by
 refine ⟨⟨g, 0, none⟩, rfl, (h.lt _ rfl).2, fun i hi => ?_⟩
 have hl : (cellsU l).length = n * 1 := h.1
 have := h.cells rfl i (.int .u32 ((l[i] : Nat) : Int)) (by simp [cellsU, hi])
 exact this
theorem tab_take (g : Bool) (k : Nat) (h : k < 256) : (tabL g).take (k + 1) = (tabL g).take k ++ [partN (putN g) k] := by
 have hl := tabL_length g
 rw [List.take_succ_eq_append_getElem (by omega)]
 congr 2
 have := tabL_get g k h
 rwa [List.getD, List.getElem?_eq_getElem (by omega)] at this
def TabRes (g : Bool) (w : World) (e : Ending) (w' : World) : Prop := ∃ h cap, e = .returned (.tuple #[.slice (some ⟨h, 0, none⟩) 256 cap, .nilIface]) ∧ RdU w' (some ⟨h, 0, none⟩) (tabL g) ∧ Below w.heap.size w w'
set_option maxRecDepth 100000 in
theorem table16_any (w : World) : Calls Tryz.prog 160 #[.int .i64 1] w (TabRes false w) := by
 obtain ⟨i0, hi0, hz0, hz1, hz2⟩ := info_parts infoU32
 go_enter Tryz.func160, Tryz.ntmps160
 go_wp2_with fail
 refine (part16_make _).mono ?_
 rintro e w1 ⟨rfl, rfl⟩
 go_wp2_with fail
 obtain ⟨d, hd⟩ : ∃ d, w.heap.size = d := ⟨_, rfl⟩
 have p0 : Boxed (w.alloc (.cells #[.int .u16 33800] 273)) d 273 (.int .u16 33800) := by rw [← hd]; exact Boxed.new _ _ _
 have q0 : Below d w (w.alloc (.cells #[.int .u16 33800] 273)) := by rw [← hd]; exact ext_new _ _
 have HD := Lib.hid hd
 rw [hd]
 clear hd
 go_loopw [5, 15] (fun out i wr => ∃ k : Nat, k ≤ 256 ∧ i = .int .i64 k ∧ wr.ownsRow (d + 1) 251 1 out k (cellsU ((tabL false).take k)) ∧ Boxed wr d 273 (.int .u16 33800) ∧ Below d w wr) (fun _ i _ => 256 - (intOf i).toNat)
 case atStart => exact ⟨0, by omega, rfl, own_nil, p0, q0⟩
 case round =>
  obtain ⟨k, hk, rfl, hown, hbx, hbe⟩ := hrel
  clear p0 q0
  by_cases hlt : k < 256
  ·have HT := Lib.hid (tab_take false k hlt)
   go_wp2_with fail
   refine (part16_any k hlt d _ hbx).mono ?_
   rintro e w2 ⟨rfl, hb2⟩
   have hown2 := own_below hown hb2
   have hbx2 : Boxed w2 d 273 (.int .u16 33800) := boxed_kept' hbx (hb2.block d hbx.lt)
   have hbe2 : Below d w w2 := hbe.trans (hb2.mono (Nat.le_of_lt hbx.lt))
   have hl2 := hbx2.lt
   clear hown hbx hbe hb2
   generalize hp : partN (putN false) k = pk at HT
   have HP := Lib.hid hp
   clear hp
   go_wp2_with (at_builtin; refine wpList_append_own_at _ rfl _ _ _ rfl (d + 1) 251 i0 (.int .u32 0) 1 4 Tryz.underlying248 hi0 hz0 hz1 hz2 rfl (by omega) _ k _ rfl (hown2.alloc _) ⟨w2.heap.size, 0, none⟩ 1 1 [.int .u32 (pk : Int)] rfl rfl (new_one _ _ _) (fun u hu => by rw [List.mem_singleton.1 hu]; rfl) (by unfold maxLen; omega) (by omega) (by simp; omega) ?_; intro v' w3 hown3 hgrow _ hat)
   have hbe3 : Below d w w3 := below_append (hbe2.alloc (by omega) _) (hown2.alloc _) (by omega) (by have := HD.out; omega) hgrow
   have hbx3 : Boxed w3 d 273 (.int .u16 33800) := (hbx2.alloc _).kept hgrow (fun e => by have := (hown2.lt _ e.symm).1; omega)
   rw [← cellsU_snoc, ← HT.out] at hown3
   clear hown2 hbx2 hbe2 hgrow hat
   go_roundw
   case rel => exact ⟨k + 1, by omega, by go_num, hown3, hbx3, hbe3⟩
   case measure => simp [intOf]; omega
  ·go_wp2_with fail
   obtain rfl : k = 256 := by omega
   rw [show (tabL false).take 256 = tabL false from List.take_of_length_le (by rw [tabL_length]; omega)] at hown
   obtain ⟨g, cap, rfl⟩ := ownsRow_succ hown
   exact bodyPost_ret (results_tmp2 rfl _ _ _) rfl ⟨g, cap, rfl, rdU_own hown, by rw [HD.out]; exact hbe⟩
set_option maxRecDepth 100000 in
theorem table32_any (w : World) : Calls Tryz.prog 160 #[.int .i64 2] w (TabRes true w) := by
 obtain ⟨i0, hi0, hz0, hz1, hz2⟩ := info_parts infoU32
 go_enter Tryz.func160, Tryz.ntmps160
 go_wp2_with fail
 refine (part32_make _).mono ?_
 rintro e w1 ⟨rfl, rfl⟩
 go_wp2_with fail
 obtain ⟨d, hd⟩ : ∃ d, w.heap.size = d := ⟨_, rfl⟩
 have p0 : Boxed (w.alloc (.cells #[.int .u32 2197175160] 251)) d 251 (.int .u32 2197175160) := by rw [← hd]; exact Boxed.new _ _ _
 have q0 : Below d w (w.alloc (.cells #[.int .u32 2197175160] 251)) := by rw [← hd]; exact ext_new _ _
 have HD := Lib.hid hd
 rw [hd]
 clear hd
 go_loopw [5, 15] (fun out i wr => ∃ k : Nat, k ≤ 256 ∧ i = .int .i64 k ∧ wr.ownsRow (d + 1) 251 1 out k (cellsU ((tabL true).take k)) ∧ Boxed wr d 251 (.int .u32 2197175160) ∧ Below d w wr) (fun _ i _ => 256 - (intOf i).toNat)
 case atStart => exact ⟨0, by omega, rfl, own_nil, p0, q0⟩
 case round =>
  obtain ⟨k, hk, rfl, hown, hbx, hbe⟩ := hrel
  clear p0 q0
  by_cases hlt : k < 256
  ·have HT := Lib.hid (tab_take true k hlt)
   go_wp2_with fail
   refine (part32_any k hlt d _ hbx).mono ?_
   rintro e w2 ⟨rfl, hb2⟩
   have hown2 := own_below hown hb2
   have hbx2 : Boxed w2 d 251 (.int .u32 2197175160) := boxed_kept' hbx (hb2.block d hbx.lt)
   have hbe2 : Below d w w2 := hbe.trans (hb2.mono (Nat.le_of_lt hbx.lt))
   have hl2 := hbx2.lt
   clear hown hbx hbe hb2
   generalize hp : partN (putN true) k = pk at HT
   have HP := Lib.hid hp
   clear hp
   go_wp2_with (at_builtin; refine wpList_append_own_at _ rfl _ _ _ rfl (d + 1) 251 i0 (.int .u32 0) 1 4 Tryz.underlying248 hi0 hz0 hz1 hz2 rfl (by omega) _ k _ rfl (hown2.alloc _) ⟨w2.heap.size, 0, none⟩ 1 1 [.int .u32 (pk : Int)] rfl rfl (new_one _ _ _) (fun u hu => by rw [List.mem_singleton.1 hu]; rfl) (by unfold maxLen; omega) (by omega) (by simp; omega) ?_; intro v' w3 hown3 hgrow _ hat)
   have hbe3 : Below d w w3 := below_append (hbe2.alloc (by omega) _) (hown2.alloc _) (by omega) (by have := HD.out; omega) hgrow
   have hbx3 : Boxed w3 d 251 (.int .u32 2197175160) := (hbx2.alloc _).kept hgrow (fun e => by have := (hown2.lt _ e.symm).1; omega)
   rw [← cellsU_snoc, ← HT.out] at hown3
   clear hown2 hbx2 hbe2 hgrow hat
   go_roundw
   case rel => exact ⟨k + 1, by omega, by go_num, hown3, hbx3, hbe3⟩
   case measure => simp [intOf]; omega
  ·go_wp2_with fail
   obtain rfl : k = 256 := by omega
   rw [show (tabL true).take 256 = tabL true from List.take_of_length_le (by rw [tabL_length]; omega)] at hown
   obtain ⟨g, cap, rfl⟩ := ownsRow_succ hown
   exact bodyPost_ret (results_tmp2 rfl _ _ _) rfl ⟨g, cap, rfl, rdU_own hown, by rw [HD.out]; exact hbe⟩
theorem tab_small (g : Bool) : ∀ x ∈ tabL g, x < 4294967296 := by
 intro x hx
 obtain ⟨i, hi, rfl⟩ := List.mem_map.1 hx
 have h1 := partN_lt g (List.mem_range.1 hi)
 have h2 : 2 ^ bitsN g ≤ 4294967296 := by cases g <;> simp [bitsN]
 omega
theorem sumBy16_ok (A : Option Addr) (c : Nat) (T : List Nat) (s : ByteArray) (w : World) (aA aT aN aW aS : Addr) (h : CInv w aA aT aN aW aS) (hT : T.length = 256) (hr : RdU w A T) (hv : ∀ x ∈ T, x < 4294967296) (hs : s.size ≤ 9223372036854775807) :
  Calls Tryz.prog 162 #[.int .i64 1, .slice A 256 c, .string s] w (Ret (.tuple #[.int .u32 ((sumT false T s.data.toList : Nat) : Int), .nilIface]) w) := by
 have HT := Lib.hid hT
 have HV := Lib.hid hv
 clear hT hv
 go_enter Tryz.func162, Tryz.ntmps162
 go_wp2_with fail
 refine (Size_1 _ aA aT aN aW aS h).mono ?_
 rintro e w1 ⟨rfl, hb1⟩
 go_wp2_with fail
 refine (sum16_any A c T s _ HT.out (hr.below hb1) HV.out hs).mono ?_
 rintro e w2 ⟨rfl, rfl⟩
 go_wp2_with fail
 go_ret2
 exact ⟨rfl, hb1⟩
theorem sumBy32_ok (A : Option Addr) (c : Nat) (T : List Nat) (s : ByteArray) (w : World) (aA aT aN aW aS : Addr) (h : CInv w aA aT aN aW aS) (hT : T.length = 256) (hr : RdU w A T) (hv : ∀ x ∈ T, x < 4294967296) (hs : s.size ≤ 9223372036854775807) :
  Calls Tryz.prog 162 #[.int .i64 2, .slice A 256 c, .string s] w (Ret (.tuple #[.int .u32 ((sumT true T s.data.toList : Nat) : Int), .nilIface]) w) := by
 have HT := Lib.hid hT
 have HV := Lib.hid hv
 clear hT hv
 go_enter Tryz.func162, Tryz.ntmps162
 go_wp2_with fail
 refine (Size_2 _ aA aT aN aW aS h).mono ?_
 rintro e w1 ⟨rfl, hb1⟩
 go_wp2_with fail
 refine (sum32_any A c T s _ HT.out (hr.below hb1) HV.out hs).mono ?_
 rintro e w2 ⟨rfl, rfl⟩
 go_wp2_with fail
 go_ret2
 exact ⟨rfl, hb1⟩
theorem Of_1 (s : ByteArray) (w : World) (aA aT aN aW aS : Addr) (h : CInv w aA aT aN aW aS) (hs : s.size ≤ 9223372036854775807) : Calls Tryz.prog 134 #[.int .i64 1, .string s] w (Ret (.tuple #[.string ⟨(sumB false s.data.toList).toArray⟩, .int .i64 0]) w) := by
 have hl : sumN false s.data.toList < 4294967296 := Nat.lt_of_lt_of_le (sumN_lt false _) (by simp [bitsN])
 have HB := Lib.hid (show bytesV ((sumN false s.data.toList : Nat) : Int) 2 = (⟨(sumB false s.data.toList).toArray⟩, 0) by
  have h1 := sumN_lt false s.data.toList
  rw [← (sizeN_bits false).2] at h1
  exact bytesV_ok (n := ((sumN false s.data.toList : Nat) : Int)) (wd := 2) (by decide) (by
   simp only [fits, Bool.and_eq_true, decide_eq_true_eq, Int.toNat_natCast]
   exact ⟨okNum_iff.2 ⟨by omega, by omega⟩, h1⟩))
 go_enter Tryz.func134, Tryz.ntmps134
 go_wp2_with fail
 refine (table16_any _).mono ?_
 rintro e w1 ⟨hh, cap, rfl, hr, hb1⟩
 go_wp2_with fail
 refine (sumBy16_ok (some ⟨hh, 0, none⟩) cap (tabL false) s _ aA aT aN aW aS (h.below hb1) (tabL_length false) hr (tab_small false) hs).mono ?_
 rintro e w2 ⟨rfl, hb2'⟩
 rw [sumT_own]
 have hb2 := ext_trans hb1 hb2'
 clear hb1 hb2' hr
 generalize hz : sumN false s.data.toList = z at hl HB
 have HZ := Lib.hid hz
 clear hz
 go_wp2_with fail
 refine (Size_1 _ aA aT aN aW aS (h.below hb2)).mono ?_
 rintro e w3 ⟨rfl, hb3'⟩
 have hb3 := ext_trans hb2 hb3'
 clear hb2 hb3'
 go_wp2_with fail
 refine (Bytes_any (z : Int) 2 _ aN aW aS (h.below hb3).nums).mono ?_
 rintro e w4 ⟨rfl, hb4'⟩
 have hb4 := ext_trans hb3 hb4'
 clear hb3 hb4'
 rw [HB.out]
 go_wp2_with fail
 refine (ceitherS_nil _ _ aA aT aN aW aS (h.below hb4)).mono ?_
 rintro e w5 ⟨rfl, rfl⟩
 go_wp2_with fail
 go_ret2
 exact ⟨rfl, hb4⟩
theorem Of_2 (s : ByteArray) (w : World) (aA aT aN aW aS : Addr) (h : CInv w aA aT aN aW aS) (hs : s.size ≤ 9223372036854775807) : Calls Tryz.prog 134 #[.int .i64 2, .string s] w (Ret (.tuple #[.string ⟨(sumB true s.data.toList).toArray⟩, .int .i64 0]) w) := by
 have hl : sumN true s.data.toList < 4294967296 := Nat.lt_of_lt_of_le (sumN_lt true _) (by simp [bitsN])
 have HB := Lib.hid (show bytesV ((sumN true s.data.toList : Nat) : Int) 4 = (⟨(sumB true s.data.toList).toArray⟩, 0) by
  have h1 := sumN_lt true s.data.toList
  rw [← (sizeN_bits true).2] at h1
  exact bytesV_ok (n := ((sumN true s.data.toList : Nat) : Int)) (wd := 4) (by decide) (by
   simp only [fits, Bool.and_eq_true, decide_eq_true_eq, Int.toNat_natCast]
   exact ⟨okNum_iff.2 ⟨by omega, by omega⟩, h1⟩))
 go_enter Tryz.func134, Tryz.ntmps134
 go_wp2_with fail
 refine (table32_any _).mono ?_
 rintro e w1 ⟨hh, cap, rfl, hr, hb1⟩
 go_wp2_with fail
 refine (sumBy32_ok (some ⟨hh, 0, none⟩) cap (tabL true) s _ aA aT aN aW aS (h.below hb1) (tabL_length true) hr (tab_small true) hs).mono ?_
 rintro e w2 ⟨rfl, hb2'⟩
 rw [sumT_own]
 have hb2 := ext_trans hb1 hb2'
 clear hb1 hb2' hr
 generalize hz : sumN true s.data.toList = z at hl HB
 have HZ := Lib.hid hz
 clear hz
 go_wp2_with fail
 refine (Size_2 _ aA aT aN aW aS (h.below hb2)).mono ?_
 rintro e w3 ⟨rfl, hb3'⟩
 have hb3 := ext_trans hb2 hb3'
 clear hb2 hb3'
 go_wp2_with fail
 refine (Bytes_any (z : Int) 4 _ aN aW aS (h.below hb3).nums).mono ?_
 rintro e w4 ⟨rfl, hb4'⟩
 have hb4 := ext_trans hb3 hb4'
 clear hb3 hb4'
 rw [HB.out]
 go_wp2_with fail
 refine (ceitherS_nil _ _ aA aT aN aW aS (h.below hb4)).mono ?_
 rintro e w5 ⟨rfl, rfl⟩
 go_wp2_with fail
 go_ret2
 exact ⟨rfl, hb4⟩
theorem rright_1 (w : World) : Calls Tryz.prog 183 #[.int .i64 1] w (Pure (.bool true) w) := by
 go_enter Tryz.func183, Tryz.ntmps183
 go_wp2
 go_ret
 exact ⟨rfl, rfl⟩
theorem rpart_1 (b : Nat) (hb : b < 256) (w : World) : Calls Tryz.prog 184 #[.int .i64 1, .int .i64 (b : Int)] w (Pure (.int .u32 ((partN (putN false) b : Nat) : Int)) w) := by
 have hlt32 : ∀ k, stepsN (putN false) k b < 4294967296 := fun k => stepsN_lt (w := 32) k (by have := putN_lt false; simp only [putN]; decide) (by omega)
 have HL := Lib.hid hlt32
 clear hlt32
 go_enter Tryz.func184, Tryz.ntmps184
 go_wp2
 go_loop [6, 7, 8] (fun r i _ => ∃ k : Nat, k ≤ 8 ∧ i = .int .i64 k ∧ r = .int .u32 ((stepsN (putN false) k b : Nat) : Int)) (fun _ i _ => 8 - (intOf i).toNat)
 case atStart => exact ⟨0, Nat.zero_le _, rfl, rfl⟩
 case round =>
  obtain ⟨k, hk, rfl, rfl⟩ := hrel
  by_cases hlt : k < 8
  ·have hq := HL.out k
   have hstep : stepsN (putN false) (k + 1) b = stepN (putN false) (stepsN (putN false) k b) := rfl
   generalize stepsN (putN false) k b = q at hq hstep
   rcases Nat.mod_two_eq_zero_or_one q with hq2 | hq2
   ·have HS := Lib.hid (show stepsN (putN false) (k + 1) b = q / 2 by rw [hstep, stepN, if_neg (by omega)])
    have ho : ((q : Int) % 2 == 1) = false := beq_eq_false_iff_ne.2 (by omega)
    clear hstep hq2
    go_wp2
    go_round
    case rel => exact ⟨k + 1, by omega, by go_num, by rw [HS.out]; rfl⟩
    case measure => simp [intOf]; omega
   ·have HS := Lib.hid (show stepsN (putN false) (k + 1) b = q / 2 ^^^ putN false by rw [hstep, stepN, if_pos hq2])
    have ho : ((q : Int) % 2 == 1) = true := beq_iff_eq.2 (by omega)
    have hx : bits .xor .u32 ((q : Int) / 2) 33800 = ((q / 2 ^^^ putN false : Nat) : Int) := u32_xor_nat (q / 2) (putN false) (by omega) (by simp [putN])
    clear hstep hq2
    go_wp2
    go_round
    case rel => exact ⟨k + 1, by omega, by go_num, by rw [HS.out]⟩
    case measure => simp [intOf]; omega
  ·obtain rfl : k = 8 := by omega
   go_wp2
   go_ret
   exact ⟨rfl, rfl⟩
def rTableRes1 (w : World) (e : Ending) (w' : World) : Prop := ∃ h cap, e = .returned (.tuple #[.slice (some ⟨h, 0, none⟩) 256 cap, .int .i64 0]) ∧ RdU w' (some ⟨h, 0, none⟩) (tabL false) ∧ Below w.heap.size w w'
set_option maxRecDepth 100000 in
theorem rTable_1 (w : World) : Calls Tryz.prog 168 #[.int .i64 1] w (rTableRes1 w) := by
 obtain ⟨i0, hi0, hz0, hz1, hz2⟩ := info_parts infoU32
 go_enter Tryz.func168, Tryz.ntmps168
 go_wp2_with fail
 refine (rright_1 _).mono ?_
 rintro e w1 ⟨rfl, rfl⟩
 go_wp2_with fail
 go_loopw [4, 5] (fun out i wr => ∃ k : Nat, k ≤ 256 ∧ i = .int .i64 k ∧ wr.ownsRow w.heap.size 251 1 out k (cellsU ((tabL false).take k)) ∧ Below w.heap.size w wr) (fun _ i _ => 256 - (intOf i).toNat)
 case atStart => exact ⟨0, by omega, rfl, own_nil, Below.refl _ _⟩
 case round =>
  obtain ⟨k, hk, rfl, hown, hbe⟩ := hrel
  have hsz := hbe.size
  by_cases hlt : k < 256
  ·have HT := Lib.hid (tab_take false k hlt)
   go_wp2_with fail
   refine (rpart_1 k hlt _).mono ?_
   rintro e w2 ⟨rfl, rfl⟩
   generalize hp : partN (putN false) k = pk at HT
   have HP := Lib.hid hp
   clear hp
   go_wp2_with (at_builtin; refine wpList_append_own_at _ rfl _ _ _ rfl w.heap.size 251 i0 (.int .u32 0) 1 4 Tryz.underlying248 hi0 hz0 hz1 hz2 rfl (by omega) _ k _ rfl (hown.alloc _) ⟨wr.heap.size, 0, none⟩ 1 1 [.int .u32 (pk : Int)] rfl rfl (new_one _ _ _) (fun u hu => by rw [List.mem_singleton.1 hu]; rfl) (by unfold maxLen; omega) (by omega) (by simp; omega) ?_; intro v' w3 hown3 hgrow _ hat)
   have hbe3 : Below w.heap.size w w3 := below_append (hbe.alloc hsz _) (hown.alloc _) (Nat.le_refl _) (Nat.le_refl _) hgrow
   rw [← cellsU_snoc, ← HT.out] at hown3
   clear hown hbe hgrow hat
   go_roundw
   case rel => exact ⟨k + 1, by omega, by go_num, hown3, hbe3⟩
   case measure => simp [intOf]; omega
  ·go_wp2_with fail
   obtain rfl : k = 256 := by omega
   rw [show (tabL false).take 256 = tabL false from List.take_of_length_le (by rw [tabL_length]; omega)] at hown
   obtain ⟨g, cap, rfl⟩ := ownsRow_succ hown
   exact bodyPost_ret (results_tmp2 rfl _ _ _) rfl ⟨g, cap, rfl, rdU_own hown, hbe⟩
set_option maxRecDepth 100000 in
theorem rSum_1_ok (A : Option Addr) (c : Nat) (T : List Nat) (s : ByteArray) (w : World) (hT : T.length = 256) (hr : RdU w A T) (hv : ∀ x ∈ T, x < 4294967296) (hs : s.size ≤ 9223372036854775807) :
  Calls Tryz.prog 169 #[.int .i64 1, .slice A 256 c, .string s] w (Pure (.tuple #[.int .u32 ((sumT false T s.data.toList : Nat) : Int), .int .i64 0]) w) := by
 obtain ⟨a, rfl, hab, hcell⟩ := hr (by omega)
 have HC := Lib.hid hcell
 have HV := Lib.hid hv
 clear hcell hr hv
 go_enter Tryz.func169, Tryz.ntmps169
 go_wp2_with fail
 refine (rright_1 _).mono ?_
 rintro e w1 ⟨rfl, rfl⟩
 go_wp2_with fail
 go_loop [9, 10, 11] (fun r i _ => ∃ k : Nat, k ≤ s.size ∧ i = .int .i64 k ∧ r = .int .u32 ((runT false T (allN false) (s.data.toList.take k) : Nat) : Int)) (fun _ i _ => s.size - (intOf i).toNat)
 case atStart => exact ⟨0, Nat.zero_le _, rfl, rfl⟩
 case round =>
  obtain ⟨k, hk, rfl, rfl⟩ := hrel
  by_cases hlt : k < s.size
  ·have hq := runT_lt false T (s.data.toList.take k) _ (allN_lt false)
   have hnext : runT false T (allN false) (s.data.toList.take (k + 1)) = stepT false T (runT false T (allN false) (s.data.toList.take k)) s[k] := by
    rw [list_take_snoc s k hlt, runT_snoc]
   have HN := Lib.hid hnext
   clear hnext
   generalize runT false T (allN false) (s.data.toList.take k) = q at hq HN
   have hq' : q < 4294967296 := Nat.lt_of_lt_of_le hq (by simp [bitsN])
   have hx : bits .xor .u32 ((q : Int) % 256) ((s[k]).toNat % 4294967296 : Int) = ((q % 256 ^^^ s[k].toNat : Nat) : Int) := by
    rw [show ((s[k]).toNat % 4294967296 : Int) = (s[k]).toNat by have := s[k].toNat_lt; omega]
    exact u32_xor_nat (q % 256) s[k].toNat (by omega) (by have := s[k].toNat_lt; omega)
   have hil := idx_lt q s[k]
   have hc := HC.out (q % 256 ^^^ s[k].toNat) (by omega)
   have htv : T[q % 256 ^^^ s[k].toNat]'(by omega) < 4294967296 := HV.out _ (List.getElem_mem _)
   have hgd : T[q % 256 ^^^ s[k].toNat]'(by omega) = T.getD (q % 256 ^^^ s[k].toNat) 0 := by
    rw [List.getD, List.getElem?_eq_getElem (by omega)]; rfl
   rw [hgd] at hc htv
   clear hgd
   generalize hj : q % 256 ^^^ s[k].toNat = j at hx hil hc htv
   generalize htt : T.getD j 0 = t at hc htv
   have HJ := Lib.hid hj
   have HG := Lib.hid htt
   clear hj htt
   have ha : bits .and .u32 (t : Int) 65535 = ((t % 2 ^ bitsN false : Nat) : Int) := by
    have := u32_and_nat t 65535 htv (by omega)
    rw [show (t &&& 65535) = t % 2 ^ bitsN false from Nat.and_two_pow_sub_one_eq_mod t 16] at this
    exact this
   have hm2 : t % 2 ^ bitsN false < 4294967296 := Nat.lt_of_le_of_lt (Nat.mod_le _ _) htv
   generalize hmm : t % 2 ^ bitsN false = m at ha hm2
   have HM := Lib.hid hmm
   clear hmm
   have hxx : bits .xor .u32 ((q : Int) / 256) (m : Int) = ((q / 256 ^^^ m : Nat) : Int) := u32_xor_nat (q / 256) m (by omega) hm2
   go_wp2
   go_round
   case rel => exact ⟨k + 1, by omega, by go_num, by rw [HN.out, stepT, HJ.out, HG.out, HM.out]⟩
   case measure => simp [intOf]; omega
  ·have hq := runT_lt false T (s.data.toList.take k) _ (allN_lt false)
   have hall : s.data.toList.take k = s.data.toList := List.take_of_length_le (by simp; omega)
   rw [hall] at hq ⊢
   have hx : bits .xor .u32 ((runT false T (allN false) s.data.toList : Nat) : Int) 65535 = ((sumT false T s.data.toList : Nat) : Int) := u32_xor_nat _ 65535 (Nat.lt_of_lt_of_le hq (by simp [bitsN])) (by omega)
   generalize hz : sumT false T s.data.toList = z at hx
   have HZ := Lib.hid hz
   clear hz hall
   go_wp2
   go_ret2
   exact ⟨by rw [HZ.out]; rfl, rfl⟩
theorem rright_2 (w : World) : Calls Tryz.prog 183 #[.int .i64 2] w (Pure (.bool true) w) := by
 go_enter Tryz.func183, Tryz.ntmps183
 go_wp2
 go_ret
 exact ⟨rfl, rfl⟩
theorem rSize_2 (w : World) : Calls Tryz.prog 170 #[.int .i64 2] w (Pure (.int .i64 4) w) := by
 go_enter Tryz.func170, Tryz.ntmps170
 go_wp2
 go_ret
 exact ⟨rfl, rfl⟩
theorem rpart_2 (b : Nat) (hb : b < 256) (w : World) : Calls Tryz.prog 184 #[.int .i64 2, .int .i64 (b : Int)] w (Pure (.int .u32 ((partN (putN true) b : Nat) : Int)) w) := by
 have hlt32 : ∀ k, stepsN (putN true) k b < 4294967296 := fun k => stepsN_lt (w := 32) k (by have := putN_lt true; simp only [putN]; decide) (by omega)
 have HL := Lib.hid hlt32
 clear hlt32
 go_enter Tryz.func184, Tryz.ntmps184
 go_wp2
 go_loop [6, 7, 8] (fun r i _ => ∃ k : Nat, k ≤ 8 ∧ i = .int .i64 k ∧ r = .int .u32 ((stepsN (putN true) k b : Nat) : Int)) (fun _ i _ => 8 - (intOf i).toNat)
 case atStart => exact ⟨0, Nat.zero_le _, rfl, rfl⟩
 case round =>
  obtain ⟨k, hk, rfl, rfl⟩ := hrel
  by_cases hlt : k < 8
  ·have hq := HL.out k
   have hstep : stepsN (putN true) (k + 1) b = stepN (putN true) (stepsN (putN true) k b) := rfl
   generalize stepsN (putN true) k b = q at hq hstep
   rcases Nat.mod_two_eq_zero_or_one q with hq2 | hq2
   ·have HS := Lib.hid (show stepsN (putN true) (k + 1) b = q / 2 by rw [hstep, stepN, if_neg (by omega)])
    have ho : ((q : Int) % 2 == 1) = false := beq_eq_false_iff_ne.2 (by omega)
    clear hstep hq2
    go_wp2
    go_round
    case rel => exact ⟨k + 1, by omega, by go_num, by rw [HS.out]; rfl⟩
    case measure => simp [intOf]; omega
   ·have HS := Lib.hid (show stepsN (putN true) (k + 1) b = q / 2 ^^^ putN true by rw [hstep, stepN, if_pos hq2])
    have ho : ((q : Int) % 2 == 1) = true := beq_iff_eq.2 (by omega)
    have hx : bits .xor .u32 ((q : Int) / 2) 2197175160 = ((q / 2 ^^^ putN true : Nat) : Int) := u32_xor_nat (q / 2) (putN true) (by omega) (by simp [putN])
    clear hstep hq2
    go_wp2
    go_round
    case rel => exact ⟨k + 1, by omega, by go_num, by rw [HS.out]⟩
    case measure => simp [intOf]; omega
  ·obtain rfl : k = 8 := by omega
   go_wp2
   go_ret
   exact ⟨rfl, rfl⟩
def rTableRes2 (w : World) (e : Ending) (w' : World) : Prop := ∃ h cap, e = .returned (.tuple #[.slice (some ⟨h, 0, none⟩) 256 cap, .int .i64 0]) ∧ RdU w' (some ⟨h, 0, none⟩) (tabL true) ∧ Below w.heap.size w w'
set_option maxRecDepth 100000 in
theorem rTable_2 (w : World) : Calls Tryz.prog 168 #[.int .i64 2] w (rTableRes2 w) := by
 obtain ⟨i0, hi0, hz0, hz1, hz2⟩ := info_parts infoU32
 go_enter Tryz.func168, Tryz.ntmps168
 go_wp2_with fail
 refine (rright_2 _).mono ?_
 rintro e w1 ⟨rfl, rfl⟩
 go_wp2_with fail
 go_loopw [4, 5] (fun out i wr => ∃ k : Nat, k ≤ 256 ∧ i = .int .i64 k ∧ wr.ownsRow w.heap.size 251 1 out k (cellsU ((tabL true).take k)) ∧ Below w.heap.size w wr) (fun _ i _ => 256 - (intOf i).toNat)
 case atStart => exact ⟨0, by omega, rfl, own_nil, Below.refl _ _⟩
 case round =>
  obtain ⟨k, hk, rfl, hown, hbe⟩ := hrel
  have hsz := hbe.size
  by_cases hlt : k < 256
  ·have HT := Lib.hid (tab_take true k hlt)
   go_wp2_with fail
   refine (rpart_2 k hlt _).mono ?_
   rintro e w2 ⟨rfl, rfl⟩
   generalize hp : partN (putN true) k = pk at HT
   have HP := Lib.hid hp
   clear hp
   go_wp2_with (at_builtin; refine wpList_append_own_at _ rfl _ _ _ rfl w.heap.size 251 i0 (.int .u32 0) 1 4 Tryz.underlying248 hi0 hz0 hz1 hz2 rfl (by omega) _ k _ rfl (hown.alloc _) ⟨wr.heap.size, 0, none⟩ 1 1 [.int .u32 (pk : Int)] rfl rfl (new_one _ _ _) (fun u hu => by rw [List.mem_singleton.1 hu]; rfl) (by unfold maxLen; omega) (by omega) (by simp; omega) ?_; intro v' w3 hown3 hgrow _ hat)
   have hbe3 : Below w.heap.size w w3 := below_append (hbe.alloc hsz _) (hown.alloc _) (Nat.le_refl _) (Nat.le_refl _) hgrow
   rw [← cellsU_snoc, ← HT.out] at hown3
   clear hown hbe hgrow hat
   go_roundw
   case rel => exact ⟨k + 1, by omega, by go_num, hown3, hbe3⟩
   case measure => simp [intOf]; omega
  ·go_wp2_with fail
   obtain rfl : k = 256 := by omega
   rw [show (tabL true).take 256 = tabL true from List.take_of_length_le (by rw [tabL_length]; omega)] at hown
   obtain ⟨g, cap, rfl⟩ := ownsRow_succ hown
   exact bodyPost_ret (results_tmp2 rfl _ _ _) rfl ⟨g, cap, rfl, rdU_own hown, hbe⟩
set_option maxRecDepth 100000 in
theorem rSum_2_ok (A : Option Addr) (c : Nat) (T : List Nat) (s : ByteArray) (w : World) (hT : T.length = 256) (hr : RdU w A T) (hv : ∀ x ∈ T, x < 4294967296) (hs : s.size ≤ 9223372036854775807) :
  Calls Tryz.prog 169 #[.int .i64 2, .slice A 256 c, .string s] w (Pure (.tuple #[.int .u32 ((sumT true T s.data.toList : Nat) : Int), .int .i64 0]) w) := by
 obtain ⟨a, rfl, hab, hcell⟩ := hr (by omega)
 have HC := Lib.hid hcell
 have HV := Lib.hid hv
 clear hcell hr hv
 go_enter Tryz.func169, Tryz.ntmps169
 go_wp2_with fail
 refine (rright_2 _).mono ?_
 rintro e w1 ⟨rfl, rfl⟩
 go_wp2_with fail
 go_loop [9, 10, 11] (fun r i _ => ∃ k : Nat, k ≤ s.size ∧ i = .int .i64 k ∧ r = .int .u32 ((runT true T (allN true) (s.data.toList.take k) : Nat) : Int)) (fun _ i _ => s.size - (intOf i).toNat)
 case atStart => exact ⟨0, Nat.zero_le _, rfl, rfl⟩
 case round =>
  obtain ⟨k, hk, rfl, rfl⟩ := hrel
  by_cases hlt : k < s.size
  ·have hq := runT_lt true T (s.data.toList.take k) _ (allN_lt true)
   have hnext : runT true T (allN true) (s.data.toList.take (k + 1)) = stepT true T (runT true T (allN true) (s.data.toList.take k)) s[k] := by
    rw [list_take_snoc s k hlt, runT_snoc]
   have HN := Lib.hid hnext
   clear hnext
   generalize runT true T (allN true) (s.data.toList.take k) = q at hq HN
   have hq' : q < 4294967296 := Nat.lt_of_lt_of_le hq (by simp [bitsN])
   have hx : bits .xor .u32 ((q : Int) % 256) ((s[k]).toNat % 4294967296 : Int) = ((q % 256 ^^^ s[k].toNat : Nat) : Int) := by
    rw [show ((s[k]).toNat % 4294967296 : Int) = (s[k]).toNat by have := s[k].toNat_lt; omega]
    exact u32_xor_nat (q % 256) s[k].toNat (by omega) (by have := s[k].toNat_lt; omega)
   have hil := idx_lt q s[k]
   have hc := HC.out (q % 256 ^^^ s[k].toNat) (by omega)
   have htv : T[q % 256 ^^^ s[k].toNat]'(by omega) < 4294967296 := HV.out _ (List.getElem_mem _)
   have hgd : T[q % 256 ^^^ s[k].toNat]'(by omega) = T.getD (q % 256 ^^^ s[k].toNat) 0 := by
    rw [List.getD, List.getElem?_eq_getElem (by omega)]; rfl
   rw [hgd] at hc htv
   clear hgd
   generalize hj : q % 256 ^^^ s[k].toNat = j at hx hil hc htv
   generalize htt : T.getD j 0 = t at hc htv
   have HJ := Lib.hid hj
   have HG := Lib.hid htt
   clear hj htt
   have ha : bits .and .u32 (t : Int) 4294967295 = ((t % 2 ^ bitsN true : Nat) : Int) := by
    have := u32_and_nat t 4294967295 htv (by omega)
    rw [show (t &&& 4294967295) = t % 2 ^ bitsN true from Nat.and_two_pow_sub_one_eq_mod t 32] at this
    exact this
   have hm2 : t % 2 ^ bitsN true < 4294967296 := Nat.lt_of_le_of_lt (Nat.mod_le _ _) htv
   generalize hmm : t % 2 ^ bitsN true = m at ha hm2
   have HM := Lib.hid hmm
   clear hmm
   have hxx : bits .xor .u32 ((q : Int) / 256) (m : Int) = ((q / 256 ^^^ m : Nat) : Int) := u32_xor_nat (q / 256) m (by omega) hm2
   go_wp2
   go_round
   case rel => exact ⟨k + 1, by omega, by go_num, by rw [HN.out, stepT, HJ.out, HG.out, HM.out]⟩
   case measure => simp [intOf]; omega
  ·have hq := runT_lt true T (s.data.toList.take k) _ (allN_lt true)
   have hall : s.data.toList.take k = s.data.toList := List.take_of_length_le (by simp; omega)
   rw [hall] at hq ⊢
   have hx : bits .xor .u32 ((runT true T (allN true) s.data.toList : Nat) : Int) 4294967295 = ((sumT true T s.data.toList : Nat) : Int) := u32_xor_nat _ 4294967295 (Nat.lt_of_lt_of_le hq (by simp [bitsN])) (by omega)
   generalize hz : sumT true T s.data.toList = z at hx
   have HZ := Lib.hid hz
   clear hz hall
   go_wp2
   go_ret2
   exact ⟨by rw [HZ.out]; rfl, rfl⟩
theorem rOf_2 (s : ByteArray) (w : World) (hs : s.size ≤ 9223372036854775807) : Calls Tryz.prog 144 #[.int .i64 2, .string s] w (Ret (.tuple #[.string ⟨(sumB true s.data.toList).toArray⟩, .int .i64 0]) w) := by
 have hl : sumN true s.data.toList < 4294967296 := Nat.lt_of_lt_of_le (sumN_lt true _) (by simp [bitsN])
 have HB := Lib.hid (show bytesV ((sumN true s.data.toList : Nat) : Int) 4 = (⟨(sumB true s.data.toList).toArray⟩, 0) by
  have h1 := sumN_lt true s.data.toList
  rw [← (sizeN_bits true).2] at h1
  exact bytesV_ok (n := ((sumN true s.data.toList : Nat) : Int)) (wd := 4) (by decide) (by
   simp only [fits, Bool.and_eq_true, decide_eq_true_eq, Int.toNat_natCast]
   exact ⟨okNum_iff.2 ⟨by omega, by omega⟩, h1⟩))
 go_enter Tryz.func144, Tryz.ntmps144
 go_wp2_with fail
 refine (rTable_2 _).mono ?_
 rintro e w1 ⟨hh, cap, rfl, hr, hb1⟩
 go_wp2_with fail
 refine (rSum_2_ok (some ⟨hh, 0, none⟩) cap (tabL true) s _ (tabL_length true) hr (tab_small true) hs).mono ?_
 rintro e w2 ⟨rfl, rfl⟩
 rw [sumT_own]
 clear hr
 generalize hz : sumN true s.data.toList = z at hl HB
 go_wp2_with fail
 refine (rSize_2 _).mono ?_
 rintro e w3 ⟨rfl, rfl⟩
 go_wp2_with fail
 refine (rBytes_any (z : Int) 4 _).mono ?_
 rintro e w4 ⟨rfl, hb4'⟩
 have hb4 := ext_trans hb1 hb4'
 clear hb1 hb4'
 rw [HB.out]
 go_wp2_with fail
 go_ret2
 exact ⟨rfl, hb4⟩
end Go.Proofs.YtmebjdbkngehiaaGreatDoor
