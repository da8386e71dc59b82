/-
  Package crc: a kind's own table (table). Conditions: as the theorems' own hypotheses say. Package crc: Table, Sum, Of: their contracts. Conditions: the listed variables hold what 'CInv' says. The document's answer for chapter 05 (postriderref05), and the small functions of its statements (few, cut, mixed): their contracts. Conditions: as the theorems' own hypotheses say.
-/
import Derived.Test.YtmebjdbkngehiaaGreatDoorQgF
import Derived.Maps.AppendAt
import Derived.Deep.AppendLies
import Derived.Deep.DeepMust
import Derived.StillTailTactics
namespace Go.Proofs.YtmebjdbkngehiaaGreatDoor
open Go.RowKit

theorem infoU32 : (Tryz.prog.info? 251).map (fun i => (i.zero, i.size, i.bytes)) = some (some (.int .u32 0), 1, 4) := by kernel_rfl
/-- Behind an append of the call's own. -/
theorem new_one (w : World) (x : Value) (t : TypeId) : ∀ j u, ([x] : List Value)[j]? = some u → (w.alloc (.cells #[x] t)).cell? ((⟨w.heap.size, 0, none⟩ : Addr).add j) = some u := by
  intro j u h
  cases j with
  | zero =>
    simp only [List.getElem?_cons_zero, Option.some.injEq] at h
    subst h
    simp [Addr.add]
  | succ j => simp at h

def cellsU (l : List Nat) : List Value := l.map fun (n : Nat) => Value.int .u32 (n : Int)
theorem cellsU_snoc (l : List Nat) (n : Nat) : cellsU (l ++ [n]) = cellsU l ++ [.int .u32 (n : Int)] := by simp [cellsU]
/-- A row of the call's own that reads as a list of numbers. -/
theorem rdU_own {w : World} {base : Nat} {g cap n : Nat} {l : List Nat} (h : w.ownsRow base 251 1 (.slice (some ⟨g, 0, none⟩) n cap) n (cellsU l)) : RdU w (some ⟨g, 0, none⟩) l := fun _ => by
  refine ⟨⟨g, 0, none⟩, rfl, (h.lt _ rfl).2, fun i hi => ?_⟩
  have hl : (cellsU l).length = n * 1 := h.1
  have := h.cells rfl i (.int .u32 ((l[i] : Nat) : Int)) (by simp [cellsU, hi])
  exact this

theorem tab_take (g : Bool) (k : Nat) (h : k < 256) : (tabL g).take (k + 1) = (tabL g).take k ++ [partN (putN g) k] := by
  have hl := tabL_length g
  rw [List.take_succ_eq_append_getElem (by omega)]
  congr 2
  have := tabL_get g k h
  rwa [List.getD, List.getElem?_eq_getElem (by omega)] at this

/-- What table hands back for a kind that is one. -/
def TabRes (g : Bool) (w : World) (e : Ending) (w' : World) : Prop := ∃ h cap, e = .returned (.tuple #[.slice (some ⟨h, 0, none⟩) 256 cap, .nilIface]) ∧ RdU w' (some ⟨h, 0, none⟩) (tabL g) ∧ Below w.heap.size w w'

set_option maxRecDepth 100000 in
set_option maxHeartbeats 1000000 in
theorem table32_any (w : World) : Calls Tryz.prog 160 #[.int .i64 2] w (TabRes true w) := by
  obtain ⟨i0, hi0, hz0, hz1, hz2⟩ := info_parts infoU32
  go_enter Tryz.func160, Tryz.ntmps160
  go_wp2_with fail
  refine (part32_make _).mono ?_
  rintro e w1 ⟨rfl, rfl⟩
  go_wp2_with fail
  obtain ⟨d, hd⟩ : ∃ d, w.heap.size = d := ⟨_, rfl⟩
  have p0 : Boxed (w.alloc (.cells #[.int .u32 2197175160] 251)) d 251 (.int .u32 2197175160) := by rw [← hd]; exact Boxed.new _ _ _
  have q0 : Below d w (w.alloc (.cells #[.int .u32 2197175160] 251)) := by rw [← hd]; exact ext_new _ _
  have HD := Lib.hid hd
  rw [hd]
  clear hd
  go_loopw [5, 15] (fun out i wr => ∃ k : Nat, k ≤ 256 ∧ i = .int .i64 k ∧ wr.ownsRow (d + 1) 251 1 out k (cellsU ((tabL true).take k)) ∧ Boxed wr d 251 (.int .u32 2197175160) ∧ Below d w wr) (fun _ i _ => 256 - (intOf i).toNat)
  case atStart => exact ⟨0, by omega, rfl, own_nil, p0, q0⟩
  case round =>
    obtain ⟨k, hk, rfl, hown, hbx, hbe⟩ := hrel
    clear p0 q0
    by_cases hlt : k < 256
    · have HT := Lib.hid (tab_take true k hlt)
      go_wp2_with fail
      refine (part32_any k hlt d _ hbx).mono ?_
      rintro e w2 ⟨rfl, hb2⟩
      have hown2 := own_below hown hb2
      have hbx2 : Boxed w2 d 251 (.int .u32 2197175160) := boxed_kept' hbx (hb2.block d hbx.lt)
      have hbe2 : Below d w w2 := hbe.trans (hb2.mono (Nat.le_of_lt hbx.lt))
      have hl2 := hbx2.lt
      clear hown hbx hbe hb2
      generalize hp : partN (putN true) k = pk at HT
      have HP := Lib.hid hp
      clear hp
      go_wp2_with (at_builtin; refine wpList_append_own_at _ rfl _ _ _ rfl (d + 1) 251 i0 (.int .u32 0) 1 4 Tryz.underlying248 hi0 hz0 hz1 hz2 rfl (by omega) _ k _ rfl (hown2.alloc _) ⟨w2.heap.size, 0, none⟩ 1 1 [.int .u32 (pk : Int)] rfl rfl (new_one _ _ _) (fun u hu => by rw [List.mem_singleton.1 hu]; rfl) (by unfold maxLen; omega) (by omega) (by simp; omega) ?_; intro v' w3 hown3 hgrow _ hat)
      have hbe3 : Below d w w3 := below_append (hbe2.alloc (by omega) _) (hown2.alloc _) (by omega) (by have := HD.out; omega) hgrow
      have hbx3 : Boxed w3 d 251 (.int .u32 2197175160) := (hbx2.alloc _).kept hgrow (fun e => by have := (hown2.lt _ e.symm).1; omega)
      rw [← cellsU_snoc, ← HT.out] at hown3
      clear hown2 hbx2 hbe2 hgrow hat
      go_roundw
      case rel => exact ⟨k + 1, by omega, by go_num, hown3, hbx3, hbe3⟩
      case measure => simp [intOf]; omega
    · go_wp2_with fail
      obtain rfl : k = 256 := by omega
      rw [show (tabL true).take 256 = tabL true from List.take_of_length_le (by rw [tabL_length]; omega)] at hown
      obtain ⟨g, cap, rfl⟩ := ownsRow_succ hown
      exact bodyPost_ret (results_tmp2 rfl _ _ _) rfl ⟨g, cap, rfl, rdU_own hown, by rw [HD.out]; exact hbe⟩

end Go.Proofs.YtmebjdbkngehiaaGreatDoor

namespace Go.Proofs.YtmebjdbkngehiaaGreatDoor
open Go.RowKit

theorem tab_small (g : Bool) : ∀ x ∈ tabL g, x < 4294967296 := by
  intro x hx
  obtain ⟨i, hi, rfl⟩ := List.mem_map.1 hx
  have h1 := partN_lt g (List.mem_range.1 hi)
  have h2 : 2 ^ bitsN g ≤ 4294967296 := by cases g <;> simp [bitsN]
  omega

theorem sumBy32_ok (A : Option Addr) (c : Nat) (T : List Nat) (s : ByteArray) (w : World) (aA aT aN aW aS : Addr) (h : CInv w aA aT aN aW aS) (hT : T.length = 256) (hr : RdU w A T) (hv : ∀ x ∈ T, x < 4294967296) (hs : s.size ≤ 9223372036854775807) :
    Calls Tryz.prog 162 #[.int .i64 2, .slice A 256 c, .string s] w (Ret (.tuple #[.int .u32 ((sumT true T s.data.toList : Nat) : Int), .nilIface]) w) := by
  have HT := Lib.hid hT
  have HV := Lib.hid hv
  clear hT hv
  go_enter Tryz.func162, Tryz.ntmps162
  go_wp2_with fail
  refine (Size_2 _ aA aT aN aW aS h).mono ?_
  rintro e w1 ⟨rfl, hb1⟩
  go_wp2_with fail
  refine (sum32_any A c T s _ HT.out (hr.below hb1) HV.out hs).mono ?_
  rintro e w2 ⟨rfl, rfl⟩
  go_wp2_with fail
  go_ret2
  exact ⟨rfl, hb1⟩

theorem Of_2 (s : ByteArray) (w : World) (aA aT aN aW aS : Addr) (h : CInv w aA aT aN aW aS) (hs : s.size ≤ 9223372036854775807) : Calls Tryz.prog 134 #[.int .i64 2, .string s] w (Ret (.tuple #[.string ⟨(sumB true s.data.toList).toArray⟩, .int .i64 0]) w) := by
  have hl : sumN true s.data.toList < 4294967296 := Nat.lt_of_lt_of_le (sumN_lt true _) (by simp [bitsN])
  have HB := Lib.hid (show bytesV ((sumN true s.data.toList : Nat) : Int) 4 = (⟨(sumB true s.data.toList).toArray⟩, 0) by
    have h1 := sumN_lt true s.data.toList
    rw [← (sizeN_bits true).2] at h1
    exact bytesV_ok (n := ((sumN true s.data.toList : Nat) : Int)) (wd := 4) (by decide) (by
      simp only [fits, Bool.and_eq_true, decide_eq_true_eq, Int.toNat_natCast]
      exact ⟨okNum_iff.2 ⟨by omega, by omega⟩, h1⟩))
  go_enter Tryz.func134, Tryz.ntmps134
  go_wp2_with fail
  refine (table32_any _).mono ?_
  rintro e w1 ⟨hh, cap, rfl, hr, hb1⟩
  go_wp2_with fail
  refine (sumBy32_ok (some ⟨hh, 0, none⟩) cap (tabL true) s _ aA aT aN aW aS (h.below hb1) (tabL_length true) hr (tab_small true) hs).mono ?_
  rintro e w2 ⟨rfl, hb2'⟩
  rw [sumT_own]
  have hb2 := ext_trans hb1 hb2'
  clear hb1 hb2' hr
  generalize hz : sumN true s.data.toList = z at hl HB
  have HZ := Lib.hid hz
  clear hz
  go_wp2_with fail
  refine (Size_2 _ aA aT aN aW aS (h.below hb2)).mono ?_
  rintro e w3 ⟨rfl, hb3'⟩
  have hb3 := ext_trans hb2 hb3'
  clear hb2 hb3'
  go_wp2_with fail
  refine (Bytes_any (z : Int) 4 _ aN aW aS (h.below hb3).nums).mono ?_
  rintro e w4 ⟨rfl, hb4'⟩
  have hb4 := ext_trans hb3 hb4'
  clear hb3 hb4'
  rw [HB.out]
  go_wp2_with fail
  refine (ceitherS_nil _ _ aA aT aN aW aS (h.below hb4)).mono ?_
  rintro e w5 ⟨rfl, rfl⟩
  go_wp2_with fail
  go_ret2
  exact ⟨rfl, hb4⟩

end Go.Proofs.YtmebjdbkngehiaaGreatDoor

namespace Go.Proofs.YtmebjdbkngehiaaGreatDoor
open Go.RowKit

theorem below_drewN' {B : Nat} {a w : World} (h : Below B a w) (n : Nat) : Below B a (w.drewN n) := ⟨h.os, h.tape, h.output, h.size, h.block⟩
end Go.Proofs.YtmebjdbkngehiaaGreatDoor
