/-
  Package crc: a kind's own table (table). Conditions: as the theorems' own hypotheses say.
-/
import Derived.Test.YtlabmomehjfjdaaDoorCrcD
import Derived.Maps.AppendAt
import Derived.Deep.AppendLies
import Derived.Deep.DeepMust
namespace Go.Proofs.YtlabmomehjfjdaaDoor
open Go.RowKit

theorem infoU32 : (Tryd.prog.info? 77).map (fun i => (i.zero, i.size, i.bytes)) = some (some (.int .u32 0), 1, 4) := by kernel_rfl
theorem own_below {w w' : World} {base : Nat} {e : TypeId} {size : Nat} {v : Value} {n : Nat} {xs : List Value} (h : w.ownsRow base e size v n xs) (hb : Below w.heap.size w w') : w'.ownsRow base e size v n xs := by
  refine ⟨h.1, ?_⟩
  rcases h.2 with h0 | ⟨g, cap, cur, rfl, hg, hh, r⟩
  · exact .inl h0
  · exact .inr ⟨g, cap, cur, rfl, hg, (hb.block g ((Array.getElem?_eq_some_iff.1 hh).1)).trans hh, r⟩
theorem own_nil {w : World} {base : Nat} {e : TypeId} {size : Nat} : w.ownsRow base e size (.slice none 0 0) 0 [] := ⟨by simp, .inl ⟨rfl, rfl⟩⟩
/-- Behind an append of the call's own. -/
theorem below_append {B : Nat} {w w1 w2 : World} {base : Nat} {e : TypeId} {size n : Nat} {v : Value} {xs : List Value} (h : Below B w w1) (hown : w1.ownsRow base e size v n xs) (hB : B ≤ base) (hw : B ≤ w.heap.size) (hg : w1.grownBy w2 v.ownBlock) : Below B w w2 :=
  h.grown hg (Nat.le_trans hw h.size) (fun k e => by have := (hown.lt k e).1; omega)

theorem new_one (w : World) (x : Value) (t : TypeId) : ∀ j u, ([x] : List Value)[j]? = some u → (w.alloc (.cells #[x] t)).cell? ((⟨w.heap.size, 0, none⟩ : Addr).add j) = some u := by
  intro j u h
  cases j with
  | zero =>
    simp only [List.getElem?_cons_zero, Option.some.injEq] at h
    subst h
    simp [Addr.add]
  | succ j => simp at h

def cellsU (l : List Nat) : List Value := l.map fun (n : Nat) => Value.int .u32 (n : Int)
theorem cellsU_snoc (l : List Nat) (n : Nat) : cellsU (l ++ [n]) = cellsU l ++ [.int .u32 (n : Int)] := by simp [cellsU]
/-- A row of the call's own that reads as a list of numbers. -/
theorem rdU_own {w : World} {base : Nat} {g cap n : Nat} {l : List Nat} (h : w.ownsRow base 77 1 (.slice (some ⟨g, 0, none⟩) n cap) n (cellsU l)) : RdU w (some ⟨g, 0, none⟩) l := fun _ => by
  refine ⟨⟨g, 0, none⟩, rfl, (h.lt _ rfl).2, fun i hi => ?_⟩
  have hl : (cellsU l).length = n * 1 := h.1
  have := h.cells rfl i (.int .u32 ((l[i] : Nat) : Int)) (by simp [cellsU, hi])
  exact this

theorem tab_take (g : Bool) (k : Nat) (h : k < 256) : (tabL g).take (k + 1) = (tabL g).take k ++ [partN (putN g) k] := by
  have hl := tabL_length g
  rw [List.take_succ_eq_append_getElem (by omega)]
  congr 2
  have := tabL_get g k h
  rwa [List.getD, List.getElem?_eq_getElem (by omega)] at this

/-- What table hands back for a kind that is one. -/
def TabRes (g : Bool) (w : World) (e : Ending) (w' : World) : Prop := ∃ h cap, e = .returned (.tuple #[.slice (some ⟨h, 0, none⟩) 256 cap, .nilIface]) ∧ RdU w' (some ⟨h, 0, none⟩) (tabL g) ∧ Below w.heap.size w w'

set_option maxRecDepth 100000 in
set_option maxHeartbeats 1000000 in
theorem table16_any (w : World) : Calls Tryd.prog 41 #[.int .i64 1] w (TabRes false w) := by
  obtain ⟨i0, hi0, hz0, hz1, hz2⟩ := info_parts infoU32
  go_enter Tryd.func41, Tryd.ntmps41
  go_wp2_with fail
  refine (part16_make _).mono ?_
  rintro e w1 ⟨rfl, rfl⟩
  go_wp2_with fail
  obtain ⟨d, hd⟩ : ∃ d, w.heap.size = d := ⟨_, rfl⟩
  have p0 : Boxed (w.alloc (.cells #[.int .u16 33800] 93)) d 93 (.int .u16 33800) := by rw [← hd]; exact Boxed.new _ _ _
  have q0 : Below d w (w.alloc (.cells #[.int .u16 33800] 93)) := by rw [← hd]; exact ext_new _ _
  have HD := Lib.hid hd
  rw [hd]
  clear hd
  go_loopw [5, 15] (fun out i wr => ∃ k : Nat, k ≤ 256 ∧ i = .int .i64 k ∧ wr.ownsRow (d + 1) 77 1 out k (cellsU ((tabL false).take k)) ∧ Boxed wr d 93 (.int .u16 33800) ∧ Below d w wr) (fun _ i _ => 256 - (intOf i).toNat)
  case atStart => exact ⟨0, by omega, rfl, own_nil, p0, q0⟩
  case round =>
    obtain ⟨k, hk, rfl, hown, hbx, hbe⟩ := hrel
    clear p0 q0
    by_cases hlt : k < 256
    · have HT := Lib.hid (tab_take false k hlt)
      go_wp2_with fail
      refine (part16_any k hlt d _ hbx).mono ?_
      rintro e w2 ⟨rfl, hb2⟩
      have hown2 := own_below hown hb2
      have hbx2 : Boxed w2 d 93 (.int .u16 33800) := boxed_kept' hbx (hb2.block d hbx.lt)
      have hbe2 : Below d w w2 := hbe.trans (hb2.mono (Nat.le_of_lt hbx.lt))
      have hl2 := hbx2.lt
      clear hown hbx hbe hb2
      generalize hp : partN (putN false) k = pk at HT
      have HP := Lib.hid hp
      clear hp
      go_wp2_with (at_builtin; refine wpList_append_own_at _ rfl _ _ _ rfl (d + 1) 77 i0 (.int .u32 0) 1 4 Tryd.underlying74 hi0 hz0 hz1 hz2 rfl (by omega) _ k _ rfl (hown2.alloc _) ⟨w2.heap.size, 0, none⟩ 1 1 [.int .u32 (pk : Int)] rfl rfl (new_one _ _ _) (fun u hu => by rw [List.mem_singleton.1 hu]; rfl) (by unfold maxLen; omega) (by omega) (by simp; omega) ?_; intro v' w3 hown3 hgrow _ hat)
      have hbe3 : Below d w w3 := below_append (hbe2.alloc (by omega) _) (hown2.alloc _) (by omega) (by have := HD.out; omega) hgrow
      have hbx3 : Boxed w3 d 93 (.int .u16 33800) := (hbx2.alloc _).kept hgrow (fun e => by have := (hown2.lt _ e.symm).1; omega)
      rw [← cellsU_snoc, ← HT.out] at hown3
      clear hown2 hbx2 hbe2 hgrow hat
      go_roundw
      case rel => exact ⟨k + 1, by omega, by go_num, hown3, hbx3, hbe3⟩
      case measure => simp [intOf]; omega
    · go_wp2_with fail
      obtain rfl : k = 256 := by omega
      rw [show (tabL false).take 256 = tabL false from List.take_of_length_le (by rw [tabL_length]; omega)] at hown
      obtain ⟨g, cap, rfl⟩ := ownsRow_succ hown
      exact bodyPost_ret (results_tmp2 rfl _ _ _) rfl ⟨g, cap, rfl, rdU_own hown, by rw [HD.out]; exact hbe⟩

set_option maxRecDepth 100000 in
set_option maxHeartbeats 1000000 in
theorem table32_any (w : World) : Calls Tryd.prog 41 #[.int .i64 2] w (TabRes true w) := by
  obtain ⟨i0, hi0, hz0, hz1, hz2⟩ := info_parts infoU32
  go_enter Tryd.func41, Tryd.ntmps41
  go_wp2_with fail
  refine (part32_make _).mono ?_
  rintro e w1 ⟨rfl, rfl⟩
  go_wp2_with fail
  obtain ⟨d, hd⟩ : ∃ d, w.heap.size = d := ⟨_, rfl⟩
  have p0 : Boxed (w.alloc (.cells #[.int .u32 2197175160] 77)) d 77 (.int .u32 2197175160) := by rw [← hd]; exact Boxed.new _ _ _
  have q0 : Below d w (w.alloc (.cells #[.int .u32 2197175160] 77)) := by rw [← hd]; exact ext_new _ _
  have HD := Lib.hid hd
  rw [hd]
  clear hd
  go_loopw [5, 15] (fun out i wr => ∃ k : Nat, k ≤ 256 ∧ i = .int .i64 k ∧ wr.ownsRow (d + 1) 77 1 out k (cellsU ((tabL true).take k)) ∧ Boxed wr d 77 (.int .u32 2197175160) ∧ Below d w wr) (fun _ i _ => 256 - (intOf i).toNat)
  case atStart => exact ⟨0, by omega, rfl, own_nil, p0, q0⟩
  case round =>
    obtain ⟨k, hk, rfl, hown, hbx, hbe⟩ := hrel
    clear p0 q0
    by_cases hlt : k < 256
    · have HT := Lib.hid (tab_take true k hlt)
      go_wp2_with fail
      refine (part32_any k hlt d _ hbx).mono ?_
      rintro e w2 ⟨rfl, hb2⟩
      have hown2 := own_below hown hb2
      have hbx2 : Boxed w2 d 77 (.int .u32 2197175160) := boxed_kept' hbx (hb2.block d hbx.lt)
      have hbe2 : Below d w w2 := hbe.trans (hb2.mono (Nat.le_of_lt hbx.lt))
      have hl2 := hbx2.lt
      clear hown hbx hbe hb2
      generalize hp : partN (putN true) k = pk at HT
      have HP := Lib.hid hp
      clear hp
      go_wp2_with (at_builtin; refine wpList_append_own_at _ rfl _ _ _ rfl (d + 1) 77 i0 (.int .u32 0) 1 4 Tryd.underlying74 hi0 hz0 hz1 hz2 rfl (by omega) _ k _ rfl (hown2.alloc _) ⟨w2.heap.size, 0, none⟩ 1 1 [.int .u32 (pk : Int)] rfl rfl (new_one _ _ _) (fun u hu => by rw [List.mem_singleton.1 hu]; rfl) (by unfold maxLen; omega) (by omega) (by simp; omega) ?_; intro v' w3 hown3 hgrow _ hat)
      have hbe3 : Below d w w3 := below_append (hbe2.alloc (by omega) _) (hown2.alloc _) (by omega) (by have := HD.out; omega) hgrow
      have hbx3 : Boxed w3 d 77 (.int .u32 2197175160) := (hbx2.alloc _).kept hgrow (fun e => by have := (hown2.lt _ e.symm).1; omega)
      rw [← cellsU_snoc, ← HT.out] at hown3
      clear hown2 hbx2 hbe2 hgrow hat
      go_roundw
      case rel => exact ⟨k + 1, by omega, by go_num, hown3, hbx3, hbe3⟩
      case measure => simp [intOf]; omega
    · go_wp2_with fail
      obtain rfl : k = 256 := by omega
      rw [show (tabL true).take 256 = tabL true from List.take_of_length_le (by rw [tabL_length]; omega)] at hown
      obtain ⟨g, cap, rfl⟩ := ownsRow_succ hown
      exact bodyPost_ret (results_tmp2 rfl _ _ _) rfl ⟨g, cap, rfl, rdU_own hown, by rw [HD.out]; exact hbe⟩

end Go.Proofs.YtlabmomehjfjdaaDoor
