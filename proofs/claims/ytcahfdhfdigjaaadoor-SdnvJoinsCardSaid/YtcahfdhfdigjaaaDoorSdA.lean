/-
  Package sdnv: what is told of an error (told), which numbers may be, the place of the last group (end). Conditions: errors.errorType holds the handle of the type error ('SInv').
-/
import Derived.Test.YtcahfdhfdigjaaaDoorSdAs
import Derived.Test.YtcahfdhfdigjaaaDoorSdnvM
import Derived.ScopeJumps
import Derived.WalkMore
namespace Go.Proofs.YtcahfdhfdigjaaaDoor
open Go.RowKit

/-- errors.errorType holds the handle of the type error. -/
def SInv (w : World) : Prop := w.cell? ⟨0, 0, none⟩ = some (.iface 82 (.agg #[.pointer (some ⟨1, 45, none⟩)]))
theorem SInv.below {w w' : World} (h : SInv w) (hb : Below w.heap.size w w') : SInv w' := by
  unfold SInv at h ⊢
  rw [World.cell?_of_block (hb.block _ (cell_lt h))]; exact h
theorem below_drewN' {B : Nat} {a w : World} (h : Below B a w) (n : Nat) : Below B a (w.drewN n) := ⟨h.os, h.tape, h.output, h.size, h.block⟩

/-- Which numbers may be. -/
def okNum (n : Int) : Bool := decide (0 ≤ n) && decide (n ≤ 281474976710655)
theorem okNum_iff {n : Int} : okNum n = true ↔ 0 ≤ n ∧ n ≤ 281474976710655 := by simp [okNum]
theorem Right_any (n : Int) (w : World) : Calls Tryd.prog 32 #[.int .i64 n] w (Pure (.bool (okNum n)) w) := by
  go_enter Tryd.func32, Tryd.ntmps32
  go_wp2
  · go_ret
    exact ⟨by simp [okNum, *], rfl⟩
  · go_ret
    exact ⟨by simp [okNum]; omega, rfl⟩
theorem rRight_any (n : Int) (w : World) : Calls Tryd.prog 30 #[.int .i64 n] w (Pure (.bool (okNum n)) w) := by
  go_enter Tryd.func30, Tryd.ntmps30
  go_wp2
  · go_ret
    exact ⟨by simp [okNum, *], rfl⟩
  · go_ret
    exact ⟨by simp [okNum]; omega, rfl⟩

theorem tolds_nil (s : ByteArray) (w : World) :
    Calls Tryd.prog 25 #[.string s, .nilIface] w (Ret (.tuple #[.string s, .int .i64 0]) w) := by
  go_enter Tryd.func25, Tryd.ntmps25
  go_wp2_with fail
  refine (as_nil _ _).mono ?_
  rintro e w1 ⟨rfl, rfl⟩
  go_wp2_with fail
  go_ret2
  exact ⟨rfl, ext_new w _⟩
theorem tolds_wr (s : ByteArray) (x : Int) (w : World) (h : SInv w) :
    Calls Tryd.prog 25 #[.string s, WrV x] w (Ret (.tuple #[.string ByteArray.empty, .int .i64 x]) w) := by
  have h1 := h.below (ext_new w (.cells #[.int .i64 0] 60))
  unfold SInv at h1
  go_enter Tryd.func25, Tryd.ntmps25
  go_wp2_with fail
  refine (as_hit x _ (.int .i64 0) _ h1 (by simp) (by simp)).mono ?_
  rintro e w1 ⟨rfl, w2, hb, rfl⟩
  have hB := (Blk.new_ w 60 #[.int .i64 0]).below hb
  have hC := (hB.set_ 0 (.int .i64 x)).cell 0
  have hb2 : Below w.heap.size w (w2.setCell ⟨w.heap.size, 0, none⟩ (.int .i64 x)) := (ext_trans (ext_new w _) hb).setCell (by simp) _
  simp only [List.setIfInBounds_toArray, List.set_cons_zero, List.getElem?_toArray, List.getElem?_cons_zero] at hC
  generalize w2.setCell ⟨w.heap.size, 0, none⟩ (.int .i64 x) = W at *
  go_wp2_with fail
  go_quiet (fail)
  go_wp2_with fail
  go_ret2
  exact ⟨rfl, below_drewN' hb2 _⟩
theorem toldi_nil (n : Int) (w : World) :
    Calls Tryd.prog 27 #[.int .i64 n, .nilIface] w (Ret (.tuple #[.int .i64 n, .int .i64 0]) w) := by
  go_enter Tryd.func27, Tryd.ntmps27
  go_wp2_with fail
  refine (as_nil _ _).mono ?_
  rintro e w1 ⟨rfl, rfl⟩
  go_wp2_with fail
  go_ret2
  exact ⟨rfl, ext_new w _⟩
theorem toldi_wr (n : Int) (x : Int) (w : World) (h : SInv w) :
    Calls Tryd.prog 27 #[.int .i64 n, WrV x] w (Ret (.tuple #[.int .i64 0, .int .i64 x]) w) := by
  have h1 := h.below (ext_new w (.cells #[.int .i64 0] 60))
  unfold SInv at h1
  go_enter Tryd.func27, Tryd.ntmps27
  go_wp2_with fail
  refine (as_hit x _ (.int .i64 0) _ h1 (by simp) (by simp)).mono ?_
  rintro e w1 ⟨rfl, w2, hb, rfl⟩
  have hB := (Blk.new_ w 60 #[.int .i64 0]).below hb
  have hC := (hB.set_ 0 (.int .i64 x)).cell 0
  have hb2 : Below w.heap.size w (w2.setCell ⟨w.heap.size, 0, none⟩ (.int .i64 x)) := (ext_trans (ext_new w _) hb).setCell (by simp) _
  simp only [List.setIfInBounds_toArray, List.set_cons_zero, List.getElem?_toArray, List.getElem?_cons_zero] at hC
  generalize w2.setCell ⟨w.heap.size, 0, none⟩ (.int .i64 x) = W at *
  go_wp2_with fail
  go_quiet (fail)
  go_wp2_with fail
  go_ret2
  exact ⟨rfl, below_drewN' hb2 _⟩
theorem toldl_wr (v : Value) (x : Int) (w : World) (h : SInv w) :
    Calls Tryd.prog 29 #[v, WrV x] w (Ret (.tuple #[.slice none 0 0, .int .i64 x]) w) := by
  have h1 := h.below (ext_new w (.cells #[.int .i64 0] 60))
  unfold SInv at h1
  go_enter Tryd.func29, Tryd.ntmps29
  go_wp2_with fail
  refine (as_hit x _ (.int .i64 0) _ h1 (by simp) (by simp)).mono ?_
  rintro e w1 ⟨rfl, w2, hb, rfl⟩
  have hB := (Blk.new_ w 60 #[.int .i64 0]).below hb
  have hC := (hB.set_ 0 (.int .i64 x)).cell 0
  have hb2 : Below w.heap.size w (w2.setCell ⟨w.heap.size, 0, none⟩ (.int .i64 x)) := (ext_trans (ext_new w _) hb).setCell (by simp) _
  simp only [List.setIfInBounds_toArray, List.set_cons_zero, List.getElem?_toArray, List.getElem?_cons_zero] at hC
  generalize w2.setCell ⟨w.heap.size, 0, none⟩ (.int .i64 x) = W at *
  go_wp2_with fail
  go_quiet (fail)
  go_wp2_with fail
  go_ret2
  exact ⟨rfl, below_drewN' hb2 _⟩

theorem list_at (s : ByteArray) (p : Nat) (hp : p < s.size) : s.data.toList.drop p = s[p] :: s.data.toList.drop (p + 1) := by
  rw [List.drop_eq_getElem_cons (by simpa using hp)]; rfl
theorem list_size (s : ByteArray) : s.data.toList.length = s.size := by rw [Array.length_toList]; rfl

/-- What end tells. -/
def endV (s : ByteArray) (a : Int) : Int × Bool := if a < 0 then (0, false) else match endN (s.data.toList.drop a.toNat) with | none => (0, false) | some k => (a + (k : Int), true)
theorem endV_neg (s : ByteArray) (a : Int) (h : a < 0) : endV s a = (0, false) := by rw [endV, if_pos h]
theorem endV_at (s : ByteArray) (p j : Nat) (h : endN (s.data.toList.drop p) = (endN (s.data.toList.drop (p + j))).map (· + j)) (hlt : p + j < s.size) (hb : s[p + j].toNat < 128) : endV s (p : Int) = (((p + j : Nat) : Int), true) := by
  rw [endV, if_neg (by omega), Int.toNat_natCast, h, list_at s (p + j) hlt, endN, if_pos hb]
  simp
theorem endV_none (s : ByteArray) (p j : Nat) (h : endN (s.data.toList.drop p) = (endN (s.data.toList.drop (p + j))).map (· + j)) (hlt : s.size ≤ p + j) : endV s (p : Int) = (0, false) := by
  rw [endV, if_neg (by omega), Int.toNat_natCast, h, List.drop_of_length_le (by rw [list_size]; exact hlt), endN]
  rfl
theorem endN_next (s : ByteArray) (p j : Nat) (h : endN (s.data.toList.drop p) = (endN (s.data.toList.drop (p + j))).map (· + j)) (hlt : p + j < s.size) (hb : ¬ s[p + j].toNat < 128) : endN (s.data.toList.drop p) = (endN (s.data.toList.drop (p + (j + 1)))).map (· + (j + 1)) := by
  rw [h, list_at s (p + j) hlt, endN, if_neg hb, Option.map_map]
  congr 1
  funext x; simp; omega

theorem end_neg (s : ByteArray) (a : Int) (w : World) (ha : a < 0) :
    Calls Tryd.prog 34 #[.agg #[.string s], .int .i64 a] w (Ret (.tuple #[.int .i64 (endV s a).1, .bool (endV s a).2]) w) := by
  rw [endV_neg s a ha]
  have h1 : ¬ (0 ≤ a) := by omega
  go_enter Tryd.func34, Tryd.ntmps34
  go_wp2_with fail
  refine wp_loop_rounds 1 ?_
  rw [rounds_succ]
  go_wp2_with fail
  go_ret2
  exact ⟨rfl, ext_new w _⟩
set_option maxRecDepth 100000 in
theorem end_pos (s : ByteArray) (p : Nat) (w : World) (hs : s.size ≤ 9223372036854775807) (hp : p ≤ 9223372036854775807) :
    Calls Tryd.prog 34 #[.agg #[.string s], .int .i64 (p : Int)] w (Ret (.tuple #[.int .i64 (endV s (p : Int)).1, .bool (endV s (p : Int)).2]) w) := by
  have h1 : (0 : Int) ≤ (p : Int) := by omega
  go_enter Tryd.func34, Tryd.ntmps34
  go_wp2_with fail
  go_loop [6] (fun i => ∃ j : Nat, i = .int .i64 ((p + j : Nat) : Int) ∧ (j = 0 ∨ p + j ≤ s.size) ∧ endN (s.data.toList.drop p) = (endN (s.data.toList.drop (p + j))).map (· + j)) (fun i => s.size - (intOf i).toNat)
  case atStart => exact ⟨0, by simp, .inl rfl, by simp⟩
  case round =>
    obtain ⟨j, rfl, hj, hr⟩ := hrel
    have HR := Lib.hid hr
    clear hr
    by_cases hlt : p + j < s.size
    · have q1 : ((p + j : Nat) : Int) < (s.size : Int) := by omega
      by_cases hb : s[p + j].toNat < 128
      · have HV := Lib.hid (endV_at s p j HR.out hlt hb)
        go_wp2_with fail
        go_ret2
        exact ⟨by rw [HV.out]; rfl, ext_new w _⟩
      · go_wp2_with fail
        go_round
        case rel => exact ⟨j + 1, by go_num, .inr (by omega), endN_next s p j HR.out hlt hb⟩
        case measure => simp [intOf]; omega
    · have q1 : ¬ ((p + j : Nat) : Int) < (s.size : Int) := by omega
      have HV := Lib.hid (endV_none s p j HR.out (by omega))
      go_wp2_with fail
      go_ret2
      exact ⟨by rw [HV.out]; rfl, ext_new w _⟩
theorem end_any (s : ByteArray) (a : Int) (w : World) (hs : s.size ≤ 9223372036854775807) (ha : a ≤ 9223372036854775807) :
    Calls Tryd.prog 34 #[.agg #[.string s], .int .i64 a] w (Ret (.tuple #[.int .i64 (endV s a).1, .bool (endV s a).2]) w) := by
  by_cases h : a < 0
  · exact end_neg s a w h
  · obtain ⟨p, rfl⟩ := Int.eq_ofNat_of_zero_le (show 0 ≤ a by omega)
    exact end_pos s p w hs (by omega)

end Go.Proofs.YtcahfdhfdigjaaaDoor
