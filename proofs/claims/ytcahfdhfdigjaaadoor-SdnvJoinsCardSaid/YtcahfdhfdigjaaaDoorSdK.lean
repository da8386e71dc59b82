/-
  Package postriderlaw02: what all its laws begin with (shown, cut, Few). Conditions: errors.errorType holds the handle of the type error ('SInv').
-/
import Derived.Test.YtcahfdhfdigjaaaDoorSdH
namespace Go.Proofs.YtcahfdhfdigjaaaDoor
open Go.RowKit

/-- A text's first one hundred bytes. -/
def cut100 (s : ByteArray) : ByteArray := s.extract 0 (min s.size 100)
theorem cut100_size (s : ByteArray) : (cut100 s).size ≤ 100 := by rw [cut100, ByteArray.size_extract]; omega
theorem scut_any (s : ByteArray) (w : World) (hs : s.size ≤ 9223372036854775807) : Calls Tryd.prog 12 #[.string s] w (Pure (.string (cut100 s)) w) := by
  by_cases h : s.size ≤ 100
  · have hc : cut100 s = s.extract 0 s.size := by rw [cut100, Nat.min_eq_left (by omega)]
    rw [hc]
    go_enter Tryd.func12, Tryd.ntmps12
    go_wp2
    all_goals
      go_ret
      exact ⟨by first | rfl | simp, rfl⟩
  · have hc : cut100 s = s.extract 0 100 := by rw [cut100, Nat.min_eq_right (by omega)]
    rw [hc]
    go_enter Tryd.func12, Tryd.ntmps12
    go_wp2
    all_goals
      go_ret
      exact ⟨by first | rfl | simp, rfl⟩

theorem RdI.below {w w' : World} {A : Option Addr} {xs : List Int} (h : RdI w A xs) (hb : Below w.heap.size w w') : RdI w' A xs := fun hp => by
  obtain ⟨a, h1, h2, h3⟩ := h hp
  refine ⟨a, h1, Nat.lt_of_lt_of_le h2 hb.size, fun i hi => (hb.cell (by rw [show (a.add i).block = a.block by unfold Addr.add; split <;> rfl]; exact h2)).trans (h3 i hi)⟩
/-- The first numbers of a slice. -/
theorem RdI.take {w : World} {A : Option Addr} {xs : List Int} (h : RdI w A xs) (k : Nat) : RdI w A (xs.take k) := fun hp => by
  rw [List.length_take] at hp
  obtain ⟨a, h1, h2, h3⟩ := h (by omega)
  refine ⟨a, h1, h2, fun i hi => ?_⟩
  rw [List.length_take] at hi
  rw [h3 i (by omega), List.getElem_take]
/-- A row of the call's own, as a list of numbers. -/
theorem rdI_own {w : World} {base n : Nat} {V : Value} {l : List Nat} (h : w.ownsRow base 3 1 V n (cellsI l)) : n = l.length ∧ ∃ A c, V = .slice A n c ∧ RdI w A (l.map fun n : Nat => (n : Int)) := by
  have hn : l.length = n := by have := h.1; simpa [cellsI] using this
  refine ⟨hn.symm, ?_⟩
  have h' := h
  obtain ⟨-, ⟨rfl, h0⟩ | ⟨g, cap, cur, rfl, -⟩⟩ := h'
  · subst h0
    exact ⟨none, 0, rfl, fun hp => by simp at hp; omega⟩
  · refine ⟨some ⟨g, 0, none⟩, cap, rfl, fun hp => ⟨⟨g, 0, none⟩, rfl, (h.lt g rfl).2, fun i hi => ?_⟩⟩
    have := h.cells rfl i (.int .i64 ((l[i]'(by simpa using hi) : Nat) : Int)) (by simp [cellsI]; exact ⟨_, List.getElem?_eq_getElem (by simpa using hi), rfl⟩)
    simpa using this

theorem Few_any (A : Option Addr) (n c : Nat) (xs : List Int) (w : World) (hn : xs.length = n) (hc : n ≤ c) (ha : RdI w A xs) (hl : n ≤ 9223372036854775807) :
    Calls Tryd.prog 17 #[.slice A n c] w fun e w' => w = w' ∧ ∃ A', e = .returned (.slice A' (min n 30) c) ∧ RdI w A' (xs.take 30) := by
  have ht := ha.take 30
  by_cases h : n ≤ 30
  · rw [Nat.min_eq_left h]
    have hq : ¬ (30 : Int) < (n : Int) := by omega
    go_enter Tryd.func17, Tryd.ntmps17
    go_wp2
    go_ret
    exact ⟨rfl, A, rfl, ht⟩
  · rw [Nat.min_eq_right (by omega)]
    have hq : (30 : Int) < (n : Int) := by omega
    go_enter Tryd.func17, Tryd.ntmps17
    go_wp2
    go_ret
    exact ⟨rfl, A, rfl, ht⟩

theorem sh1 : encV 300 = (⟨#[130, 44]⟩, 0) := by kernel_rfl
theorem sh2 : sdV ⟨#[97, 130, 44]⟩ 1 = ((300, 3), 0) := by kernel_rfl
theorem sh3 : sdV ⟨#[128, 1]⟩ 0 = ((0, 0), 20) := by kernel_rfl
theorem sh4 : sdV ⟨#[128]⟩ 0 = ((0, 0), 11) := by kernel_rfl
theorem sh5 : allV ⟨#[127, 129, 0]⟩ = ([127, 128], 0) := by kernel_rfl
set_option maxRecDepth 100000 in
set_option maxHeartbeats 1000000 in
theorem sshown_any (w : World) (h : SInv w) : Calls Tryd.prog 11 #[] w (Ret (.bool true) w) := by
  have E1 := fun w' h' => Encode_any 300 w' h'
  have D1 := fun w' h' => Decode_any ⟨#[97, 130, 44]⟩ 1 w' h' (by decide) (by decide)
  have D2 := fun w' h' => Decode_any ⟨#[128, 1]⟩ 0 w' h' (by decide) (by decide)
  have D3 := fun w' h' => Decode_any ⟨#[128]⟩ 0 w' h' (by decide) (by decide)
  have A1 := fun w' h' => All_any ⟨#[127, 129, 0]⟩ w' h' (by decide)
  rw [sh1] at E1
  rw [sh2] at D1
  rw [sh3] at D2
  rw [sh4] at D3
  rw [sh5] at A1
  unfold sdR at D1 D2 D3
  go_enter Tryd.func11, Tryd.ntmps11
  go_wp2_with fail
  refine (E1 _ h).mono ?_
  rintro e w1 ⟨rfl, hb1⟩
  go_wp2_with fail
  refine (D1 _ (h.below hb1)).mono ?_
  rintro e w2 ⟨rfl, hb2'⟩
  have hb2 := ext_trans hb1 hb2'
  clear hb1 hb2'
  go_wp2_with fail
  refine (D2 _ (h.below hb2)).mono ?_
  rintro e w3 ⟨rfl, hb3'⟩
  have hb3 := ext_trans hb2 hb3'
  clear hb2 hb3'
  go_wp2_with fail
  refine (D3 _ (h.below hb3)).mono ?_
  rintro e w4 ⟨rfl, hb4'⟩
  have hb4 := ext_trans hb3 hb4'
  clear hb3 hb4'
  go_wp2_with fail
  refine (A1 _ (h.below hb4)).mono ?_
  rintro e w5 ⟨V, rfl, hown, hb5'⟩
  have hb5 := ext_trans hb4 hb5'
  clear hb4 hb5'
  obtain ⟨-, A, c, rfl, hr⟩ := rdI_own hown
  clear hown
  go_wp2_with fail
  have hr' : RdI w5 A [127, 128] := hr
  have hn := ext_new w5 (.cells #[.int .i64 127, .int .i64 128] 3)
  refine (Ints_true A (some ⟨w5.heap.size, 0, none⟩) c 2 2 [127, 128] _ rfl (hr'.below hn) (fun _ => ⟨_, rfl, by simp, fun i hi => by
    rw [addr_add]
    match i, hi with
    | 0, _ => simp
    | 1, _ => simp⟩) (by omega)).mono ?_
  rintro e w6 ⟨rfl, hb6'⟩
  have hb6 := ext_trans (ext_trans hb5 hn) hb6'
  clear hb6' hb5 hn hr hr'
  go_wp2_with fail
  go_ret
  exact ⟨rfl, hb6⟩

end Go.Proofs.YtcahfdhfdigjaaaDoor
