/-
  Package postriderref04 (the document's answer for items): a text's bytes (text). No condition.
-/
import Derived.Test.YtmoghgmbpkpcfaaGreatDoorMgF
namespace Go.Proofs.YtmoghgmbpkpcfaaGreatDoor
open Go.RowKit Go.Shelf

theorem textB_split (l : List UInt8) (k : Nat) (h : k < l.length) : textB l = (textB (l.take k) && (decide (32 ≤ l[k].toNat) && decide (l[k].toNat ≤ 126)) && textB (l.drop (k + 1))) := by
  unfold textB
  conv => lhs; rw [← List.take_append_drop k l, List.drop_eq_getElem_cons h]
  rw [List.all_append, List.all_cons, Bool.and_assoc, Bool.and_assoc, Bool.and_assoc]
set_option maxRecDepth 100000 in
theorem rtext_any (s : ByteArray) (w : World) (hs : s.size ≤ 1000000) : Calls Tryz.prog 44 #[.string s] w (Pure (.bool (textB s.data.toList)) w) := by
  have hl : s.data.toList.length = s.size := txt_list s
  go_enter Tryz.func44, Tryz.ntmps44
  go_wp2_with fail
  go_loopw [3] (fun i wr => ∃ k : Nat, k ≤ s.size ∧ i = .int .i64 (k : Int) ∧ textB (s.data.toList.take k) = true ∧ wr = w) (fun i _ => s.size - (intOf i).toNat)
  case atStart => exact ⟨0, Nat.zero_le _, rfl, rfl, rfl⟩
  case round =>
    obtain ⟨k, hk, rfl, ht, rfl⟩ := hrel
    by_cases hlt : k < s.size
    · have i0 : (0 : Int) ≤ (k : Int) := by omega
      have i1 : (k : Int) < (s.size : Int) := by omega
      have hg : s.data.toList[k]'(by omega) = s[k] := by rw [Array.getElem_toList]; rfl
      have hsp := textB_split s.data.toList k (by omega)
      have hsn : textB (s.data.toList.take (k + 1)) = (textB (s.data.toList.take k) && (decide (32 ≤ s[k].toNat) && decide (s[k].toNat ≤ 126))) := by
        rw [List.take_succ_eq_append_getElem (by omega), hg]
        unfold textB
        rw [List.all_append, List.all_cons, List.all_nil, Bool.and_true]
      rw [hg, ht, Bool.true_and] at hsp
      rw [ht, Bool.true_and] at hsn
      have HSP := Lib.hid hsp
      have HSN := Lib.hid hsn
      clear hsp hsn hg hl
      by_cases h1 : 32 ≤ s[k].toNat
      · have j1 : (32 : Int) ≤ (s[k].toNat : Int) := by omega
        by_cases h2 : s[k].toNat ≤ 126
        · have j2 : (s[k].toNat : Int) ≤ 126 := by omega
          have j3 : ¬ ((s[k].toNat : Int) < 32) := by omega
          have j4 : ¬ (126 < (s[k].toNat : Int)) := by omega
          go_wp2_with fail
          go_roundw
          case rel => exact ⟨k + 1, by omega, by go_num, by rw [HSN.out, decide_eq_true h1, decide_eq_true h2]; rfl, trivial⟩
          case measure => simp [intOf]; omega
        · have j2 : (126 : Int) < (s[k].toNat : Int) := by omega
          have j3 : ¬ ((s[k].toNat : Int) < 32) := by omega
          go_wp2_with fail
          go_ret
          exact ⟨by rw [HSP.out, decide_eq_false h2, Bool.and_false, Bool.false_and]; rfl, rfl⟩
      · have j1 : (s[k].toNat : Int) < 32 := by omega
        go_wp2_with fail
        go_ret
        exact ⟨by rw [HSP.out, decide_eq_false h1, Bool.false_and, Bool.false_and]; rfl, rfl⟩
    · obtain rfl : k = s.size := by omega
      rw [← hl, List.take_length] at ht
      have HT := Lib.hid ht
      clear ht
      have i1 : ¬ ((s.size : Int) < (s.size : Int)) := by omega
      go_wp2_with fail
      go_ret
      exact ⟨by rw [HT.out]; rfl, rfl⟩

end Go.Proofs.YtmoghgmbpkpcfaaGreatDoor
