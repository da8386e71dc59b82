/-
  Package postriderlaw03: the law HeadSizes. Conditions: the listed variables hold what 'HInv' says.
-/
import Derived.Test.YtfkekdpppcidbaaDoorHeadP
import Derived.Test.YtfkekdpppcidbaaDoorHeadO
namespace Go.Proofs.YtfkekdpppcidbaaDoor
open Go.RowKit

theorem sizes_facts (m n k : Int) :
    (((encV m n).2 == 0) = false ∧ (encV m n).1 = ByteArray.empty)
    ∨ ((encV m n).2 = 0 ∧ (sizeV k).2 = 10)
    ∨ ((encV m n).2 = 0 ∧ (sizeV k).2 = 0 ∧ (sizeV n).2 = 0 ∧ (sizeV n).1 = ((encV m n).1.size : Int)
        ∧ ((sizeV n).1 = 1 ∨ (sizeV n).1 = 2 ∨ (sizeV n).1 = 3 ∨ (sizeV n).1 = 5 ∨ (sizeV n).1 = 9) ∧ (k < n ∨ (¬ k < n ∧ (sizeV n).1 ≤ (sizeV k).1))) := by
  rcases enc_cases m n with ⟨M, N, rfl, rfl, hM, hN, he⟩ | ⟨e, he, hee⟩
  · have hsv : sizeV (N : Int) = (((1 + wOf N : Nat) : Int), 0) := by
      rcases size_cases (N : Int) with ⟨N', e, -, hq⟩ | ⟨hq, -⟩
      · obtain rfl : N = N' := by omega
        exact hq
      · omega
    have hsz : (⟨(headL M N).toArray⟩ : ByteArray).size = 1 + wOf N := by show (headL M N).toArray.size = _; simp [headL_length]
    rw [he, hsv]
    rcases size_cases k with ⟨K, rfl, hK, hk⟩ | ⟨-, hk⟩
    · rw [hk]
      refine .inr (.inr ⟨rfl, rfl, rfl, ?_, ?_, ?_⟩)
      · show ((1 + wOf N : Nat) : Int) = (((⟨(headL M N).toArray⟩ : ByteArray).size : Nat) : Int)
        rw [hsz]
      · have := wOf_vals N
        show ((1 + wOf N : Nat) : Int) = 1 ∨ ((1 + wOf N : Nat) : Int) = 2 ∨ ((1 + wOf N : Nat) : Int) = 3 ∨ ((1 + wOf N : Nat) : Int) = 5 ∨ ((1 + wOf N : Nat) : Int) = 9
        omega
      · show (K : Int) < N ∨ (¬ (K : Int) < N ∧ ((1 + wOf N : Nat) : Int) ≤ ((1 + wOf K : Nat) : Int))
        by_cases c : K < N
        · exact .inl (by omega)
        · have := wOf_mono (show N ≤ K by omega)
          omega
    · rw [hk]
      exact .inr (.inl ⟨rfl, rfl⟩)
  · rw [he]
    refine .inl ⟨?_, rfl⟩
    obtain rfl | rfl := hee <;> rfl

set_option maxRecDepth 100000 in
set_option maxHeartbeats 4000000 in
theorem HeadSizes_law (m n k : Int) (w : World) (A : Nat → Addr) (aN aW aS : Addr) (h : HInv w A aN aW aS) :
    Calls Tryd.prog 8 #[.int .i64 m, .int .i64 n, .int .i64 k] w (Ret (.bool true) w) := by
  have E1 := fun w' h' => Encode_any m n w' A aN aW aS h'
  have S1 := fun w' h' => HSize_any n w' A aN aW aS h'
  have S2 := fun w' h' => HSize_any k w' A aN aW aS h'
  have F := Lib.hid (sizes_facts m n k)
  generalize encV m n = x at *
  generalize sizeV n = y at *
  generalize sizeV k = z at *
  obtain ⟨s, e⟩ := x
  obtain ⟨a, f⟩ := y
  obtain ⟨b, g⟩ := z
  go_enter Tryd.func8, Tryd.ntmps8
  go_wp2_with fail
  refine (hshown_any _ A aN aW aS h).mono ?_
  rintro e0 w1 ⟨rfl, hb1⟩
  go_wp2_with fail
  refine (E1 _ (h.below hb1)).mono ?_
  rintro e0 w2 ⟨rfl, hb2'⟩
  have hb2 := ext_trans hb1 hb2'
  clear hb1 hb2'
  go_wp2_with fail
  refine (S1 _ (h.below hb2)).mono ?_
  rintro e0 w3 ⟨rfl, hb3'⟩
  have hb3 := ext_trans hb2 hb3'
  clear hb2 hb3'
  go_wp2_with fail
  refine (S2 _ (h.below hb3)).mono ?_
  rintro e0 w4 ⟨rfl, hb4'⟩
  have hb4 := ext_trans hb3 hb4'
  clear hb3 hb4'
  have F := F.out
  try dsimp only at F
  rcases F with ⟨F1, rfl⟩ | ⟨rfl, rfl⟩ | ⟨rfl, rfl, rfl, F1, F2, F3⟩
  · have F1' : (e != 0) = true := by rw [bne, F1]; rfl
    go_wp2_with fail
    go_ret
    exact ⟨by first | rfl | (simp; done) | (simp; omega), hb4⟩
  · go_wp2_with fail
    go_ret
    exact ⟨by first | rfl | (simp; done) | (simp; omega), hb4⟩
  · obtain F2 | F2 | F2 | F2 | F2 := F2
    all_goals
      obtain F3 | ⟨F3, F4⟩ := F3
      all_goals
        go_wp2_with fail
        go_ret
        exact ⟨by first | rfl | (simp; done) | (simp; omega), hb4⟩

end Go.Proofs.YtfkekdpppcidbaaDoor
