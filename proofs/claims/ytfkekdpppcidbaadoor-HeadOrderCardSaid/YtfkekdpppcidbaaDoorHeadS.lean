/-
  Package postriderlaw03: the law HeadOrder. Conditions: the listed variables hold what 'HInv' says.
-/
import Derived.Test.YtfkekdpppcidbaaDoorHeadP
import Derived.Test.YtfkekdpppcidbaaDoorHeadO
namespace Go.Proofs.YtfkekdpppcidbaaDoor
open Go.RowKit

theorem order_facts (m n k : Int) :
    (((encV m n).2 == 0) = false ∧ (encV m n).1 = ByteArray.empty ∧ ((encV m k).2 = 0 ∨ (((encV m k).2 == 0) = false ∧ (encV m k).1 = ByteArray.empty)))
    ∨ ((encV m n).2 = 0 ∧ ((encV m k).2 == 0) = false ∧ (encV m k).1 = ByteArray.empty)
    ∨ ((encV m n).2 = 0 ∧ (encV m k).2 = 0 ∧ Op.bytesLess (encV m n).1.toList (encV m k).1.toList = decide (n < k)) := by
  rcases enc_cases m n with ⟨M, N, hm1, hn1, hM, hN, he⟩ | ⟨e, he, hee⟩
  · rcases enc_cases m k with ⟨M', N', hm2, hn2, hM', hN', he'⟩ | ⟨e, he', hee⟩
    · rw [he, he']
      obtain rfl : M = M' := by omega
      have ho := head_order hM hN hN'
      refine .inr (.inr ⟨rfl, rfl, ?_⟩)
      show Op.bytesLess (⟨(headL M N).toArray⟩ : ByteArray).toList (⟨(headL M N').toArray⟩ : ByteArray).toList = decide (n < k)
      rw [Lib.toList_data, Lib.toList_data]
      show Op.bytesLess (headL M N).toArray.toList (headL M N').toArray.toList = _
      rw [List.toList_toArray, List.toList_toArray, ho]
      exact decide_eq_decide.2 (by omega)
    · rw [he, he']
      refine .inr (.inl ⟨rfl, ?_, rfl⟩)
      obtain rfl | rfl := hee <;> rfl
  · rw [he]
    refine .inl ⟨?_, rfl, ?_⟩
    · obtain rfl | rfl := hee <;> rfl
    · rcases enc_cases m k with ⟨M', N', hm2, hn2, hM', hN', he'⟩ | ⟨e, he', hee⟩
      · rw [he']
        exact .inl rfl
      · rw [he']
        refine .inr ⟨?_, rfl⟩
        obtain rfl | rfl := hee <;> rfl

set_option maxRecDepth 100000 in
set_option maxHeartbeats 4000000 in
theorem HeadOrder_law (m n k : Int) (w : World) (A : Nat → Addr) (aN aW aS : Addr) (h : HInv w A aN aW aS) :
    Calls Tryd.prog 5 #[.int .i64 m, .int .i64 n, .int .i64 k] w (Ret (.bool true) w) := by
  have E1 := fun w' h' => Encode_any m n w' A aN aW aS h'
  have E2 := fun w' h' => Encode_any m k w' A aN aW aS h'
  have F := Lib.hid (order_facts m n k)
  generalize encV m n = x at *
  generalize encV m k = y at *
  obtain ⟨s, e⟩ := x
  obtain ⟨t, f⟩ := y
  go_enter Tryd.func5, Tryd.ntmps5
  go_wp2_with fail
  refine (hshown_any _ A aN aW aS h).mono ?_
  rintro e0 w1 ⟨rfl, hb1⟩
  go_wp2_with fail
  refine (E1 _ (h.below hb1)).mono ?_
  rintro e0 w2 ⟨rfl, hb2'⟩
  have hb2 := ext_trans hb1 hb2'
  clear hb1 hb2'
  go_wp2_with fail
  refine (E2 _ (h.below hb2)).mono ?_
  rintro e0 w3 ⟨rfl, hb3'⟩
  have hb3 := ext_trans hb2 hb3'
  clear hb2 hb3'
  have F := F.out
  try dsimp only at F
  rcases F with ⟨F1, rfl, F2⟩ | ⟨rfl, F1, rfl⟩ | ⟨rfl, rfl, F1⟩
  · have F1' : (e != 0) = true := by rw [bne, F1]; rfl
    rcases F2 with rfl | ⟨F2, rfl⟩
    · go_wp2_with fail
      go_ret
      exact ⟨by first | rfl | (simp; done) | (simp; omega), hb3⟩
    · have F2' : (f != 0) = true := by rw [bne, F2]; rfl
      go_wp2_with fail
      go_ret
      exact ⟨by first | rfl | (simp; done) | (simp; omega), hb3⟩
  · have F1' : (f != 0) = true := by rw [bne, F1]; rfl
    go_wp2_with fail
    go_ret
    exact ⟨by first | rfl | (simp; done) | (simp; omega), hb3⟩
  · go_wp2_with fail
    go_ret
    exact ⟨by first | rfl | (simp; done) | (simp; omega), hb3⟩

end Go.Proofs.YtfkekdpppcidbaaDoor
