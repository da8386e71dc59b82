/-
  Package postriderlaw03: the law HeadApart. Conditions: the listed variables hold what 'HInv' says.
-/
import Derived.Test.YtfkekdpppcidbaaDoorHeadP
import Derived.Test.YtfkekdpppcidbaaDoorHeadO
namespace Go.Proofs.YtfkekdpppcidbaaDoor
open Go.RowKit

theorem apart {M N M' N' : Nat} (hM : okMajor M = true) (hM' : okMajor M' = true) (hN : N ≤ 281474976710655) (hN' : N' ≤ 281474976710655) (S T : ByteArray) (hS : S.data.toList = headL M N) (hT : T.data.toList = headL M' N') :
    (M = M' ∧ N = N' ∧ S.size ≤ T.size ∧ ((T.extract 0 S.size).toList == S.toList) = true) ∨ ((M ≠ M' ∨ N ≠ N') ∧ (T.size < S.size ∨ (S.size ≤ T.size ∧ ((T.extract 0 S.size).toList == S.toList) = false))) := by
  have he := extract_list T 0 S.size
  rw [Nat.zero_add, List.drop_zero] at he
  by_cases c : T.size < S.size
  · refine .inr ⟨?_, .inl c⟩
    by_cases hm : M = M'
    · by_cases hn : N = N'
      · subst hm hn
        have h1 := list_size S
        have h2 := list_size T
        rw [hS] at h1
        rw [hT] at h2
        omega
      · exact .inr hn
    · exact .inl hm
  · by_cases q : (T.extract 0 S.size).data.toList = S.data.toList
    · rw [he] at q
      have hd : S.data.toList ++ T.data.toList.drop S.size = T.data.toList := by rw [← q, List.take_append_drop]
      rw [hS, hT] at hd
      obtain ⟨h1, h2⟩ := headL_inj hM hM' hN hN' _ hd
      refine .inl ⟨h1, h2, by omega, ?_⟩
      rw [Lib.toList_data, Lib.toList_data, he, q]
      simp
    · refine .inr ⟨?_, .inr ⟨by omega, ?_⟩⟩
      · by_cases hm : M = M'
        · by_cases hn : N = N'
          · subst hm hn
            exfalso
            apply q
            have h1 := list_size S
            have h2 := list_size T
            rw [he, hT, hS, List.take_of_length_le]
            rw [hS] at h1
            omega
          · exact .inr hn
        · exact .inl hm
      · rw [Lib.toList_data, Lib.toList_data]
        simpa using q

theorem apart_facts (a n b m : Int) :
    (((encV a n).2 == 0) = false ∧ (encV a n).1 = ByteArray.empty ∧ ((encV b m).2 = 0 ∨ (((encV b m).2 == 0) = false ∧ (encV b m).1 = ByteArray.empty)))
    ∨ ((encV a n).2 = 0 ∧ ((encV b m).2 == 0) = false ∧ (encV b m).1 = ByteArray.empty)
    ∨ ((encV a n).2 = 0 ∧ (encV b m).2 = 0 ∧ (encV a n).1.size ≤ 9 ∧
       ((a = b ∧ n = m ∧ ((encV a n).1.size : Int) ≤ ((encV b m).1.size : Int) ∧ (((encV b m).1.extract 0 (encV a n).1.size).toList == (encV a n).1.toList) = true)
        ∨ (((a == b) = false ∨ ((a == b) = true ∧ (n == m) = false)) ∧
           (¬ ((encV a n).1.size : Int) ≤ ((encV b m).1.size : Int) ∨ (((encV a n).1.size : Int) ≤ ((encV b m).1.size : Int) ∧ (((encV b m).1.extract 0 (encV a n).1.size).toList == (encV a n).1.toList) = false))))) := by
  rcases enc_cases a n with ⟨M, N, hm1, hn1, hM, hN, he⟩ | ⟨e, he, hee⟩
  · rcases enc_cases b m with ⟨M', N', hm2, hn2, hM', hN', he'⟩ | ⟨e, he', hee⟩
    · rw [he, he']
      have z1 : (⟨(headL M N).toArray⟩ : ByteArray).size ≤ 9 := by
        show (headL M N).toArray.size ≤ 9
        have := wOf_le N
        simp [headL_length]; omega
      refine .inr (.inr ⟨rfl, rfl, z1, ?_⟩)
      have hap := apart hM hM' hN hN' ⟨(headL M N).toArray⟩ ⟨(headL M' N').toArray⟩ rfl rfl
      rcases hap with ⟨q1, q2, q3, q4⟩ | ⟨q1, q2⟩
      · exact .inl ⟨by omega, by omega, Int.ofNat_le.2 q3, q4⟩
      · refine .inr ⟨?_, ?_⟩
        · by_cases e : a = b
          · exact .inr ⟨by simpa using e, by simp; omega⟩
          · exact .inl (by simpa using e)
        · rcases q2 with q2 | ⟨q2, q3⟩
          · exact .inl (fun c => absurd q2 (Nat.not_lt.2 (Int.ofNat_le.1 c)))
          · exact .inr ⟨Int.ofNat_le.2 q2, q3⟩
    · rw [he, he']
      refine .inr (.inl ⟨rfl, ?_, rfl⟩)
      obtain rfl | rfl := hee <;> rfl
  · rw [he]
    refine .inl ⟨?_, rfl, ?_⟩
    · obtain rfl | rfl := hee <;> rfl
    · rcases enc_cases b m with ⟨M', N', hm2, hn2, hM', hN', he'⟩ | ⟨e, he', hee⟩
      · rw [he']
        exact .inl rfl
      · rw [he']
        refine .inr ⟨?_, rfl⟩
        obtain rfl | rfl := hee <;> rfl

set_option maxRecDepth 100000 in
set_option maxHeartbeats 4000000 in
theorem HeadApart_law (a n b m : Int) (w : World) (A : Nat → Addr) (aN aW aS : Addr) (h : HInv w A aN aW aS) :
    Calls Tryd.prog 4 #[.int .i64 a, .int .i64 n, .int .i64 b, .int .i64 m] w (Ret (.bool true) w) := by
  have E1 := fun w' h' => Encode_any a n w' A aN aW aS h'
  have E2 := fun w' h' => Encode_any b m w' A aN aW aS h'
  have F := Lib.hid (apart_facts a n b m)
  generalize encV a n = x at *
  generalize encV b m = y at *
  obtain ⟨s, e⟩ := x
  obtain ⟨t, f⟩ := y
  go_enter Tryd.func4, Tryd.ntmps4
  go_wp2_with fail
  refine (hshown_any _ A aN aW aS h).mono ?_
  rintro e0 w1 ⟨rfl, hb1⟩
  go_wp2_with fail
  refine (E1 _ (h.below hb1)).mono ?_
  rintro e0 w2 ⟨rfl, hb2'⟩
  have hb2 := ext_trans hb1 hb2'
  clear hb1 hb2'
  go_wp2_with fail
  refine (E2 _ (h.below hb2)).mono ?_
  rintro e0 w3 ⟨rfl, hb3'⟩
  have hb3 := ext_trans hb2 hb3'
  clear hb2 hb3'
  have F := F.out
  try dsimp only at F
  rcases F with ⟨F1, rfl, F2⟩ | ⟨rfl, F1, rfl⟩ | ⟨rfl, rfl, F1, F2⟩
  · have F1' : (e != 0) = true := by rw [bne, F1]; rfl
    rcases F2 with rfl | ⟨F2, rfl⟩
    · go_wp2_with fail
      go_ret
      exact ⟨by first | rfl | (simp; done) | (simp; omega), hb3⟩
    · have F2' : (f != 0) = true := by rw [bne, F2]; rfl
      go_wp2_with fail
      go_ret
      exact ⟨by first | rfl | (simp; done) | (simp; omega), hb3⟩
  · have F1' : (f != 0) = true := by rw [bne, F1]; rfl
    go_wp2_with fail
    go_ret
    exact ⟨by first | rfl | (simp; done) | (simp; omega), hb3⟩
  · rcases F2 with ⟨rfl, rfl, F3, F4⟩ | ⟨F2 | ⟨F2, F3⟩, F4 | ⟨F4, F5⟩⟩
    all_goals
      go_wp2_with fail
      go_ret
      exact ⟨by first | rfl | (simp; done) | (simp; omega), hb3⟩

end Go.Proofs.YtfkekdpppcidbaaDoor
