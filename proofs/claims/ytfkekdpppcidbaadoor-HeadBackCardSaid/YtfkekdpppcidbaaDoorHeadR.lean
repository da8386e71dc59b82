/-
  Package postriderlaw03: the law HeadBack. Conditions: the listed variables hold what 'HInv' says.
-/
import Derived.Test.YtfkekdpppcidbaaDoorHeadP
import Derived.Test.YtfkekdpppcidbaaDoorHeadO
namespace Go.Proofs.YtfkekdpppcidbaaDoor
open Go.RowKit

theorem back_facts (m n : Int) (s t : ByteArray) :
    (((encV m n).2 == 0) = false)
    ∨ ((encV m n).2 = 0 ∧ decV (s ++ (encV m n).1 ++ t) (s.size : Int) = ((m, n, (s.size : Int) + ((encV m n).1.size : Int)), 0)) := by
  rcases enc_cases m n with ⟨M, N, rfl, rfl, hM, hN, he⟩ | ⟨e, he, hee⟩
  · refine .inr ⟨by rw [he], ?_⟩
    rw [he]
    show decV (s ++ (⟨(headL M N).toArray⟩ : ByteArray) ++ t) (s.size : Int) = (((M : Int), (N : Int), (s.size : Int) + (((⟨(headL M N).toArray⟩ : ByteArray).size : Nat) : Int)), 0)
    have hsz : (⟨(headL M N).toArray⟩ : ByteArray).size = 1 + wOf N := by show (headL M N).toArray.size = _; simp [headL_length]
    have hl : (s ++ (⟨(headL M N).toArray⟩ : ByteArray) ++ t).data.toList.drop s.size = headL M N ++ t.data.toList := by
      rw [ByteArray.data_append, ByteArray.data_append, Array.toList_append, Array.toList_append, List.append_assoc, ← list_size s, List.drop_left, List.toList_toArray]
    rw [decV, if_neg (by rw [ByteArray.size_append, ByteArray.size_append, hsz]; omega), Int.toNat_natCast, hl, dec_head hM hN, hsz]
    show (((M : Int), (N : Int), (s.size : Int) + 1 + (wOf N : Int)), (0 : Int)) = _
    rw [show (s.size : Int) + 1 + (wOf N : Int) = (s.size : Int) + ((1 + wOf N : Nat) : Int) by omega]
  · refine .inl ?_
    rw [he]
    obtain rfl | rfl := hee <;> rfl
theorem back_facts2 (t : ByteArray) :
    (((decV t 0).2 == 0) = false ∧ (decV t 0).1.1 = 0 ∧ (decV t 0).1.2.1 = 0 ∧ (decV t 0).1.2.2 = 0)
    ∨ ((decV t 0).2 = 0 ∧ ∃ k : Nat, (decV t 0).1.2.2 = (k : Int) ∧ 1 ≤ k ∧ k ≤ t.size ∧ encV (decV t 0).1.1 (decV t 0).1.2.1 = (t.extract 0 k, 0)) := by
  rcases decV_cases t 0 with ⟨p, M, N, hp, hM, hN, hz, hl, hd⟩ | ⟨e, hd, he⟩
  · obtain rfl : p = 0 := by omega
    rw [hd]
    refine .inr ⟨rfl, 0 + (1 + wOf N), rfl, by omega, hz, ?_⟩
    show encV (M : Int) (N : Int) = _
    have hn : okNum (N : Int) = true := okNum_iff.2 (by omega)
    rw [encV_ok (by rw [majB_nat]; exact hM) hn, Int.toNat_natCast, Int.toNat_natCast]
    have hx := extract_list t 0 (0 + (1 + wOf N))
    simp only [Nat.zero_add] at hx ⊢
    rw [hl] at hx
    rw [show (⟨(headL M N).toArray⟩ : ByteArray) = t.extract 0 (1 + wOf N) by
      apply ByteArray.ext
      show (headL M N).toArray = _
      rw [← hx, Array.toArray_toList]]
  · rw [hd]
    refine .inl ⟨?_, rfl, rfl, rfl⟩
    obtain rfl | rfl | rfl := he <;> rfl
theorem enc_small (m n : Int) : (encV m n).1.size ≤ 9 := by
  rcases enc_cases m n with ⟨M, N, rfl, rfl, hM, hN, he⟩ | ⟨e, he, hee⟩
  · rw [he]
    show (headL M N).toArray.size ≤ 9
    have := wOf_le N
    simp [headL_length]; omega
  · rw [he]
    show ByteArray.empty.size ≤ 9
    decide

set_option maxRecDepth 100000 in
set_option maxHeartbeats 4000000 in
theorem HeadBack_law (m n : Int) (s t : ByteArray) (w : World) (A : Nat → Addr) (aN aW aS : Addr) (h : HInv w A aN aW aS) (hs : s.size ≤ 9223372036854775807) (ht : t.size ≤ 9223372036854775807) :
    Calls Tryd.prog 3 #[.int .i64 m, .int .i64 n, .string s, .string t] w (Ret (.bool true) w) := by
  have E1 := fun w' h' => Encode_any m n w' A aN aW aS h'
  have HC := fun w' => hcut_any s w' hs
  have HC2 := fun w' => hcut_any t w' ht
  have hz := cut100_size s
  have hz2 := cut100_size t
  have hz3 := enc_small m n
  have D1 := fun w' h' => Decode_any (cut100 s ++ (encV m n).1 ++ cut100 t) ((cut100 s).size : Int) w' A aN aW aS h' (by rw [ByteArray.size_append, ByteArray.size_append]; omega)
  have D2 := fun w' h' => Decode_any (cut100 t) 0 w' A aN aW aS h' (by omega)
  have E2 := fun w' h' => Encode_any (decV (cut100 t) 0).1.1 (decV (cut100 t) 0).1.2.1 w' A aN aW aS h'
  have F := Lib.hid (back_facts m n (cut100 s) (cut100 t))
  have G := Lib.hid (back_facts2 (cut100 t))
  generalize cut100 s = s' at *
  generalize cut100 t = t' at *
  generalize encV m n = x at *
  generalize decV t' 0 = y at *
  obtain ⟨a, e⟩ := x
  obtain ⟨⟨d, g, to⟩, hh⟩ := y
  generalize encV d g = z at *
  obtain ⟨u, i⟩ := z
  generalize decV (s' ++ a ++ t') (s'.size : Int) = y at *
  obtain ⟨⟨b, c, at'⟩, f⟩ := y
  unfold decR at D1 D2
  dsimp only at D1 D2 E1 E2 hz3
  have u1 : wrap64 ((s'.size : Int) + (a.size : Int)) = (s'.size : Int) + (a.size : Int) := by unfold wrap64; omega
  have u2 : ¬ (9223372036854775807 < s'.size + a.size) := by omega
  have u3 : ¬ (9223372036854775807 < s'.size + a.size + t'.size) := by omega
  have u4 : ¬ (9223372036854775807 < (s' ++ a).size + t'.size) := by rw [ByteArray.size_append]; omega
  have F := F.out
  try dsimp only at F
  go_enter Tryd.func3, Tryd.ntmps3
  go_wp2_with fail
  refine (hshown_any _ A aN aW aS h).mono ?_
  rintro e0 w1 ⟨rfl, hb1⟩
  go_wp2_with fail
  refine (HC _).mono ?_
  rintro e0 w2 ⟨rfl, rfl⟩
  go_wp2_with fail
  refine (HC2 _).mono ?_
  rintro e0 w2 ⟨rfl, rfl⟩
  go_wp2_with fail
  refine (E1 _ (h.below hb1)).mono ?_
  rintro e0 w2 ⟨rfl, hb2'⟩
  have hb2 := ext_trans hb1 hb2'
  clear hb1 hb2'
  go_wp2_with fail
  refine (D1 _ (h.below hb2)).mono ?_
  rintro e0 w3 ⟨rfl, hb3'⟩
  have hb3 := ext_trans hb2 hb3'
  clear hb2 hb3'
  rcases F with F1 | ⟨rfl, F2⟩
  · have F1' : (e != 0) = true := by rw [bne, F1]; rfl
    go_wp2_with fail
    refine (D2 _ (h.below hb3)).mono ?_
    rintro e0 w4 ⟨rfl, hb4'⟩
    have hb4 := ext_trans hb3 hb4'
    clear hb3 hb4'
    go_wp2_with fail
    refine (E2 _ (h.below hb4)).mono ?_
    rintro e0 w5 ⟨rfl, hb5'⟩
    have hb5 := ext_trans hb4 hb5'
    clear hb4 hb5'
    have G := G.out
    try dsimp only at G
    rcases G with ⟨G1, rfl, rfl, rfl⟩ | ⟨rfl, k, rfl, G1, G2, G3⟩
    · have G1' : (hh != 0) = true := by rw [bne, G1]; rfl
      go_wp2_with fail
      go_ret
      exact ⟨by first | rfl | (simp; done) | (simp; omega), hb5⟩
    · have G4 : (1 : Int) ≤ (k : Int) := by omega
      have G5 : (k : Int) ≤ (t'.size : Int) := by omega
      have G6 : (0 : Int) ≤ (k : Int) := by omega
      injection G3 with G7 G8
      subst G7 G8
      go_wp2_with fail
      go_ret
      exact ⟨by first | rfl | (simp; done) | (simp; omega), hb5⟩
  · injection F2 with F3 F4
    injection F3 with F5 F6
    injection F6 with F7 F8
    subst F4 F5 F7 F8
    go_wp2_with fail
    refine (D2 _ (h.below hb3)).mono ?_
    rintro e0 w4 ⟨rfl, hb4'⟩
    have hb4 := ext_trans hb3 hb4'
    clear hb3 hb4'
    go_wp2_with fail
    refine (E2 _ (h.below hb4)).mono ?_
    rintro e0 w5 ⟨rfl, hb5'⟩
    have hb5 := ext_trans hb4 hb5'
    clear hb4 hb5'
    have G := G.out
    try dsimp only at G
    rcases G with ⟨G1, rfl, rfl, rfl⟩ | ⟨rfl, k, rfl, G1, G2, G3⟩
    · have G1' : (hh != 0) = true := by rw [bne, G1]; rfl
      go_wp2_with fail
      go_ret
      exact ⟨by first | rfl | (simp; done) | (simp; omega), hb5⟩
    · have G4 : (1 : Int) ≤ (k : Int) := by omega
      have G5 : (k : Int) ≤ (t'.size : Int) := by omega
      have G6 : (0 : Int) ≤ (k : Int) := by omega
      injection G3 with G7 G8
      subst G7 G8
      go_wp2_with fail
      go_ret
      exact ⟨by first | rfl | (simp; done) | (simp; omega), hb5⟩

end Go.Proofs.YtfkekdpppcidbaaDoor
