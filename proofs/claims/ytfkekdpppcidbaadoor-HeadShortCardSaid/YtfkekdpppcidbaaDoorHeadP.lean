/-
  Package postriderlaw03: the laws HeadReads, HeadShort, HeadSizes. Conditions: the listed variables hold what 'HInv' says.
-/
import Derived.Test.YtfkekdpppcidbaaDoorHeadN
namespace Go.Proofs.YtfkekdpppcidbaaDoor
open Go.RowKit

theorem enc_cases (m n : Int) :
    (∃ M N : Nat, m = (M : Int) ∧ n = (N : Int) ∧ okMajor M = true ∧ N ≤ 281474976710655 ∧ encV m n = (⟨(headL M N).toArray⟩, 0))
    ∨ (∃ e : Int, encV m n = (ByteArray.empty, e) ∧ (e = 2 ∨ e = 10)) := by
  rcases bool_cases (majB m) with hm | hm
  · exact .inr ⟨2, encV_major hm, .inl rfl⟩
  rcases bool_cases (okNum n) with hn | hn
  · exact .inr ⟨10, encV_num hm hn, .inr rfl⟩
  · obtain ⟨n0, n1⟩ := okNum_iff.1 hn
    have hm4 := majB_iff.1 hm
    obtain ⟨q, rfl⟩ := Int.eq_ofNat_of_zero_le n0
    obtain ⟨p, rfl⟩ := Int.eq_ofNat_of_zero_le (show 0 ≤ m by omega)
    exact .inl ⟨p, q, rfl, rfl, (majB_nat p).symm.trans hm, by omega, encV_ok hm hn⟩
theorem size_cases (n : Int) : (∃ N : Nat, n = (N : Int) ∧ N ≤ 281474976710655 ∧ sizeV n = (((1 + wOf N : Nat) : Int), 0)) ∨ ((n < 0 ∨ 281474976710655 < n) ∧ sizeV n = (0, 10)) := by
  rcases bool_cases (okNum n) with hn | hn
  · refine .inr ⟨?_, by rw [sizeV, if_neg (by rw [hn]; decide)]⟩
    have := mt okNum_iff.2 (by rw [hn]; decide)
    omega
  · obtain ⟨n0, n1⟩ := okNum_iff.1 hn
    obtain ⟨q, rfl⟩ := Int.eq_ofNat_of_zero_le n0
    exact .inl ⟨q, rfl, by omega, by rw [sizeV, if_pos hn, Int.toNat_natCast]⟩
theorem decV_cases (s : ByteArray) (a : Int) :
    (∃ p M N : Nat, a = (p : Int) ∧ okMajor M = true ∧ N ≤ 281474976710655 ∧ p + (1 + wOf N) ≤ s.size ∧ (s.data.toList.drop p).take (1 + wOf N) = headL M N ∧ decV s a = (((M : Int), (N : Int), ((p + (1 + wOf N) : Nat) : Int)), 0))
    ∨ (∃ e : Int, decV s a = ((0, 0, 0), e) ∧ (e = 11 ∨ e = 20 ∨ e = 10)) := by
  by_cases ho : a < 0 ∨ (s.size : Int) ≤ a
  · exact .inr ⟨11, by rw [decV, if_pos ho], .inl rfl⟩
  obtain ⟨p, rfl⟩ := Int.eq_ofNat_of_zero_le (show 0 ≤ a by omega)
  rw [decV, if_neg ho, Int.toNat_natCast]
  cases hd : decL (s.data.toList.drop p) with
  | bad e => exact .inr ⟨e, rfl, dec_bad hd⟩
  | ok M N wd =>
    obtain ⟨h1, h2, h3, h4, h5⟩ := head_dec hd
    subst h3
    rw [List.length_drop, list_size] at h5
    refine .inl ⟨p, M, N, rfl, h1, h2, by omega, h4, ?_⟩
    show (((M : Int), (N : Int), (p : Int) + 1 + (wOf N : Int)), (0 : Int)) = _
    rw [show (p : Int) + 1 + (wOf N : Int) = ((p + (1 + wOf N) : Nat) : Int) by omega]

set_option maxRecDepth 100000 in
theorem HeadReads_law (s : ByteArray) (a : Int) (w : World) (A : Nat → Addr) (aN aW aS : Addr) (h : HInv w A aN aW aS) (hs : s.size ≤ 9223372036854775807) :
    Calls Tryd.prog 9 #[.string s, .int .i64 a] w (Ret (.bool true) w) := by
  have hz := cut100_size s
  have D1 := fun w' h' => Decode_any (cut100 s) a w' A aN aW aS h' (by omega)
  have HC := fun w' => hcut_any s w' hs
  rcases decV_cases (cut100 s) a with ⟨p, M, N, rfl, hM, hN, hp, -, hd⟩ | ⟨e, hd, he⟩
  · rw [hd] at D1
    have S1 := fun w' h' => HSize_any (N : Int) w' A aN aW aS h'
    have hsv : sizeV (N : Int) = (((1 + wOf N : Nat) : Int), 0) := by
      rcases size_cases (N : Int) with ⟨N', e, -, hq⟩ | ⟨hq, -⟩
      · obtain rfl : N = N' := by omega
        exact hq
      · omega
    rw [hsv] at S1
    have hw8 := wOf_le N
    unfold decR at D1
    generalize hk : 1 + wOf N = k at *
    have k9 : (k : Int) ≤ 9 := by omega
    clear hsv hd hk hw8
    generalize cut100 s = t at *
    have u1 : wrap64 ((p : Int) + (k : Int)) = (p : Int) + (k : Int) := by unfold wrap64; omega
    obtain rfl | rfl | rfl | rfl := okMajor_iff.1 hM
    all_goals
      clear hM
      go_enter Tryd.func9, Tryd.ntmps9
      go_wp2_with fail
      refine (hshown_any _ A aN aW aS h).mono ?_
      rintro e w1 ⟨rfl, hb1⟩
      go_wp2_with fail
      refine (HC _).mono ?_
      rintro e w2 ⟨rfl, rfl⟩
      go_wp2_with fail
      refine (D1 _ (h.below hb1)).mono ?_
      rintro e w2 ⟨rfl, hb2'⟩
      have hb2 := ext_trans hb1 hb2'
      clear hb1 hb2'
      go_wp2_with fail
      refine (S1 _ (h.below hb2)).mono ?_
      rintro e w3 ⟨rfl, hb3'⟩
      have hb3 := ext_trans hb2 hb3'
      clear hb2 hb3'
      go_wp2_with fail
      go_ret
      exact ⟨rfl, hb3⟩
  · rw [hd] at D1
    unfold decR at D1
    clear hd
    generalize cut100 s = t at *
    obtain rfl | rfl | rfl := he
    all_goals
      go_enter Tryd.func9, Tryd.ntmps9
      go_wp2_with fail
      refine (hshown_any _ A aN aW aS h).mono ?_
      rintro e w1 ⟨rfl, hb1⟩
      go_wp2_with fail
      refine (HC _).mono ?_
      rintro e w2 ⟨rfl, rfl⟩
      go_wp2_with fail
      refine (D1 _ (h.below hb1)).mono ?_
      rintro e w2 ⟨rfl, hb2'⟩
      have hb2 := ext_trans hb1 hb2'
      clear hb1 hb2'
      go_wp2_with fail
      go_ret
      exact ⟨rfl, hb2⟩

theorem short_dec (M N p : Nat) (hM : okMajor M = true) (hp : p < 1 + wOf N) (s : ByteArray) (hs : s.data.toList = headL M N) : decV (s.extract 0 p) 0 = ((0, 0, 0), 11) := by
  have hz : s.size = 1 + wOf N := by rw [← list_size, hs, headL_length]
  by_cases h0 : p = 0
  · subst h0
    rw [decV, if_pos (.inr (by rw [ByteArray.size_extract]; omega))]
  · have he := extract_list s 0 p
    rw [Nat.zero_add] at he
    rw [decV, if_neg (by rw [ByteArray.size_extract]; omega), he, hs]
    show (match decL (List.drop 0 (List.take p (List.drop 0 (headL M N)))) with | .bad e => _ | .ok m n w => _) = _
    rw [List.drop_zero, List.drop_zero, dec_short hM p hp]

set_option maxRecDepth 100000 in
theorem HeadShort_law (m n a : Int) (w : World) (A : Nat → Addr) (aN aW aS : Addr) (h : HInv w A aN aW aS) :
    Calls Tryd.prog 6 #[.int .i64 m, .int .i64 n, .int .i64 a] w (Ret (.bool true) w) := by
  have E1 := fun w' h' => Encode_any m n w' A aN aW aS h'
  rcases enc_cases m n with ⟨M, N, rfl, rfl, hM, hN, he⟩ | ⟨e, he, hee⟩
  · rw [he] at E1
    have hsz : (⟨(headL M N).toArray⟩ : ByteArray).size = 1 + wOf N := by show (headL M N).toArray.size = _; simp [headL_length]
    have hw8 := wOf_le N
    by_cases ho : a < 0 ∨ (1 + wOf N : Int) ≤ a
    · have hdl : (⟨(headL M N).toArray⟩ : ByteArray).size ≤ 9 := by omega
      have ho' : a < 0 ∨ ((⟨(headL M N).toArray⟩ : ByteArray).size : Int) ≤ a := by omega
      clear he ho hsz
      generalize (⟨(headL M N).toArray⟩ : ByteArray) = t at *
      by_cases h0 : a < 0
      · go_enter Tryd.func6, Tryd.ntmps6
        go_wp2_with fail
        refine (hshown_any _ A aN aW aS h).mono ?_
        rintro e w1 ⟨rfl, hb1⟩
        go_wp2_with fail
        refine (E1 _ (h.below hb1)).mono ?_
        rintro e w2 ⟨rfl, hb2'⟩
        have hb2 := ext_trans hb1 hb2'
        clear hb1 hb2'
        go_wp2_with fail
        go_ret
        exact ⟨rfl, hb2⟩
      · have h1 : (t.size : Int) ≤ a := by omega
        clear ho'
        go_enter Tryd.func6, Tryd.ntmps6
        go_wp2_with fail
        refine (hshown_any _ A aN aW aS h).mono ?_
        rintro e w1 ⟨rfl, hb1⟩
        go_wp2_with fail
        refine (E1 _ (h.below hb1)).mono ?_
        rintro e w2 ⟨rfl, hb2'⟩
        have hb2 := ext_trans hb1 hb2'
        clear hb1 hb2'
        go_wp2_with fail
        go_ret
        exact ⟨rfl, hb2⟩
    · obtain ⟨p, rfl⟩ := Int.eq_ofNat_of_zero_le (show 0 ≤ a by omega)
      have hsd := short_dec M N p hM (by omega) ⟨(headL M N).toArray⟩ rfl
      have hp : p < (⟨(headL M N).toArray⟩ : ByteArray).size := by omega
      have hdl : (⟨(headL M N).toArray⟩ : ByteArray).size ≤ 9 := by omega
      have D1 := fun w' h' => Decode_any ((⟨(headL M N).toArray⟩ : ByteArray).extract 0 p) 0 w' A aN aW aS h' (by rw [ByteArray.size_extract]; omega)
      rw [hsd] at D1
      unfold decR at D1
      clear he ho hsz hsd
      generalize (⟨(headL M N).toArray⟩ : ByteArray) = t at *
      have i1 : (0 : Int) ≤ (p : Int) := by omega
      have i2 : (p : Int) < (t.size : Int) := by omega
      have i3 : (p : Int) ≤ (t.size : Int) := by omega
      go_enter Tryd.func6, Tryd.ntmps6
      go_wp2_with fail
      refine (hshown_any _ A aN aW aS h).mono ?_
      rintro e w1 ⟨rfl, hb1⟩
      go_wp2_with fail
      refine (E1 _ (h.below hb1)).mono ?_
      rintro e w2 ⟨rfl, hb2'⟩
      have hb2 := ext_trans hb1 hb2'
      clear hb1 hb2'
      go_wp2_with fail
      refine (D1 _ (h.below hb2)).mono ?_
      rintro e w3 ⟨rfl, hb3'⟩
      have hb3 := ext_trans hb2 hb3'
      clear hb2 hb3'
      go_wp2_with fail
      go_ret
      exact ⟨rfl, hb3⟩
  · rw [he] at E1
    clear he
    obtain rfl | rfl := hee
    all_goals
      go_enter Tryd.func6, Tryd.ntmps6
      go_wp2_with fail
      refine (hshown_any _ A aN aW aS h).mono ?_
      rintro e w1 ⟨rfl, hb1⟩
      go_wp2_with fail
      refine (E1 _ (h.below hb1)).mono ?_
      rintro e w2 ⟨rfl, hb2'⟩
      have hb2 := ext_trans hb1 hb2'
      clear hb1 hb2'
      go_wp2_with fail
      go_ret
      exact ⟨rfl, hb2⟩

end Go.Proofs.YtfkekdpppcidbaaDoor
