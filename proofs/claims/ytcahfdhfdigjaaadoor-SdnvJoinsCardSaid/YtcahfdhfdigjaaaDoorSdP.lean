/-
  What the laws of chapter 02 say of numbers and texts: plain, no program. No condition.
-/
import Derived.Test.YtcahfdhfdigjaaaDoorSdK
import Derived.Lib.Strings
namespace Go.Proofs.YtcahfdhfdigjaaaDoor
open Go.RowKit

theorem sdecL_bad_ne {l : List UInt8} {x : Int} (h : sdecL l = .bad x) : x = 11 ∨ x = 20 ∨ x = 10 := by
  rw [sdecL] at h
  cases he : endN l with
  | none => rw [he] at h; injection h with h; exact .inl h.symm
  | some k =>
    rw [he] at h
    dsimp only at h
    by_cases c1 : l.head? = some 128
    · rw [if_pos c1] at h; injection h with h; exact .inr (.inl h.symm)
    · rw [if_neg c1] at h
      by_cases c2 : 281474976710655 < v7 (l.take (k + 1))
      · rw [if_pos c2] at h; injection h with h; exact .inr (.inr h.symm)
      · rw [if_neg c2] at h; cases h
theorem three_ne {x : Int} (h : x = 11 ∨ x = 20 ∨ x = 10) : (x == 0) = false := by
  obtain rfl | rfl | rfl := h <;> rfl
theorem enc_cases (n : Int) : (∃ N : Nat, n = (N : Int) ∧ N ≤ 281474976710655 ∧ encV n = (⟨(sdL N).toArray⟩, 0)) ∨ (encV n = (ByteArray.empty, 10)) := by
  rcases bool_cases (okNum n) with h | h
  · exact .inr (encV_bad h)
  · obtain ⟨h1, h2⟩ := okNum_iff.1 h
    refine .inl ⟨n.toNat, by omega, by omega, ?_⟩
    exact encV_ok h
theorem sd_cases (s : ByteArray) (a : Int) :
    (∃ x, sdV s a = ((0, 0), x) ∧ (x == 0) = false ∧ nextL s a = .bad x)
    ∨ ∃ p n k : Nat, a = (p : Int) ∧ nextL s a = .ok n k ∧ sdV s a = (((n : Int), ((p + k : Nat) : Int)), 0) ∧ n ≤ 281474976710655 ∧ 1 ≤ k ∧ p + k ≤ s.size ∧ (s.data.toList.drop p).take k = sdL n := by
  cases hx : nextL s a with
  | bad x => exact .inl ⟨x, by rw [sdV, hx], bad_ne hx, rfl⟩
  | ok n k =>
    by_cases ha : a < 0
    · rw [nextL, if_pos ha] at hx; cases hx
    · obtain ⟨p, rfl⟩ := Int.eq_ofNat_of_zero_le (show 0 ≤ a by omega)
      have h := hx
      rw [nextL_nat] at h
      obtain ⟨h1, h2, h3, h4⟩ := sdL_sdec h
      rw [List.length_drop, list_size] at h3
      exact .inr ⟨p, n, k, rfl, rfl, by rw [sdV, hx, Int.natCast_add], h1, h4, by omega, h2⟩
theorem listL_ge (l : List Nat) : l.length ≤ (listL l).length := by
  induction l with
  | nil => simp
  | cons n l ih =>
    have := sdL_length n
    rw [show listL (n :: l) = sdL n ++ listL l by simp [listL], List.length_append, List.length_cons]
    omega
theorem all_cases (s : ByteArray) :
    (∃ x, allV s = ([], x) ∧ (x == 0) = false ∧ allOf s.data.toList = .bad x)
    ∨ ∃ l, allV s = (l, 0) ∧ allOf s.data.toList = .ok l ∧ listL l = s.data.toList ∧ (∀ n ∈ l, n ≤ 281474976710655) ∧ l.length ≤ s.size := by
  cases hx : allOf s.data.toList with
  | bad x =>
    obtain ⟨ns, t, -, -, -, h4⟩ := allOf_bad _ _ (Nat.le_refl _) x hx
    exact .inl ⟨x, by rw [allV, hx], three_ne (sdecL_bad_ne h4), rfl⟩
  | ok l =>
    obtain ⟨h1, h2⟩ := listL_allOf _ _ (Nat.le_refl _) l hx
    refine .inr ⟨l, by rw [allV, hx], rfl, h1, h2, ?_⟩
    have := listL_ge l
    rw [h1, list_size] at this
    exact this
theorem toN_cast (l : List Nat) : (l.map fun n : Nat => (n : Int)).map Int.toNat = l := by
  rw [List.map_map]
  conv => rhs; rw [← List.map_id l]
  rfl
theorem cast_toN (xs : List Int) (h : ∀ x ∈ xs, 0 ≤ x) : (xs.map Int.toNat).map (fun n : Nat => (n : Int)) = xs := by
  rw [List.map_map]
  conv => rhs; rw [← List.map_id xs]
  exact List.map_congr_left fun x hx => by have := h x hx; simp; omega
theorem ba_eq {a b : ByteArray} (h : a.data.toList = b.data.toList) : a = b := by
  apply ByteArray.ext
  rw [← Array.toArray_toList (xs := a.data), h, Array.toArray_toList]
theorem ba_of (s : ByteArray) : (⟨s.data.toList.toArray⟩ : ByteArray) = s := ba_eq (by simp)
theorem extract_list (s : ByteArray) (a b : Nat) : (s.extract a b).data.toList = (s.data.toList.drop a).take (b - a) := by
  rw [ByteArray.data_extract, Array.toList_extract, List.extract_eq_take_drop]
theorem listV_cases (xs : List Int) : (∃ l : List Nat, xs = l.map (fun n : Nat => (n : Int)) ∧ (∀ n ∈ l, n ≤ 281474976710655) ∧ listV xs = (⟨(listL l).toArray⟩, 0)) ∨ listV xs = (ByteArray.empty, 10) := by
  rcases bool_cases (xs.all okNum) with h | h
  · exact .inr (by rw [listV, if_neg (by rw [h]; decide)])
  · have h' := List.all_eq_true.1 h
    refine .inl ⟨xs.map Int.toNat, (cast_toN xs fun x hx => (okNum_iff.1 (h' x hx)).1).symm, fun n hn => ?_, by rw [listV, if_pos h]⟩
    obtain ⟨x, hx, rfl⟩ := List.mem_map.1 hn
    have := okNum_iff.1 (h' x hx)
    omega
theorem listV_nat (l : List Nat) (h : ∀ n ∈ l, n ≤ 281474976710655) : listV (l.map fun n : Nat => (n : Int)) = (⟨(listL l).toArray⟩, 0) := by
  rw [listV_ok (fun x hx => by
    obtain ⟨n, hn, rfl⟩ := List.mem_map.1 hx
    have := h n hn
    exact okNum_iff.2 (by omega)), toN_cast]
theorem listV_len (xs : List Int) (h : xs.length ≤ 30) : (listV xs).1.size ≤ 1000000 := by
  rcases listV_cases xs with ⟨l, rfl, hl, he⟩ | he
  · rw [he]
    show (listL l).toArray.size ≤ 1000000
    have := listL_len l hl
    simp at h
    simp; omega
  · rw [he]; show ByteArray.empty.size ≤ 1000000; decide
theorem size_of (l : List UInt8) : (⟨l.toArray⟩ : ByteArray).size = l.length := by show l.toArray.size = _; simp

/-! SdnvBack -/
theorem back_facts (n : Int) (s t : ByteArray) :
    (((encV n).2 == 0) = false)
    ∨ ((encV n).2 = 0 ∧ sdV (s ++ (encV n).1 ++ t) (s.size : Int) = ((n, (s.size : Int) + ((encV n).1.size : Int)), 0)) := by
  rcases enc_cases n with ⟨N, rfl, hN, he⟩ | he
  · refine .inr ⟨by rw [he], ?_⟩
    rw [he]
    show sdV (s ++ (⟨(sdL N).toArray⟩ : ByteArray) ++ t) (s.size : Int) = (((N : Int), (s.size : Int) + (((⟨(sdL N).toArray⟩ : ByteArray).size : Nat) : Int)), 0)
    have hl : (s ++ (⟨(sdL N).toArray⟩ : ByteArray) ++ t).data.toList.drop s.size = sdL N ++ t.data.toList := by
      rw [ByteArray.data_append, ByteArray.data_append, Array.toList_append, Array.toList_append, List.append_assoc, ← list_size s, List.drop_left, List.toList_toArray]
    rw [sdV, nextL_nat, hl, sdec_sdL hN, size_of (sdL N)]
  · exact .inl (by rw [he]; rfl)
theorem back_facts2 (t : ByteArray) :
    (((sdV t 0).2 == 0) = false ∧ (sdV t 0).1.1 = 0 ∧ (sdV t 0).1.2 = 0)
    ∨ ((sdV t 0).2 = 0 ∧ ∃ k : Nat, (sdV t 0).1.2 = (k : Int) ∧ 1 ≤ k ∧ k ≤ t.size ∧ encV (sdV t 0).1.1 = (t.extract 0 k, 0)) := by
  rcases sd_cases t 0 with ⟨x, h1, h2, -⟩ | ⟨p, n, k, hp, -, h1, h2, h3, h4, h5⟩
  · rw [h1]; exact .inl ⟨h2, rfl, rfl⟩
  · obtain rfl : p = 0 := by omega
    rw [h1]
    refine .inr ⟨rfl, 0 + k, rfl, by omega, h4, ?_⟩
    show encV (n : Int) = _
    rw [encV_ok (okNum_iff.2 (by omega)), Int.toNat_natCast, ← h5, Nat.zero_add]
    rw [show (⟨((t.data.toList.drop 0).take k).toArray⟩ : ByteArray) = t.extract 0 k from ba_eq (by rw [extract_list]; simp)]

/-! SdnvApart -/
theorem apart_facts (n m : Int) :
    (((encV n).2 == 0) = false ∧ (encV n).1 = ByteArray.empty ∧ ((encV m).2 = 0 ∨ ((encV m).2 == 0) = false ∧ (encV m).1 = ByteArray.empty))
    ∨ ((encV n).2 = 0 ∧ ((encV m).2 == 0) = false ∧ (encV m).1 = ByteArray.empty)
    ∨ ((encV n).2 = 0 ∧ (encV m).2 = 0 ∧ 1 ≤ (encV n).1.size ∧ (encV n).1.size ≤ 7 ∧
        ((m < n ∧ (encV n).1.size ≤ (encV m).1.size ∧ (((encV m).1.extract 0 (encV n).1.size).toList == (encV n).1.toList) = false)
          ∨ (m < n ∧ (encV m).1.size < (encV n).1.size)
          ∨ (n = m ∧ (encV m).1 = (encV n).1 ∧ (((encV m).1.extract 0 (encV n).1.size).toList == (encV n).1.toList) = true)
          ∨ (n < m ∧ (encV n).1.size ≤ (encV m).1.size ∧ (((encV m).1.extract 0 (encV n).1.size).toList == (encV n).1.toList) = false))) := by
  rcases enc_cases n with ⟨N, rfl, hN, he⟩ | he
  · rcases enc_cases m with ⟨M, rfl, hM, he2⟩ | he2
    · refine .inr (.inr ⟨by rw [he], by rw [he2], ?_, ?_, ?_⟩)
      · rw [he]; show 1 ≤ (⟨(sdL N).toArray⟩ : ByteArray).size; rw [size_of]; exact sdL_length N
      · rw [he]; show (⟨(sdL N).toArray⟩ : ByteArray).size ≤ 7; rw [size_of]; exact sdL_le7 hN
      · have key : N ≠ M → (encV (N : Int)).1.size ≤ (encV (M : Int)).1.size → (((encV (M : Int)).1.extract 0 (encV (N : Int)).1.size).toList == (encV (N : Int)).1.toList) = false := by
          intro hne hsz
          rw [Lib.toList_data, Lib.toList_data, beq_eq_false_iff_ne]
          intro e
          rw [extract_list, he, he2] at e
          simp only [List.drop_zero, Nat.sub_zero] at e
          rw [size_of (sdL N)] at e
          refine hne (sdL_prefix hN hM ((sdL M).drop (sdL N).length) ?_)
          conv => lhs; lhs; rw [← e]
          rw [List.take_append_drop]
        by_cases c : N = M
        · subst c
          exact .inr (.inr (.inl ⟨rfl, rfl, by rw [Lib.toList_data, Lib.toList_data, extract_list, List.drop_zero, Nat.sub_zero, List.take_of_length_le (by rw [list_size]; exact Nat.le_refl _)]; simp⟩))
        · by_cases c2 : M < N
          · by_cases c3 : (encV (N : Int)).1.size ≤ (encV (M : Int)).1.size
            · exact .inl ⟨by omega, c3, key c c3⟩
            · exact .inr (.inl ⟨by omega, by omega⟩)
          · have : (encV (N : Int)).1.size ≤ (encV (M : Int)).1.size := by
              rw [he, he2]
              show (⟨(sdL N).toArray⟩ : ByteArray).size ≤ (⟨(sdL M).toArray⟩ : ByteArray).size
              rw [size_of, size_of]
              exact sdL_mono (by omega)
            exact .inr (.inr (.inr ⟨by omega, this, key c this⟩))
    · exact .inr (.inl ⟨by rw [he], by rw [he2]; rfl, by rw [he2]⟩)
  · refine .inl ⟨by rw [he]; rfl, by rw [he], ?_⟩
    rcases enc_cases m with ⟨M, rfl, hM, he2⟩ | he2
    · exact .inl (by rw [he2])
    · exact .inr ⟨by rw [he2]; rfl, by rw [he2]⟩

/-! SdnvShort -/
theorem short_facts (n : Int) (at' : Int) :
    (((encV n).2 == 0) = false) ∨ ((encV n).2 = 0 ∧ (at' < 0 ∨ ((encV n).1.size : Int) ≤ at')) ∨
    ((encV n).2 = 0 ∧ ∃ k : Nat, at' = (k : Int) ∧ k < (encV n).1.size ∧ sdV ((encV n).1.extract 0 k) 0 = ((0, 0), 11)) := by
  rcases enc_cases n with ⟨N, rfl, hN, he⟩ | he
  · by_cases c : at' < 0 ∨ ((encV (N : Int)).1.size : Int) ≤ at'
    · exact .inr (.inl ⟨by rw [he], c⟩)
    · obtain ⟨k, rfl⟩ := Int.eq_ofNat_of_zero_le (show 0 ≤ at' by omega)
      refine .inr (.inr ⟨by rw [he], k, rfl, by omega, ?_⟩)
      have hk : k < (sdL N).length := by rw [he] at c; dsimp only at c; rw [size_of] at c; omega
      rw [he]
      dsimp only
      rw [sdV, show (0 : Int) = ((0 : Nat) : Int) from rfl, nextL_nat, extract_list]
      simp only [List.drop_zero, Nat.sub_zero]
      rw [sdec_short N k hk]
  · exact .inl (by rw [he]; rfl)

/-! SdnvAll -/
theorem all_facts (xs : List Int) :
    (((listV xs).2 == 0) = false ∧ (listV xs).1 = ByteArray.empty ∧ allV (listV xs).1 = ([], 0))
    ∨ ((listV xs).2 = 0 ∧ (allV (listV xs).1).2 = 0 ∧ (allV (listV xs).1).1.map (fun n : Nat => (n : Int)) = xs) := by
  rcases listV_cases xs with ⟨l, rfl, hl, he⟩ | he
  · refine .inr ⟨by rw [he], ?_⟩
    rw [he]
    have h := allOf_listL l hl []
    rw [List.append_nil, allOf_nil] at h
    dsimp only at h
    rw [List.append_nil] at h
    have : allV ⟨(listL l).toArray⟩ = (l, 0) := by rw [allV, List.toList_toArray, h]
    rw [this]
    exact ⟨rfl, rfl⟩
  · rw [he]
    exact .inl ⟨rfl, rfl, by kernel_rfl⟩
theorem all_facts2 (s : ByteArray) :
    (((allV s).2 == 0) = false ∧ (allV s).1 = []) ∨ ((allV s).2 = 0 ∧ listV ((allV s).1.map fun n : Nat => (n : Int)) = (s, 0)) := by
  rcases all_cases s with ⟨x, h1, h2, -⟩ | ⟨l, h1, -, h2, h3, -⟩
  · rw [h1]; exact .inl ⟨h2, rfl⟩
  · rw [h1]
    refine .inr ⟨rfl, ?_⟩
    rw [listV_nat l h3, h2, ba_of]
theorem all_len (s : ByteArray) : (allV s).1.length ≤ s.size := by
  rcases all_cases s with ⟨x, h1, -, -⟩ | ⟨l, h1, -, -, -, h2⟩
  · rw [h1]; simp
  · rw [h1]; exact h2

/-! SdnvJoins -/
theorem joins_facts (s t : ByteArray) :
    (((allV s).2 == 0) = false)
    ∨ ((allV s).2 = 0 ∧ ((allV t).2 == 0) = false ∧ (allV (s ++ t)).2 = (allV t).2 ∧ (allV (s ++ t)).1 = [])
    ∨ ((allV s).2 = 0 ∧ (allV t).2 = 0 ∧ (allV (s ++ t)).2 = 0 ∧ (allV (s ++ t)).1 = (allV s).1 ++ (allV t).1) := by
  rcases all_cases s with ⟨x, h1, h2, -⟩ | ⟨l, h1, -, h2, h3, -⟩
  · exact .inl (by rw [h1]; exact h2)
  · have h := allOf_listL l h3 t.data.toList
    rw [h2] at h
    have e : (s ++ t).data.toList = s.data.toList ++ t.data.toList := by rw [ByteArray.data_append, Array.toList_append]
    rcases all_cases t with ⟨x, k1, k2, k3⟩ | ⟨m, k1, k2, -⟩
    · rw [k3] at h
      have hv : allV (s ++ t) = ([], x) := by rw [allV, e, h]
      rw [hv, h1, k1]
      exact .inr (.inl ⟨rfl, k2, rfl, rfl⟩)
    · rw [k2] at h
      have hv : allV (s ++ t) = (l ++ m, 0) := by rw [allV, e, h]
      rw [hv, h1, k1]
      exact .inr (.inr ⟨rfl, rfl, rfl, rfl⟩)

/-! SdnvOne -/
theorem one_facts (s : ByteArray) :
    ((allV s).2 = 0 ∧ (allV s).1.length = 1 ∧ (sdV s 0).2 = 0 ∧ (sdV s 0).1.2 = (s.size : Int) ∧ (allV s).1.map (fun n : Nat => (n : Int)) = [(sdV s 0).1.1])
    ∨ ((((allV s).2 == 0) = false ∨ ((allV s).2 = 0 ∧ ((((allV s).1.length : Nat) : Int) == 1) = false)) ∧ (((sdV s 0).2 == 0) = false ∨ ((sdV s 0).2 = 0 ∧ ((sdV s 0).1.2 == (s.size : Int)) = false))) := by
  have hz := list_size s
  rcases sd_cases s 0 with ⟨x, h1, h2, h3⟩ | ⟨p, n, k, hp, h0, h1, h2, h3, h4, h5⟩
  · refine .inr ⟨?_, .inl (by rw [h1]; exact h2)⟩
    rw [show (0 : Int) = ((0 : Nat) : Int) from rfl, nextL_nat, List.drop_zero] at h3
    by_cases hn : s.data.toList = []
    · have hv : allV s = ([], 0) := by rw [allV, hn, allOf_nil]
      rw [hv]
      exact .inr ⟨rfl, rfl⟩
    · have hv : allV s = ([], x) := by rw [allV, allOf_step hn, h3]
      rw [hv]
      exact .inl h2
  · obtain rfl : p = 0 := by omega
    rw [show (0 : Int) = ((0 : Nat) : Int) from rfl, nextL_nat, List.drop_zero] at h0
    rw [List.drop_zero] at h5
    have hn : s.data.toList ≠ [] := fun e => by rw [e, List.length_nil] at hz; omega
    have hst := allOf_step hn
    rw [h0] at hst
    dsimp only at hst
    rw [h1]
    dsimp only
    by_cases hk : k = s.size
    · subst hk
      rw [List.drop_of_length_le (by rw [hz]; exact Nat.le_refl _), allOf_nil] at hst
      have hv : allV s = ([n], 0) := by rw [allV, hst]; rfl
      rw [hv]
      exact .inl ⟨rfl, rfl, rfl, by rw [Nat.zero_add], rfl⟩
    · refine .inr ⟨?_, .inr ⟨rfl, by rw [beq_eq_false_iff_ne]; omega⟩⟩
      have hne : s.data.toList.drop k ≠ [] := fun e => by
        have := congrArg List.length e
        rw [List.length_drop, hz, List.length_nil] at this
        omega
      rcases all_cases s with ⟨x, i1, i2, -⟩ | ⟨l, i1, i2, i3, i4, -⟩
      · rw [i1]; exact .inl i2
      · rw [i1]
        refine .inr ⟨rfl, ?_⟩
        rw [hst] at i2
        cases hd : allOf (s.data.toList.drop k) with
        | bad x => rw [hd] at i2; cases i2
        | ok m =>
          rw [hd] at i2
          injection i2 with i2
          subst i2
          rw [beq_eq_false_iff_ne]
          intro e
          have hm : m = [] := List.eq_nil_of_length_eq_zero (by simp at e; omega)
          have h6 := (listL_allOf _ _ (Nat.le_refl _) m hd).1
          rw [hm] at h6
          exact hne h6.symm

end Go.Proofs.YtcahfdhfdigjaaaDoor
