/-
  Package head: Decode over all inputs. Conditions: the listed variables hold what 'HInv' says.
-/
import Derived.Test.YtfkekdpppcidbaaDoorHeadH
namespace Go.Proofs.YtfkekdpppcidbaaDoor
open Go.RowKit

/-- What Decode tells. -/
def decV (s : ByteArray) (a : Int) : (Int × Int × Int) × Int :=
  if a < 0 ∨ (s.size : Int) ≤ a then ((0, 0, 0), 11) else
    match decL (s.data.toList.drop a.toNat) with
    | .bad e => ((0, 0, 0), e)
    | .ok m n w => (((m : Int), (n : Int), a + 1 + (w : Int)), 0)
/-- As Decode's results. -/
def decR (t : (Int × Int × Int) × Int) : Value := .tuple #[.int .i64 t.1.1, .int .i64 t.1.2.1, .int .i64 t.1.2.2, .int .i64 t.2]

set_option maxRecDepth 100000 in
theorem Decode_bad (s : ByteArray) (a : Int) (V : Value) (e : Int) (w : World) (A : Nat → Addr) (aN aW aS : Addr) (h : HInv w A aN aW aS)
    (hD : ∀ w', HInv w' A aN aW aS → Calls Tryd.prog 21 #[.string s, .int .i64 a] w' (Ret (.agg #[.int .i64 0, .int .i64 0, .int .i64 0, V]) w'))
    (hE : ∀ w', HInv w' A aN aW aS → Calls Tryd.prog 20 #[.agg #[.int .i64 0, .int .i64 0, .int .i64 0, V]] w' (Ret (.tuple #[.agg #[.int .i64 0, .int .i64 0, .int .i64 0], .int .i64 e]) w')) :
    Calls Tryd.prog 13 #[.string s, .int .i64 a] w (Ret (decR ((0, 0, 0), e)) w) := by
  unfold decR
  go_enter Tryd.func13, Tryd.ntmps13
  go_wp2_with fail
  refine (hD _ h).mono ?_
  rintro e w1 ⟨rfl, hb1⟩
  go_wp2_with fail
  refine (hE _ (h.below hb1)).mono ?_
  rintro e w2 ⟨rfl, hb2⟩
  go_wp2_with fail
  refine bodyPost_ret (v := .tuple #[.int .i64 0, .int .i64 0, .int .i64 0, .int .i64 _]) (by simp [results, Tryd.results13]) rfl ⟨rfl, ext_alloc (ext_trans hb1 hb2) _⟩

set_option maxRecDepth 100000 in
theorem Decode_good (s : ByteArray) (a m n x : Int) (hx : x ≠ 0) (w : World) (A : Nat → Addr) (aN aW aS : Addr) (h : HInv w A aN aW aS)
    (hD : ∀ w', HInv w' A aN aW aS → Calls Tryd.prog 21 #[.string s, .int .i64 a] w' (Ret (.agg #[.int .i64 m, .int .i64 n, .int .i64 x, .nilIface]) w')) :
    Calls Tryd.prog 13 #[.string s, .int .i64 a] w (Ret (decR ((m, n, x), 0)) w) := by
  have hE := fun w' h' => heitherH_nil m n x w' A aN aW aS h'
  have hx0 : (x == 0) = false := beq_eq_false_iff_ne.2 hx
  unfold decR
  go_enter Tryd.func13, Tryd.ntmps13
  go_wp2_with fail
  refine (hD _ h).mono ?_
  rintro e w1 ⟨rfl, hb1⟩
  go_wp2_with fail
  refine (hE _ (h.below hb1)).mono ?_
  rintro e w2 ⟨rfl, hb2⟩
  go_wp2_with fail
  go_quiet (fail)
  go_wp2_with fail
  refine bodyPost_ret (v := .tuple #[.int .i64 m, .int .i64 n, .int .i64 x, .int .i64 0]) (by simp [results, Tryd.results13]) rfl ⟨rfl, hbelow_drewN (ext_alloc (ext_trans hb1 hb2) _) _⟩

theorem majB_nat (k : Nat) : majB (k : Int) = okMajor k := by
  rw [Bool.eq_iff_iff, majB_iff, okMajor_iff]; omega
theorem list_at (s : ByteArray) (p : Nat) (hp : p < s.size) : s.data.toList.drop p = s[p] :: s.data.toList.drop (p + 1) := by
  rw [List.drop_eq_getElem_cons (by simpa using hp)]; rfl
theorem list_size (s : ByteArray) : s.data.toList.length = s.size := by rw [Array.length_toList]; rfl

/-- Behind a first byte that asks for more bytes. -/
theorem Decode_more (s : ByteArray) (p M R wd : Nat) (w : World) (A : Nat → Addr) (aN aW aS : Addr) (h : HInv w A aN aW aS) (hs : s.size ≤ 9223372036854775807) (hp : p < s.size) (hM : Split s[p] M R)
    (hf : okMajor M = true) (hR : R ≤ 27) (hR2 : ¬ R < 24) (hw : wRest R = wd) (h1 : 1 ≤ wd) (h8 : wd ≤ 8)
    (hA : ∀ w', HInv w' A aN aW aS → Calls Tryd.prog 33 #[.string s, .int .i64 ((p : Int) + 1), .int .i64 (R : Int)] w' (Ret (argV (takeV s ((p : Int) + 1) (wd : Int)) (wd : Int) A) w')) :
    Calls Tryd.prog 13 #[.string s, .int .i64 (p : Int)] w (Ret (decR (decV s (p : Int))) w) := by
  have hf' : majB (M : Int) = true := (majB_nat M).trans hf
  have hls := list_size s
  rw [decV, if_neg (by omega), Int.toNat_natCast, list_at s p hp, decL, ← hM.m, ← hM.r, if_neg (by simp [hf, hR]), if_neg hR2, hw]
  have hkw : okWidth (wd : Int) = true := okWidth_iff.2 ⟨by omega, by omega⟩
  by_cases c : (s.data.toList.drop (p + 1)).length < wd
  · rw [if_pos c]
    rw [List.length_drop] at c
    have ht : takeV s ((p : Int) + 1) (wd : Int) = (0, 11) := takeV_short hkw (by
      rcases bool_cases (okWithin s.size ((p : Int) + 1) (wd : Int)) with k | k
      · exact k
      · have := okWithin_iff.1 k; omega)
    rw [ht] at hA
    exact Decode_bad s p (ErrV (A 2)) 11 w A aN aW aS h (fun w' h' => decoded_err s p M R w' A aN aW aS h' hs hp hM (A 2) hf' hR (fun w' h' => hA w' h')) (fun w' h' => heitherH_2 0 0 0 w' A aN aW aS h')
  · rw [if_neg c]
    rw [List.length_drop] at c
    have hkk : okWithin s.size ((p : Int) + 1) (wd : Int) = true := okWithin_iff.2 ⟨by omega, by omega, by omega, by omega⟩
    have ht := takeV_ok hkw hkk
    rw [show ((p : Int) + 1).toNat = p + 1 by omega, Int.toNat_natCast] at ht
    by_cases c2 : 281474976710655 < val ((s.data.toList.drop (p + 1)).take wd)
    · rw [if_pos c2]
      rw [takeN, takeE, if_neg (by omega), if_neg (by omega)] at ht
      rw [ht] at hA
      exact Decode_bad s p (ErrV (A 1)) 10 w A aN aW aS h (fun w' h' => decoded_err s p M R w' A aN aW aS h' hs hp hM (A 1) hf' hR (fun w' h' => hA w' h')) (fun w' h' => heitherH_1 0 0 0 w' A aN aW aS h')
    · rw [if_neg c2]
      rw [takeN, takeE, if_pos (by omega), if_pos (by omega)] at ht
      rw [ht] at hA
      have hfit := fun w' h' => decoded_fit s p M R w' A aN aW aS h' hs hp hM (val ((s.data.toList.drop (p + 1)).take wd)) wd (by omega) h8 (by omega) hf' hR (fun w' h' => hA w' h')
      by_cases c3 : wOf (val ((s.data.toList.drop (p + 1)).take wd)) = wd
      · rw [if_neg (by simp [c3])]
        rw [if_pos c3] at hfit
        exact Decode_good s p _ _ _ (by omega) w A aN aW aS h hfit
      · rw [if_pos c3]
        rw [if_neg c3] at hfit
        exact Decode_bad s p (ErrV (A 3)) 20 w A aN aW aS h hfit (fun w' h' => heitherH_3 0 0 0 w' A aN aW aS h')

theorem Decode_any (s : ByteArray) (a : Int) (w : World) (A : Nat → Addr) (aN aW aS : Addr) (h : HInv w A aN aW aS) (hs : s.size ≤ 9223372036854775807) :
    Calls Tryd.prog 13 #[.string s, .int .i64 a] w (Ret (decR (decV s a)) w) := by
  by_cases ho : a < 0 ∨ (s.size : Int) ≤ a
  · rw [decV, if_pos ho]
    exact Decode_bad s a (ErrV (A 2)) 11 w A aN aW aS h (fun w' h' => decoded_out s a w' A aN aW aS h' hs ho) (fun w' h' => heitherH_2 0 0 0 w' A aN aW aS h')
  obtain ⟨p, rfl⟩ := Int.eq_ofNat_of_zero_le (show 0 ≤ a by omega)
  have hp : p < s.size := by omega
  obtain ⟨M, R, hM⟩ : ∃ M R, Split s[p] M R := ⟨_, _, split_of s[p]⟩
  have hls := list_size s
  by_cases c1 : okMajor M = true ∧ R ≤ 27
  · obtain ⟨k1, k2⟩ := c1
    by_cases c2 : R < 24
    · rw [decV, if_neg (by omega), Int.toNat_natCast, list_at s p hp, decL, ← hM.m, ← hM.r, if_neg (by simp [k1, k2]), if_pos c2]
      have hfit := fun w' h' => decoded_fit s p M R w' A aN aW aS h' hs hp hM R 0 (by omega) (by omega) (by omega) ((majB_nat M).trans k1) k2 (fun w' h' => argument_low s ((p : Int) + 1) (R : Int) w' A aN aW aS h' (by omega))
      rw [if_pos (by simp [wOf, c2])] at hfit
      exact Decode_good s p _ _ _ (by omega) w A aN aW aS h hfit
    · obtain h24 | h25 | h26 | h27 : R = 24 ∨ R = 25 ∨ R = 26 ∨ R = 27 := by omega
      · subst h24; exact Decode_more s p M 24 1 w A aN aW aS h hs hp hM k1 k2 c2 rfl (by omega) (by omega) (fun w' h' => argument_24 s _ w' A aN aW aS h' hs)
      · subst h25; exact Decode_more s p M 25 2 w A aN aW aS h hs hp hM k1 k2 c2 rfl (by omega) (by omega) (fun w' h' => argument_25 s _ w' A aN aW aS h' hs)
      · subst h26; exact Decode_more s p M 26 4 w A aN aW aS h hs hp hM k1 k2 c2 rfl (by omega) (by omega) (fun w' h' => argument_26 s _ w' A aN aW aS h' hs)
      · subst h27; exact Decode_more s p M 27 8 w A aN aW aS h hs hp hM k1 k2 c2 rfl (by omega) (by omega) (fun w' h' => argument_27 s _ w' A aN aW aS h' hs)
  · rw [decV, if_neg ho, Int.toNat_natCast, list_at s p hp, decL, ← hM.m, ← hM.r, if_pos (by
      rw [Bool.not_eq_true', Bool.and_eq_false_iff]
      by_cases k : okMajor M = true
      · exact .inr (decide_eq_false (fun hk => c1 ⟨k, hk⟩))
      · exact .inl (by simpa using k))]
    refine Decode_bad s p (ErrV (A 3)) 20 w A aN aW aS h (fun w' h' => decoded_form s p M R w' A aN aW aS h' hs hp hM ?_) (fun w' h' => heitherH_3 0 0 0 w' A aN aW aS h')
    rw [majB_nat]
    by_cases k : okMajor M = true
    · exact .inr ⟨k, Nat.lt_of_not_le (fun hk => c1 ⟨k, hk⟩)⟩
    · exact .inl (by simpa using k)

end Go.Proofs.YtfkekdpppcidbaaDoor
