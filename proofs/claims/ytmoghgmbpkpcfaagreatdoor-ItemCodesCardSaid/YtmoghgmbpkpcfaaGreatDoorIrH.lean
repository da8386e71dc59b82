/-
  Package postriderref04 (the document's answer for items): read, of all. Conditions: as the theorems' own hypotheses say.
-/
import Derived.Test.YtmoghgmbpkpcfaaGreatDoorIrG
import Derived.Test.YtmoghgmbpkpcfaaGreatDoorMgH
namespace Go.Proofs.YtmoghgmbpkpcfaaGreatDoor
open Go.RowKit Go.Shelf

theorem decV_nat (s : ByteArray) (a : Nat) : decV s (a : Int) = match decL (s.data.toList.drop a) with
    | .bad e => ((0, 0, 0), e)
    | .ok m n w => (((m : Int), (n : Int), (a : Int) + 1 + (w : Int)), 0) := by
  unfold decV
  by_cases h : (a : Int) < 0 ∨ (s.size : Int) ≤ (a : Int)
  · rw [if_pos h]
    have hl : s.data.toList.length = s.size := txt_list s
    rw [List.drop_eq_nil_of_le (by omega)]
    rfl
  · rw [if_neg h, Int.toNat_natCast]
    cases decL (s.data.toList.drop a) <;> rfl
theorem cut_at (s : ByteArray) (a n : Nat) : cutV s (a : Int) (n : Int) = if s.data.toList.length < a + n then (ByteArray.empty, 11) else (⟨((s.data.toList.drop a).take n).toArray⟩, 0) := by
  have hl : s.data.toList.length = s.size := txt_list s
  by_cases h : s.data.toList.length < a + n
  · rw [if_pos h, cutV, if_neg (fun q => by have := okWithin_iff.1 q; omega)]
  · rw [if_neg h, cutV, if_pos (okWithin_iff.2 (by omega))]
    congr 1
    apply ByteArray.ext
    rw [ByteArray.data_extract, show ((a : Int)).toNat = a by omega, show ((a : Int) + (n : Int)).toNat = a + n by omega]
    apply Array.toList_inj.1
    rw [Array.toList_extract, List.extract_eq_take_drop, Nat.add_sub_cancel_left]
theorem take_size (s : ByteArray) (a n : Nat) : (⟨((s.data.toList.drop a).take n).toArray⟩ : ByteArray).size ≤ n := by
  show (((s.data.toList.drop a).take n).toArray).size ≤ n
  rw [List.size_toArray, List.length_take]
  omega

theorem rread_any {p : Nat} {s : ByteArray} (hs : s.size ≤ 9223372036854775000) : ∀ (f c a : Nat) (D : Int) (w : World), D = 7 - (f : Int) → f ≤ 6 → c ≤ 60 → RdD w p s (c : Int) →
    Calls Tryz.prog 25 #[.pointer (some ⟨p, 0, none⟩), .int .i64 (a : Int), .int .i64 D] w (RtR f p s (readI s.data.toList f c a) w) := by
  have hl : s.data.toList.length = s.size := txt_list s
  have hs2 : s.size ≤ 9223372036854775807 := by omega
  intro f
  induction f with
  | zero =>
    intro c a D w hD hf hc h
    rw [readI]
    exact rread_over h hc (.inr (by omega))
  | succ f ih =>
    intro c a D w hD hf hc h
    rw [readI]
    by_cases h60 : 60 ≤ c
    · rw [if_pos h60]
      exact rread_over h hc (.inl h60)
    rw [if_neg h60]
    have hdv := decV_nat s a
    cases hd : decL (s.data.toList.drop a) with
    | bad e =>
      rw [hd] at hdv
      exact rread_bad h hs2 (by omega) (by omega) hdv (decL_er hd)
    | ok m n wd =>
      rw [hd] at hdv
      dsimp only at hdv ⊢
      obtain ⟨g1, g2, g3, g4, g5⟩ := head_dec hd
      have hroom : a + 1 + wd ≤ s.size := by
        have := g5
        rw [List.length_drop] at this
        omega
      have ha2 : (a : Int) + 1 + (wd : Int) = ((a + (1 + wd) : Nat) : Int) := by omega
      rw [ha2] at hdv
      by_cases h0 : m = 0
      · subst h0
        rw [if_pos rfl]
        exact rread_num h hs2 (by omega) (by omega) hdv
      rw [if_neg h0]
      by_cases h4 : m = 4
      · subst h4
        rw [if_pos rfl]
        exact rread_list h hs2 (by omega) (by omega) (by omega) hdv (by omega) fun c a D' W hD' hW hc => ih c a D' W (by omega) (by omega) hc hW
      rw [if_neg h4]
      have h23 : m = 2 ∨ m = 3 := by
        unfold okMajor at g1
        simp at g1
        omega
      have hcut := cut_at s (a + (1 + wd)) n
      by_cases hn : 600 < n
      · rw [if_pos hn]
        rcases h23 with rfl | rfl
        · exact rread_long2 h hs2 (by omega) (by omega) hdv (by omega)
        · exact rread_long3 h hs2 (by omega) (by omega) hdv (by omega)
      rw [if_neg hn]
      by_cases hsh : s.data.toList.length < a + (1 + wd) + n
      · rw [if_pos hsh]
        rw [if_pos hsh] at hcut
        rcases h23 with rfl | rfl
        · exact rread_short2 h hs2 (by omega) (by omega) hdv (by omega) (by omega) hcut (by omega)
        · exact rread_short3 h hs2 (by omega) (by omega) hdv (by omega) (by omega) hcut (by omega)
      rw [if_neg hsh]
      rw [if_neg hsh] at hcut
      have hz := take_size s (a + (1 + wd)) n
      rcases h23 with rfl | rfl
      · rw [if_neg (fun q => by cases q.1)]
        exact rread_bytes2 h hs2 (by omega) (by omega) hdv (by omega) (by omega) hcut (by omega)
      · by_cases hb : textB ((s.data.toList.drop (a + (1 + wd))).take n) = false
        · rw [if_pos ⟨rfl, hb⟩]
          exact rread_form h hs2 (by omega) (by omega) hdv (by omega) (by omega) hcut (by omega) hb
        · rw [if_neg (fun q => hb q.2)]
          exact rread_bytes3 h hs2 (by omega) (by omega) hdv (by omega) (by omega) hcut (by omega) (by simpa using hb)
theorem rread_top {p : Nat} {s : ByteArray} (hs : s.size ≤ 9223372036854775000) {a : Int} {w : World} (h : RdD w p s 0) :
    Calls Tryz.prog 25 #[.pointer (some ⟨p, 0, none⟩), .int .i64 a, .int .i64 1] w (RtR 6 p s (readA s a) w) := by
  unfold readA
  by_cases ha : a < 0
  · rw [if_pos ha]
    have hD : decV s a = ((0, 0, 0), 11) := by rw [decV, if_pos (.inl ha)]
    exact rread_bad (c := 0) h (by omega) (by omega) (by omega) hD (by omega)
  · rw [if_neg ha]
    obtain ⟨n, rfl⟩ := Int.eq_ofNat_of_zero_le (show 0 ≤ a by omega)
    exact rread_any hs 6 0 n 1 w (by omega) (by omega) (by omega) h

/-- What a call left, seen from ahead of the reader. -/
theorem RtG.top {f p : Nat} {s : ByteArray} {r : RR} {t : TV} {a er : Int} {w W w' : World} (h : RtG (f + 1) p s r t a er W w') (hb : Below w.heap.size w W) (hp : w.heap.size ≤ p) : r.top = (t.item, a, er) ∧ ItAt w'.heap.size w' t ∧ Over W.heap.size t ∧ Fits (f + 1) t ∧ Below w.heap.size w w' ∧ Besides p W w' := by
  cases r with
  | bad e =>
    obtain ⟨rfl, rfl, rfl, c, hc⟩ := h
    exact ⟨rfl, leaf_at _ _ _ _ _, leaf_over _ _ _ _, leaf_fits _ _ _ _ (by decide), hb.trans (hc.bes.below hp hb.size), hc.bes⟩
  | ok c a' x =>
    obtain ⟨rfl, rfl, rfl, hc, h1, h2, h3⟩ := h
    exact ⟨rfl, h1, h2, h3, hb.trans (hc.bes.below hp hb.size), hc.bes⟩

end Go.Proofs.YtmoghgmbpkpcfaaGreatDoor
