/-
  Package postriderlaw04: ItemWhole. Conditions: as 'II' says.
-/
import Derived.Test.YtmoghgmbpkpcfaaDoorItSh
namespace Go.Proofs.YtmoghgmbpkpcfaaDoor
open Go.RowKit Go.Shelf

/-- A text's first bytes. -/
def cutS (n : Nat) (s : ByteArray) : ByteArray := s.extract 0 (min s.size n)
theorem cutS_size (n : Nat) (s : ByteArray) : (cutS n s).size ≤ n := by rw [cutS, ByteArray.size_extract]; omega
theorem cutI_any (s : ByteArray) (w : World) (hs : s.size ≤ 9223372036854775807) : Calls Tryd.prog 16 #[.string s] w (Pure (.string (cutS 700 s)) w) := by
  have e : cutS 700 s = s.extract 0 (min (s.size : Int) 700).toNat := by rw [cutS, show (min (s.size : Int) 700).toNat = min s.size 700 by omega]
  rw [e]
  go_enter Tryd.func16, Tryd.ntmps16
  go_wp2
  all_goals
    go_ret
    exact ⟨by first | rfl | simp, rfl⟩
theorem same_self (t u : TV) (h : t.item = u.item) : t.item.same u.item = true := (IN.same_iff _ _).2 h
theorem whole_cases (s : ByteArray) : ((decI s 0).2.2 ≠ 0 ∧ wholeI s = (nilI, (decI s 0).2.2)) ∨ ((decI s 0).2.2 = 0 ∧ (decI s 0).2.1 = (s.size : Int) ∧ wholeI s = ((decI s 0).1, 0)) ∨ ((decI s 0).2.2 = 0 ∧ (decI s 0).2.1 ≠ (s.size : Int) ∧ wholeI s = (nilI, 20)) := by
  unfold wholeI
  by_cases h : (decI s 0).2.2 = 0
  · rw [if_pos h]
    by_cases h2 : (decI s 0).2.1 = (s.size : Int)
    · rw [if_pos h2]; exact .inr (.inl ⟨h, h2, rfl⟩)
    · rw [if_neg h2]; exact .inr (.inr ⟨h, h2, rfl⟩)
  · rw [if_neg h]; exact .inl ⟨h, rfl⟩

set_option maxRecDepth 100000 in
set_option maxHeartbeats 4000000 in
theorem lItemWhole (s : ByteArray) {w : World} {A : Nat → Addr} {aN aW aS : Addr} (hs : s.size ≤ 9223372036854775807) (hI : II w A aN aW aS) : Calls Tryd.prog 8 #[.string s] w (Ret (.bool true) w) := by
  have hz := cutS_size 700 s
  have hC := fun W => cutI_any s W hs
  have hW := whole_cases (cutS 700 s)
  generalize cutS 700 s = u at *
  have hD := fun (W : World) (h : II W A aN aW aS) => IDecode_any (s := u) 0 (by omega) h
  have hV := fun (W : World) (h : II W A aN aW aS) => IWhole_any (s := u) (by omega) h
  have hu : u.size ≤ 9223372036854775807 := by omega
  obtain ⟨⟨x, a, er⟩, hdec⟩ : ∃ p, decI u 0 = p := ⟨_, rfl⟩
  rw [hdec] at hW
  simp only [hdec] at hD
  clear hdec
  go_enter Tryd.func8, Tryd.ntmps8
  go_wp2_with fail
  refine (shown_any hI).mono ?_
  rintro e w1 ⟨rfl, hb1⟩
  go_wp2_with fail
  refine (hC _).mono ?_
  rintro e w2 ⟨rfl, rfl⟩
  go_wp2_with fail
  refine (hD _ (hI.below hb1)).mono ?_
  rintro e w3 ⟨t, rfl, ht⟩
  have hb3 := ext_trans hb1 ht.bel
  have hT := (Blk.new_ w3 24 #[.int .i64 t.kind, .int .i64 t.num, .string t.txt, .slice t.at_ t.kids.length t.cap])
  have hb4 := ext_alloc hb3 (.cells #[.int .i64 t.kind, .int .i64 t.num, .string t.txt, .slice t.at_ t.kids.length t.cap] 24)
  have ht4 := ht.later (ext_new w3 (.cells #[.int .i64 t.kind, .int .i64 t.num, .string t.txt, .slice t.at_ t.kids.length t.cap] 24))
  have hV4 := hV _ (hI.below hb4)
  unfold TV.val TV.row at *
  go_wp2_with fail
  refine hV4.mono ?_
  rintro e w5 ⟨y, rfl, hy⟩
  have hb5 := ext_alloc (ext_trans hb4 hy.bel) (.cells #[.int .i64 y.kind, .int .i64 y.num, .string y.txt, .slice y.at_ y.kids.length y.cap] 24)
  have hT5 := (hT.below hy.bel).alloc (.cells #[.int .i64 y.kind, .int .i64 y.num, .string y.txt, .slice y.at_ y.kids.length y.cap] 24)
  have hY5 := Blk.new_ w5 24 #[.int .i64 y.kind, .int .i64 y.num, .string y.txt, .slice y.at_ y.kids.length y.cap]
  have ht5 := (ht4.later hy.bel).later (ext_new w5 (.cells #[.int .i64 y.kind, .int .i64 y.num, .string y.txt, .slice y.at_ y.kids.length y.cap] 24))
  have hy5 := hy.later (ext_new w5 (.cells #[.int .i64 y.kind, .int .i64 y.num, .string y.txt, .slice y.at_ y.kids.length y.cap] 24))
  have hSame := same_any t 6 ht.fits y 6 hy.fits
  clear hV hD hC hV4 ht hy ht4 hT
  obtain ⟨a0, a1, a2, a3, -⟩ := hT5.c4
  obtain ⟨b0, b1, b2, b3, -⟩ := hY5.c4
  rcases hW with ⟨h1, h2⟩ | ⟨h1, h3, h2⟩ | ⟨h1, h3, h2⟩
  · rw [h2]
    have h1' : er ≠ 0 := h1
    go_wp2_with fail
    go_ret
    exact ⟨rfl, hb5⟩
  · have h1' : er = 0 := h1
    have h3' : a = (u.size : Int) := h3
    subst h1' h3'
    rw [h2] at hy5 ⊢
    have hS := hSame _ ht5.at_ hy5.at_
    rw [same_self t y (by rw [ht5.item, hy5.item])] at hS
    unfold TV.val TV.row at hS
    dsimp only
    go_wp2_with fail
    refine hS.mono ?_
    rintro e w6 ⟨rfl, hb6⟩
    go_wp2_with fail
    go_ret
    exact ⟨rfl, ext_trans hb5 hb6⟩
  · have h1' : er = 0 := h1
    have h3' : a ≠ (u.size : Int) := h3
    have h4 : (a == (u.size : Int)) = false := beq_eq_false_iff_ne.2 h3'
    subst h1'
    rw [h2]
    dsimp only
    go_wp2_with fail
    go_ret
    exact ⟨rfl, hb5⟩

end Go.Proofs.YtmoghgmbpkpcfaaDoor
