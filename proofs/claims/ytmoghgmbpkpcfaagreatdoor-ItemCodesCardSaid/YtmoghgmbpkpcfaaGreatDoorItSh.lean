/-
  Package postriderlaw04: what all its laws begin with (shown). Conditions: as 'II' says.
-/
import Derived.Test.YtmoghgmbpkpcfaaGreatDoorItY
import Derived.Test.YtmoghgmbpkpcfaaGreatDoorItH
import Derived.Test.YtmoghgmbpkpcfaaGreatDoorItI
namespace Go.Proofs.YtmoghgmbpkpcfaaGreatDoor
open Go.RowKit Go.Shelf

theorem ad_pos (b : Addr) (j : Nat) (h : 0 < j) : b.add j = ⟨b.block, b.off + j, none⟩ := by
  unfold Addr.add
  rw [if_neg (by omega)]
theorem ad_nil (b : Addr) : b.add 0 = b := by
  unfold Addr.add
  rw [if_pos rfl]
def shS : ByteArray := ⟨#[130, 1, 101, 47, 47, 97, 47, 98]⟩
def shT : ByteArray := ⟨#[47, 47, 97, 47, 98]⟩
def shI : IN := .mk 4 0 ByteArray.empty [.mk 0 1 ByteArray.empty [], .mk 3 0 shT []]
theorem sh1 : wholeI shS = (shI, 0) := by kernel_rfl
theorem sh2 : encI shI = (shS, 0) := by kernel_rfl
theorem sh3 : wholeI ⟨#[97, 10]⟩ = (nilI, 20) := by kernel_rfl
theorem sh4 : encI (.mk 0 1 ⟨#[97]⟩ []) = (ByteArray.empty, 40) := by kernel_rfl
theorem sh5 : (decI ⟨#[97, 66, 98, 99]⟩ 1).2 = (4, 0) := by kernel_rfl
/-- The tree that is shown. -/
theorem sh_tree {t : TV} (h : t.item = shI) : ∃ n a c a0 c0 a1 c1, t = .mk 4 n ByteArray.empty a c [.mk 0 1 ByteArray.empty a0 c0 [], .mk 3 0 shT a1 c1 []] ∧ n = 0 := by
  obtain ⟨k, n, s, a, c, l⟩ := t
  rw [TV.item, shI, IN.mk.injEq] at h
  obtain ⟨rfl, rfl, rfl, h⟩ := h
  cases l with
  | nil => rw [TV.items] at h; cases h
  | cons x l =>
    cases l with
    | nil => rw [TV.items, TV.items] at h; injection h with _ h; cases h
    | cons y l =>
      cases l with
      | cons z l => rw [TV.items, TV.items, TV.items] at h; injection h with _ h; injection h with _ h; cases h
      | nil =>
        obtain ⟨k0, n0, s0, a0, c0, l0⟩ := x
        obtain ⟨k1, n1, s1, a1, c1, l1⟩ := y
        simp only [TV.items, TV.item, List.cons.injEq, IN.mk.injEq, and_true] at h
        obtain ⟨⟨rfl, rfl, rfl, h0⟩, ⟨rfl, rfl, rfl, h1⟩⟩ := h
        have e0 : l0 = [] := by cases l0 with | nil => rfl | cons x l => rw [TV.items] at h0; cases h0
        have e1 : l1 = [] := by cases l1 with | nil => rfl | cons x l => rw [TV.items] at h1; cases h1
        subst e0 e1
        exact ⟨_, _, _, _, _, _, _, rfl, rfl⟩
/-- The tree that is encoded. -/
def shE (b : Nat) : TV := .mk 4 0 ⟨#[]⟩ (some ⟨b, 0, none⟩) 2 [.mk 0 1 ⟨#[]⟩ none 0 [], .mk 3 0 shT none 0 []]
theorem shE_item (b : Nat) : (shE b).item = shI := rfl
theorem shE_at {W : World} {b : Nat} (h : Blk W b 24 #[.int .i64 0, .int .i64 1, .string ⟨#[]⟩, .slice none 0 0, .int .i64 3, .int .i64 0, .string ⟨#[47, 47, 97, 47, 98]⟩, .slice none 0 0]) : ItAt W.heap.size W (shE b) := by
  refine .mk (fun _ => ⟨⟨b, 0, none⟩, rfl, h.lt, fun i hi => ?_⟩) ?_
  · have hi2 : i < 2 := hi
    have ha : ∀ k : Nat, (⟨b, 0, none⟩ : Addr).add k = ⟨b, k, none⟩ := fun k => by unfold Addr.add; split <;> simp_all
    rw [ha, h.cell, h.cell, h.cell, h.cell]
    match i, hi2 with
    | 0, _ => exact ⟨rfl, rfl, rfl, rfl⟩
    | 1, _ => exact ⟨rfl, rfl, rfl, rfl⟩
  · intro x hx
    have h0 : ∀ (k n : Int) (s : ByteArray), ItAt W.heap.size W (.mk k n s none 0 []) := fun k n s => .mk (fun h => absurd h (Nat.lt_irrefl 0)) (by simp)
    rcases List.mem_cons.1 hx with rfl | hx
    · exact h0 _ _ _
    · rw [List.mem_singleton.1 hx]; exact h0 _ _ _
theorem leaf_fits (f : Nat) (k n : Int) (s : ByteArray) (hs : s.size ≤ 700) : Fits (f + 1) (.mk k n s none 0 []) := .mk (by simp) hs (by simp)
theorem leaf_at (D : Nat) (W : World) (k n : Int) (s : ByteArray) : ItAt D W (.mk k n s none 0 []) := .mk (fun h => absurd h (Nat.lt_irrefl 0)) (by simp)
theorem shE_fits (b : Nat) : Fits 7 (shE b) := .mk (by decide) (by decide) (by
  intro x hx
  rcases List.mem_cons.1 hx with rfl | hx
  · exact leaf_fits 5 _ _ _ (by decide)
  · rw [List.mem_singleton.1 hx]; exact leaf_fits 5 _ _ _ (by decide))

set_option maxRecDepth 100000 in
set_option maxHeartbeats 4000000 in
theorem shown_any {w : World} {A : Nat → Addr} {aN aW aS : Addr} (hI : II w A aN aW aS) : Calls Tryz.prog 4 #[] w (Ret (.bool true) w) := by
  have h1 := IWhole_any (s := shS) (by decide) hI
  rw [sh1] at h1
  unfold shS at h1
  go_enter Tryz.func4, Tryz.ntmps4
  go_wp2_with fail
  refine h1.mono ?_
  rintro e w1 ⟨t, rfl, ht⟩
  obtain ⟨n, a, c, a0, c0, a1, c1, rfl, rfl⟩ := sh_tree ht.item
  obtain ⟨ad, rfl, hblk, hc⟩ := ht.at_.row (show 0 < 2 by decide)
  have x1 : w1.cell? ⟨(ad.add (0 * 4)).block, (ad.add (0 * 4)).off + 1, none⟩ = some (.int .i64 1) := (hc 0 (show 0 < 2 by decide)).2.1
  have x2 : w1.cell? ⟨(ad.add (1 * 4)).block, (ad.add (1 * 4)).off + 2, none⟩ = some (.string ⟨#[47, 47, 97, 47, 98]⟩) := (hc 1 (show 1 < 2 by decide)).2.2.1
  have hb1 := ht.bel
  rw [show ∀ a : Addr, (TV.mk 4 0 ByteArray.empty (some a) c [TV.mk 0 1 ByteArray.empty a0 c0 [], TV.mk 3 0 shT a1 c1 []]).val = .agg #[.int .i64 4, .int .i64 0, .string ByteArray.empty, .slice (some a) 2 c] from fun _ => rfl]
  clear ht h1 hc
  go_wp2_with fail
  have hB2 := ext_alloc (ext_alloc hb1 (.cells #[.int .i64 4, .int .i64 0, .string ByteArray.empty, .slice (some ad) 2 c] 24)) (.cells #[.int .i64 0, .int .i64 1, .string ⟨#[]⟩, .slice none 0 0, .int .i64 3, .int .i64 0, .string ⟨#[47, 47, 97, 47, 98]⟩, .slice none 0 0] 24)
  have hX := (Blk.new_ w1 24 #[.int .i64 4, .int .i64 0, .string ByteArray.empty, .slice (some ad) 2 c]).alloc (.cells #[.int .i64 0, .int .i64 1, .string ⟨#[]⟩, .slice none 0 0, .int .i64 3, .int .i64 0, .string ⟨#[47, 47, 97, 47, 98]⟩, .slice none 0 0] 24)
  have hE := Blk.new_ (w1.alloc (.cells #[.int .i64 4, .int .i64 0, .string ByteArray.empty, .slice (some ad) 2 c] 24)) 24 #[.int .i64 0, .int .i64 1, .string ⟨#[]⟩, .slice none 0 0, .int .i64 3, .int .i64 0, .string ⟨#[47, 47, 97, 47, 98]⟩, .slice none 0 0]
  simp only [World.size_alloc] at hE
  have y1 := (ext_alloc (ext_new w1 (.cells #[.int .i64 4, .int .i64 0, .string ByteArray.empty, .slice (some ad) 2 c] 24)) (.cells #[.int .i64 0, .int .i64 1, .string ⟨#[]⟩, .slice none 0 0, .int .i64 3, .int .i64 0, .string ⟨#[47, 47, 97, 47, 98]⟩, .slice none 0 0] 24))
  refine (Encode_tree (shE (w1.heap.size + 1)) _ A aN aW aS (hI.h.below hB2) (shE_at hE) (shE_fits _)).mono ?_
  rw [shE_item, sh2]
  rintro e w2 ⟨rfl, hb2⟩
  have hB3 := ext_trans hB2 hb2
  have hX3 := hX.below hb2
  replace y1 := y1.trans (hb2.mono y1.size)
  clear hB2 hX hE hb2
  go_wp2_with fail
  refine (IWhole_any (s := ⟨#[97, 10]⟩) (by decide) (hI.below hB3)).mono ?_
  rw [sh3]
  rintro e w3 ⟨t3, rfl, ht3⟩
  have hB4 := ext_alloc (ext_trans hB3 ht3.bel) (.cells #[.int .i64 t3.kind, .int .i64 t3.num, .string t3.txt, t3.row] 24)
  have hX4 := (hX3.below ht3.bel).alloc (.cells #[.int .i64 t3.kind, .int .i64 t3.num, .string t3.txt, t3.row] 24)
  replace y1 := (y1.trans (ht3.bel.mono y1.size)).alloc (Nat.le_trans y1.size ht3.bel.size) (.cells #[.int .i64 t3.kind, .int .i64 t3.num, .string t3.txt, t3.row] 24)
  clear hB3 hX3 ht3
  unfold TV.val TV.row at *
  go_wp2_with fail
  refine (Encode_tree (.mk 0 1 ⟨#[97]⟩ none 0 []) _ A aN aW aS (hI.h.below hB4) (leaf_at _ _ _ _ _) (leaf_fits 6 _ _ _ (by decide))).mono ?_
  rw [show (TV.mk 0 1 ⟨#[97]⟩ none 0 []).item = .mk 0 1 ⟨#[97]⟩ [] from rfl, sh4]
  rintro e w4 ⟨rfl, hb4⟩
  have hB5 := ext_trans hB4 hb4
  have hX5 := hX4.below hb4
  replace y1 := y1.trans (hb4.mono y1.size)
  clear hB4 hX4 hb4
  go_wp2_with fail
  refine (IDecode_any (s := ⟨#[97, 66, 98, 99]⟩) 1 (by decide) (hI.below hB5)).mono ?_
  rw [sh5]
  rintro e w5 ⟨t5, rfl, ht5⟩
  have hB6 := ext_alloc (ext_trans hB5 ht5.bel) (.cells #[.int .i64 t5.kind, .int .i64 t5.num, .string t5.txt, t5.row] 24)
  have hX6 := (hX5.below ht5.bel).alloc (.cells #[.int .i64 t5.kind, .int .i64 t5.num, .string t5.txt, t5.row] 24)
  replace y1 := (y1.trans (ht5.bel.mono y1.size)).alloc (Nat.le_trans y1.size ht5.bel.size) (.cells #[.int .i64 t5.kind, .int .i64 t5.num, .string t5.txt, t5.row] 24)
  clear hB5 hX5 ht5
  unfold TV.val TV.row at *
  obtain ⟨z0, z1, z2, z3, -⟩ := hX6.c4
  have x1' := (y1.cell (by show (ad.add (0 * 4)).block < _; rw [ad_blk]; exact hblk)).trans x1
  have x2' := (y1.cell (by show (ad.add (1 * 4)).block < _; rw [ad_blk]; exact hblk)).trans x2
  rw [show shS = ⟨#[130, 1, 101, 47, 47, 97, 47, 98]⟩ from rfl]
  rw [Nat.zero_mul, ad_nil] at x1'
  rw [Nat.one_mul] at x2'
  have x3' := x2'
  rw [ad_pos ad 4 (by decide)] at x3'
  clear x1 x2 hX6 y1
  go_wp2_with fail
  go_ret
  exact ⟨rfl, hB6⟩

end Go.Proofs.YtmoghgmbpkpcfaaGreatDoor
