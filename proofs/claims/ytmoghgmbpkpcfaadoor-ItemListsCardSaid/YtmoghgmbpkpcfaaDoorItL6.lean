/-
  Package postriderlaw04: ItemLists. Conditions: as 'II' says.
-/
import Derived.Test.YtmoghgmbpkpcfaaDoorItL3
namespace Go.Proofs.YtmoghgmbpkpcfaaDoor
open Go.RowKit Go.Shelf

theorem bytesL_append (l m : List IN) : IN.bytesL (l ++ m) = IN.bytesL l ++ IN.bytesL m := by
  induction l with
  | nil => rfl
  | cons x l ih => rw [List.cons_append, IN.bytesL, IN.bytesL, ih, List.append_assoc]
theorem bytesL_succ {l : List IN} {k : Nat} (h : k < l.length) : IN.bytesL (l.take (k + 1)) = IN.bytesL (l.take k) ++ l[k].bytes := by
  rw [List.take_succ_eq_append_getElem h, bytesL_append]
  congr 1
  rw [IN.bytesL, IN.bytesL, List.append_nil]
theorem head4 {n : Nat} (h : n ≤ 60) : encV 4 (n : Int) = (⟨(headL 4 n).toArray⟩, 0) := by
  have h1 := (enc_one (k := 4) (n := 0) (s := ByteArray.empty) (m := n) (by rfl) (by omega)).1
  have e : argI 0 (ByteArray.empty).size n = (n : Int) := by unfold argI; rw [show (ByteArray.empty).size = 0 from rfl]; omega
  rw [e, Int.toNat_natCast] at h1
  exact h1
/-- What stands of a list's text. -/
def wantL (l : List IN) (k : Nat) : ByteArray := ⟨(headL 4 l.length ++ IN.bytesL (l.take k)).toArray⟩
theorem want_zero (l : List IN) : wantL l 0 = ⟨(headL 4 l.length).toArray⟩ := by rw [wantL, List.take_zero, IN.bytesL, List.append_nil]
theorem want_succ {l : List IN} {k : Nat} (h : k < l.length) : wantL l k ++ l[k].text = wantL l (k + 1) := by
  apply ByteArray.ext
  rw [ByteArray.data_append, ← Array.toList_inj, Array.toList_append]
  show (headL 4 l.length ++ IN.bytesL (l.take k)) ++ l[k].bytes = headL 4 l.length ++ IN.bytesL (l.take (k + 1))
  rw [bytesL_succ h, List.append_assoc]
theorem want_size (l : List IN) (k : Nat) : (wantL l k).size ≤ (headL 4 l.length ++ IN.bytesL l).length := by
  have e : ∀ X : List UInt8, (⟨X.toArray⟩ : ByteArray).size = X.length := fun X => by show X.toArray.size = _; simp
  rw [wantL, e, List.length_append, List.length_append]
  have : IN.bytesL l = IN.bytesL (l.take k) ++ IN.bytesL (l.drop k) := by rw [← bytesL_append, List.take_append_drop]
  rw [this, List.length_append]
  omega

set_option maxRecDepth 100000 in
set_option maxHeartbeats 4000000 in
theorem lItemLists (t : VT) {w : World} {A : Nat → Addr} {aN aW aS : Addr} (hI : II w A aN aW aS) (hv : VAt w.heap.size w 7 t) : Calls Tryd.prog 3 #[t.val] w (Ret (.bool true) w) := by
  have hX := Blk.new_ w 24 #[.int .i64 t.kind, .int .i64 t.num, .string t.txt, .slice t.at_ t.len t.cap]
  have hb0 := ext_new w (.cells #[.int .i64 t.kind, .int .i64 t.num, .string t.txt, .slice t.at_ t.len t.cap] 24)
  unfold VT.val VT.row
  go_enter Tryd.func3, Tryd.ntmps3
  go_wp2_with fail
  refine (shown_any (hI.below hb0)).mono ?_
  rintro e w1 ⟨rfl, hb1⟩
  have hX1 := hX.below hb1
  have hbB := ext_trans hb0 hb1
  have hC := ICut_any t w1 (hv.below hbB hbB.size)
  have hg1 := hX1.lt
  unfold VT.val VT.row at hC
  obtain ⟨c0, c1, c2, c3, -⟩ := hX1.c4
  clear hX hb0 hb1
  go_wp2_with fail
  refine hC.mono ?_
  rintro e w2 ⟨u, rfl, hu, ho⟩
  have hX2 := hX1.below hu.bel
  obtain ⟨d0, d1, d2, d3, f0, f1, f2, f3⟩ := hX2.c4
  have hX3 := blk_set4 hX2 (.int .i64 u.kind) (.int .i64 u.num) (.string u.txt) (.slice u.at_ u.kids.length u.cap)
  have hT3 := (hu.from hbB).set ho (show w.heap.size < w1.heap.size + 1 by omega) (Nat.le_refl _) (.int .i64 u.kind) (.int .i64 u.num) (.string u.txt) (.slice u.at_ u.kids.length u.cap)
  unfold TV.val TV.row
  clear hC c0 c1 c2 c3 hX1 hX2 hu ho hbB
  go_wp2_with fail
  obtain ⟨g0, g1, g2, g3, -⟩ := hX3.c4
  generalize hW3 : (((w2.setCell ⟨w.heap.size, 0, none⟩ (.int .i64 u.kind)).setCell ⟨w.heap.size, 1, none⟩ (.int .i64 u.num)).setCell ⟨w.heap.size, 2, none⟩ (.string u.txt)).setCell ⟨w.heap.size, 3, none⟩ (.slice u.at_ u.kids.length u.cap) = W3 at *
  have hE := Encode_tree u W3 A aN aW aS (hI.h.below hT3.bel) hT3.at_ hT3.fits
  have hxi := hT3.item
  unfold TV.val TV.row at hE
  rw [hxi] at hE
  have hbd := text_bound u
  have hfu := hT3.fits
  rw [hxi] at hbd
  have hxe : cutT 6 t = .mk u.kind u.num u.txt (TV.items u.kids) := by rw [← hxi]; exact u.item_eq
  generalize cutT 6 t = x at *
  refine hE.mono ?_
  rintro e w4 ⟨rfl, hb4⟩
  have hX4 := hX3.below hb4
  have hT4 := hT3.later hb4
  clear hE hb4 hX3 hT3 g0 g1 g2 g3 hW3
  obtain ⟨g0, g1, g2, g3, -⟩ := hX4.c4
  rcases bool_cases x.right with hr | hr
  · rw [enc_wrong hr]
    clear hbd hxe hxi
    dsimp only
    go_wp2_with fail
    go_ret
    exact ⟨rfl, hT4.bel⟩
  · rw [enc_right hr]
    replace hbd := hbd hr hfu
    dsimp only
    by_cases hk4 : u.kind = 4
    · rw [hk4] at hX4 g0 hxe
      have hr2 := hr
      rw [hxe] at hr2
      obtain ⟨hbytes, hn60⟩ := list_bytes hr2
      have hxt : x.text = wantL (TV.items u.kids) u.kids.length := by
        rw [IN.text, hxe, hbytes, wantL, ← items_length, List.take_length]
      have hwz : ∀ k, (wantL (TV.items u.kids) k).size ≤ 36540 := fun k => by
        have h1 := want_size (TV.items u.kids) k
        rw [← hbytes, ← hxe, ← IN.text_size] at h1
        omega
      rw [items_length] at hn60
      have hH := fun W h => Encode_any 4 (u.kids.length : Int) W A aN aW aS h
      rw [head4 hn60] at hH
      have hw0 := want_zero (TV.items u.kids)
      rw [items_length] at hw0
      have hright : ∀ (k : Nat) (h : k < u.kids.length), u.kids[k].item.right = true := fun k h => (right_kid (y := u.kids[k].item) hr2 (by show u.kids[k].item ∈ TV.items u.kids; rw [items_map]; exact List.mem_map_of_mem (List.getElem_mem h))).1
      rw [← hw0] at hH
      have HXT := Lib.hid hxt
      have HWZ := Lib.hid hwz
      have HRT := Lib.hid hright
      clear hr2 hbytes hw0 hxe hxi hxt hwz hright
      generalize hits : TV.items u.kids = its at *
      have hil : its.length = u.kids.length := by rw [← hits, items_length]
      have HIT := Lib.hid hits
      have HIL := Lib.hid hil
      clear hits hil
      go_wp2_with fail
      refine (hH _ (hI.h.below hT4.bel)).mono ?_
      rintro e w5 ⟨rfl, hb5⟩
      replace hX4 := hX4.below hb5
      replace hT4 := hT4.later hb5
      clear hH g0 g1 g2 g3 hb5
      dsimp only
      go_wp2_with fail
      go_loopw [2, 6, 8] (fun _ wv i wr => ∃ k : Nat, k ≤ u.kids.length ∧ i = .int .i64 (k : Int) ∧ wv = .string (wantL its k) ∧ Blk wr w.heap.size 24 #[.int .i64 4, .int .i64 u.num, .string u.txt, .slice u.at_ u.kids.length u.cap] ∧ IsT x 7 w wr u) (fun _ _ i _ => u.kids.length - (intOf i).toNat)
      case atStart => exact ⟨0, Nat.zero_le _, rfl, rfl, hX4, hT4⟩
      case round =>
        obtain ⟨k, hk, rfl, rfl, hX, hT⟩ := hrel
        by_cases hlt : k < u.kids.length
        · have i0 : (0 : Int) ≤ (k : Int) := by omega
          have i1 : (k : Int) < (u.kids.length : Int) := by omega
          have hmem := List.getElem_mem hlt
          have hfy := (hT.fits.kid.2.2 _ hmem).mono
          obtain ⟨ad, had, hblk, hc⟩ := hT.at_.row (by omega)
          obtain ⟨z0, z1, z2, z3⟩ := hc k hlt
          have hEy := Encode_tree u.kids[k] wr A aN aW aS (hI.h.below hT.bel) (hT.at_.kid _ hmem) hfy
          rw [enc_right (HRT.out k hlt)] at hEy
          have hgk : its[k]'(by rw [HIL.out]; exact hlt) = u.kids[k].item := by
            have h1 := HIT.out
            subst h1
            simp only [items_map, List.getElem_map]
          have hws := want_succ (l := its) (k := k) (by rw [HIL.out]; exact hlt)
          rw [hgk] at hws
          have HWS := Lib.hid hws
          have hz1 := HWZ.out k
          have hz2 := HWZ.out (k + 1)
          rw [← hws, ByteArray.size_append] at hz2
          rw [had] at hX
          obtain ⟨g0, g1, g2, g3, -⟩ := hX.c4
          unfold TV.row at z3
          unfold TV.val TV.row at hEy
          have HAD := Lib.hid had
          clear hc hmem hfy hws hgk had
          generalize u.kids[k] = y at *
          generalize y.item.text = ty at *
          generalize wantL its k = wk at *
          have hz3 : ¬ (9223372036854775807 < wk.size + ty.size) := by omega
          go_wp2_with fail
          refine hEy.mono ?_
          rintro e w6 ⟨rfl, hb6⟩
          have hX6 := hX.below hb6
          have hT6 := hT.later hb6
          clear hEy g0 g1 g2 g3 z0 z1 z2 z3
          go_wp2_with fail
          go_roundw
          case rel => exact ⟨k + 1, by omega, by go_num, by rw [HWS.out], by rw [HAD.out]; exact hX6, hT6⟩
          case measure => simp [intOf]; omega
        · obtain rfl : k = u.kids.length := by omega
          have i1 : ¬ ((u.kids.length : Int) < (u.kids.length : Int)) := by omega
          obtain ⟨g0, g1, g2, g3, -⟩ := hX.c4
          rw [HXT.out]
          generalize wantL its u.kids.length = wk at *
          go_wp2_with fail
          go_ret
          exact ⟨rfl, hT.bel⟩
    · have hk5 : (u.kind == 4) = false := beq_eq_false_iff_ne.2 hk4
      clear hbd hxe hxi
      go_wp2_with fail
      go_ret
      exact ⟨rfl, hT4.bel⟩

end Go.Proofs.YtmoghgmbpkpcfaaDoor
