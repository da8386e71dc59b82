/-
  Package item: a reader's item, whole. Conditions: head's and nums' listed variables hold what 'HInv' says. Package item: what is told of an error (told, first). Conditions: errors.errorType holds the handle of the type error ('SInv'). Package item: Decode. Conditions: head's and nums' listed variables hold what 'HInv' says, errors.errorType holds the handle of the type error ('SInv'). Package item: the first error of two. Conditions: as the theorems' own hypotheses say. Package item: Whole. Conditions: head's and nums' listed variables hold what 'HInv' says, errors.errorType holds the handle of the type error ('SInv').
-/
import Derived.Test.YtmoghgmbpkpcfaaGreatDoorItU
import Derived.StillTailTactics
namespace Go.Proofs.YtmoghgmbpkpcfaaGreatDoor
open Go.RowKit Go.Shelf

theorem decV_bad {s : ByteArray} {a : Nat} {e : Int} (h : decL (s.data.toList.drop a) = .bad e) : decV s (a : Int) = ((0, 0, 0), e) := by
  unfold decV
  by_cases ho : (a : Int) < 0 ∨ (s.size : Int) ≤ (a : Int)
  · rw [if_pos ho]
    rw [List.drop_eq_nil_of_le (by rw [txt_list]; omega)] at h
    have h2 : HeadR.bad 11 = .bad e := h
    injection h2 with h2
    rw [h2]
  · rw [if_neg ho, Int.toNat_natCast, h]
theorem decV_ok {s : ByteArray} {a m n w : Nat} (h : decL (s.data.toList.drop a) = .ok m n w) : decV s (a : Int) = (((m : Int), (n : Int), ((a + (1 + w) : Nat) : Int)), 0) := by
  unfold decV
  by_cases ho : (a : Int) < 0 ∨ (s.size : Int) ≤ (a : Int)
  · rw [List.drop_eq_nil_of_le (by rw [txt_list]; omega)] at h
    cases h
  · rw [if_neg ho, Int.toNat_natCast, h]
    show (((m : Int), (n : Int), (a : Int) + 1 + (w : Int)), (0 : Int)) = _
    rw [show ((a + (1 + w) : Nat) : Int) = (a : Int) + 1 + (w : Int) by omega]
/-- A piece of a text. -/
def pieceB (s : ByteArray) (a n : Nat) : ByteArray := ⟨((s.data.toList.drop a).take n).toArray⟩
theorem piece_list (s : ByteArray) (a n : Nat) : (pieceB s a n).data.toList = (s.data.toList.drop a).take n := rfl
theorem cut_no {s : ByteArray} {a n : Nat} (h : s.size < a + n) : cutV s (a : Int) (n : Int) = (ByteArray.empty, 11) := cutV_no (by
  unfold okWithin
  by_cases h1 : (a : Int) ≤ (s.size : Int)
  · rw [decide_eq_false (p := (n : Int) ≤ (s.size : Int) - (a : Int)) (by omega), Bool.and_false]
  · rw [decide_eq_false h1, Bool.and_false, Bool.false_and, Bool.false_and])
theorem cut_go {s : ByteArray} {a n : Nat} (h : a + n ≤ s.size) : cutV s (a : Int) (n : Int) = (pieceB s a n, 0) := by
  rw [cutV_ok (by unfold okWithin; rw [decide_eq_true (by omega), decide_eq_true (by omega), decide_eq_true (by omega), decide_eq_true (by omega)]; rfl)]
  congr 1
  apply ByteArray.ext
  rw [← Array.toList_inj, piece_list]
  rw [ByteArray.data_extract, Array.toList_extract, List.extract_eq_take_drop, Int.toNat_natCast, show ((a : Int) + (n : Int)).toNat = a + n by omega, Nat.add_sub_cancel_left]
theorem size_piece {s : ByteArray} {a n : Nat} (hn : n ≤ 600) : (pieceB s a n).size ≤ 700 := by
  rw [← txt_list, piece_list, List.length_take]; omega

theorem leafR {f p : Nat} {s : ByteArray} {c a : Nat} {k n : Int} {t : ByteArray} {w w' : World} {e : Ending} (ht : t.size ≤ 700) (he : e = .returned (.tuple #[(TV.mk k n t none 0 []).val, .nilIface])) (hr : RdEnd p s (a : Int) (c : Int) w w') :
    ItR (f + 1) p s (.ok c a (.mk k n t [])) w e w' :=
  ⟨TV.mk k n t none 0 [], .nilIface, he, rfl, rfl, hr, .mk (fun h => by simp at h) (by simp), .mk (fun _ _ h => by simp at h) (by simp), .mk (by simp) ht (by simp)⟩
theorem failR {f p : Nat} {s : ByteArray} {k n er a c : Int} {t : ByteArray} {w w' : World} {e : Ending} (he : e = .returned (.tuple #[(TV.mk k n t none 0 []).val, WrV er])) (hr : RdEnd p s a c w w') :
    ItR f p s (.bad er) w e w' := ⟨TV.mk k n t none 0 [], WrV er, he, rfl, _, _, hr⟩

set_option maxHeartbeats 1000000 in
theorem item_any {p : Nat} {s : ByteArray} {A : Nat → Addr} {aN aW aS : Addr} (hs : s.size ≤ 9223372036854775807) (f : Nat) : ∀ (c a : Nat) (d : Int) (w : World), d = 7 - (f : Int) → f ≤ 6 → RdA w p s (a : Int) (c : Int) → HIp p w A aN aW aS → c ≤ 60 →
    Calls Tryz.prog 23 #[.pointer (some ⟨p, 0, none⟩), .int .i64 d] w (ItR f p s (readI s.data.toList f c a) w) := by
  induction f with
  | zero =>
    intro c a d w hd hf h hI hc
    rw [readI]
    exact item_no h fun W hW _ => begin_over hW (by omega) (.inr (by omega))
  | succ f ih =>
    intro c a d w hd hf h hI hc
    rw [readI]
    by_cases h60 : 60 ≤ c
    · rw [if_pos h60]
      exact item_no h fun W hW _ => begin_over hW (by omega) (.inl h60)
    · rw [if_neg h60]
      rcases hdec : decL (s.data.toList.drop a) with e | ⟨m, n, wd⟩
      · exact item_no h fun W hW hb => begin_no hW (hI.bes hb) hs (by omega) (by omega) (decV_bad hdec) (by rcases dec_bad hdec with q | q | q <;> omega)
      · obtain ⟨hM, hN, -⟩ := head_dec hdec
        have hV := decV_ok hdec
        have hB : ∀ W, RdA W p s (a : Int) (c : Int) → Besides p w W → Calls Tryz.prog 36 #[.pointer (some ⟨p, 0, none⟩), .int .i64 d] W fun e' w' => e' = .returned (.tuple #[.int .i64 (m : Int), .int .i64 (n : Int), .nilIface]) ∧ RdEnd p s ((a + (1 + wd) : Nat) : Int) ((c : Int) + 1) W w' :=
          fun W hW hb => begin_go hW (hI.bes hb) hs (by omega) (by omega) hV
        have hc1 : ((c : Int) + 1) = ((c + 1 : Nat) : Int) := by omega
        dsimp only
        generalize a + (1 + wd) = a' at *
        rw [txt_list]
        obtain rfl | rfl | rfl | rfl := okMajor_iff.1 hM
        · rw [if_pos rfl]
          refine item_0 h hB fun W hr => ?_
          refine (number_any hr.rd).mono ?_
          rintro e w' ⟨he, hr'⟩
          rw [hc1] at hr'
          exact leafR (by simp) he hr'
        · rw [if_neg (by omega), if_neg (by omega)]
          refine item_2 h hB fun W hr => ?_
          by_cases h6 : 600 < n
          · rw [if_pos h6]
            refine (bytes_long hr.rd (by omega)).mono ?_
            rintro e w' ⟨he, hr'⟩
            exact failR he hr'
          · rw [if_neg h6]
            by_cases hl : s.size < a' + n
            · rw [if_pos hl]
              refine (bytes_no hr.rd (hI.bes hr.bes) hs (by omega) (by omega) (cut_no hl) (by omega)).mono ?_
              rintro e w' ⟨he, hr'⟩
              exact failR he hr'
            · rw [if_neg hl, if_neg (fun q => by omega)]
              refine (bytes_go hr.rd (hI.bes hr.bes) hs (by omega) (by omega) (cut_go (by omega)) (by omega) (by omega)).mono ?_
              rintro e w' ⟨he, hr'⟩
              rw [hc1, show (a' : Int) + (n : Int) = ((a' + n : Nat) : Int) by omega] at hr'
              exact leafR (size_piece (by omega)) he hr'
        · rw [if_neg (by omega), if_neg (by omega)]
          refine item_3 h hB fun W hr => ?_
          by_cases h6 : 600 < n
          · rw [if_pos h6]
            refine (words_no hr.rd fun W' hW' hb' => bytes_long hW' (by omega)).mono ?_
            rintro e w' ⟨he, hr'⟩
            exact failR he hr'
          · rw [if_neg h6]
            by_cases hl : s.size < a' + n
            · rw [if_pos hl]
              refine (words_no hr.rd fun W' hW' hb' => bytes_no hW' ((hI.bes hr.bes).bes hb') hs (by omega) (by omega) (cut_no hl) (by omega)).mono ?_
              rintro e w' ⟨he, hr'⟩
              exact failR he hr'
            · rw [if_neg hl]
              have hg := fun W' (hW' : RdA W' p s (a' : Int) ((c : Int) + 1)) hb' => bytes_go (d := d) hW' ((hI.bes hr.bes).bes hb') hs (show (0 : Int) ≤ (n : Int) by omega) (by omega) (cut_go (show a' + n ≤ s.size by omega)) (by omega) (by omega)
              by_cases ht : textB ((s.data.toList.drop a').take n) = false
              · rw [if_pos ⟨rfl, ht⟩]
                refine (words_form hr.rd ht hg).mono ?_
                rintro e w' ⟨he, hr'⟩
                exact failR he hr'
              · rw [if_neg (fun q => ht q.2)]
                refine (words_go hr.rd (by rw [piece_list]; simpa using ht) hg).mono ?_
                rintro e w' ⟨he, hr'⟩
                rw [hc1, show (a' : Int) + (n : Int) = ((a' + n : Nat) : Int) by omega] at hr'
                exact leafR (size_piece (by omega)) he hr'
        · rw [if_neg (by omega), if_pos rfl]
          refine item_4 h hB fun W hr => ?_
          have hr0 := hr
          rw [hc1] at hr
          exact list_any hr.rd (hI.bes hr.bes) (by omega) hN (by omega) (by omega) fun c2 a2 W2 hW2 hI2 hc2 => ih c2 a2 (d + 1) W2 (by omega) (by omega) hW2 hI2 hc2

end Go.Proofs.YtmoghgmbpkpcfaaGreatDoor

namespace Go.Proofs.YtmoghgmbpkpcfaaGreatDoor
open Go.RowKit Go.Shelf

/-- errors.errorType holds the handle of the type error. -/
def SInv (w : World) : Prop := w.cell? ⟨4, 0, none⟩ = some (.iface 143 (.agg #[.pointer (some ⟨9, 48, none⟩)]))
theorem SInv.below {w w' : World} (h : SInv w) (hb : Below w.heap.size w w') : SInv w' := by
  unfold SInv at h ⊢
  rw [World.cell?_of_block (hb.block _ (cell_lt h))]; exact h
theorem below_drewN' {B : Nat} {a w : World} (h : Below B a w) (n : Nat) : Below B a (w.drewN n) := ⟨h.os, h.tape, h.output, h.size, h.block⟩

theorem ret_item3 {fn : Func} {pt u v : Tmp} (h : fn.results = #[.cell pt 24, .tmp u, .tmp v]) {tmps : Array Value} {W : World} {g : Nat} {a0 a1 a2 a3 : Value} (hp : tmps.getD pt undef = .pointer (some ⟨g, 0, none⟩)) (hB : Blk W g 24 #[a0, a1, a2, a3]) :
    (results fn tmps).run Tryz.prog W = .ok (.tuple #[.agg #[a0, a1, a2, a3], tmps.getD u undef, tmps.getD v undef]) W := by
  have hp' : tmps[pt]?.getD undef = .pointer (some ⟨g, 0, none⟩) := by simpa using hp
  simp only [results, h]
  simp [Result.andThen, hp', asAddr, load_item hB]

theorem blk_other4 {w : World} {g g' : Nat} {t : TypeId} {cs : Array Value} (h : Blk w g t cs) (hn : g ≠ g') (u0 u1 u2 u3 : Value) :
    Blk ((((w.setCell ⟨g', 0, none⟩ u0).setCell ⟨g', 1, none⟩ u1).setCell ⟨g', 2, none⟩ u2).setCell ⟨g', 3, none⟩ u3) g t cs := (((h.set_other hn 0 u0).set_other hn 1 u1).set_other hn 2 u2).set_other hn 3 u3
theorem below_set4 {B g : Nat} {a w : World} (h : Below B a w) (hg : B ≤ g) (u0 u1 u2 u3 : Value) :
    Below B a ((((w.setCell ⟨g, 0, none⟩ u0).setCell ⟨g, 1, none⟩ u1).setCell ⟨g, 2, none⟩ u2).setCell ⟨g, 3, none⟩ u3) := by
  have h1 : Below B a (w.setCell ⟨g, 0, none⟩ u0) := h.setCell (show B ≤ (⟨g, 0, none⟩ : Addr).block from hg) u0
  have h2 : Below B a ((w.setCell ⟨g, 0, none⟩ u0).setCell ⟨g, 1, none⟩ u1) := h1.setCell (show B ≤ (⟨g, 1, none⟩ : Addr).block from hg) u1
  have h3 : Below B a (((w.setCell ⟨g, 0, none⟩ u0).setCell ⟨g, 1, none⟩ u1).setCell ⟨g, 2, none⟩ u2) := h2.setCell (show B ≤ (⟨g, 2, none⟩ : Addr).block from hg) u2
  exact h3.setCell (show B ≤ (⟨g, 3, none⟩ : Addr).block from hg) u3

set_option maxRecDepth 100000 in
set_option maxHeartbeats 1000000 in
theorem told_wr (a0 a1 n er : Int) (a2 : ByteArray) (A : Option Addr) (l c : Nat) (w : World) (h : SInv w) :
    Calls Tryz.prog 24 #[.agg #[.int .i64 a0, .int .i64 a1, .string a2, .slice A l c, .int .i64 n], WrV er] w (Ret (.tuple #[.agg #[.int .i64 0, .int .i64 0, .string ByteArray.empty, .slice none 0 0], .int .i64 0, .int .i64 er]) w) := by
  have hb3 := ext_alloc (ext_alloc (ext_alloc (ext_new w (.cells #[.int .i64 a0, .int .i64 a1, .string a2, .slice A l c, .int .i64 n] 62)) (.cells #[.int .i64 0, .int .i64 0, .string ⟨#[]⟩, .slice none 0 0] 24)) (.cells #[.int .i64 0, .int .i64 0, .string ⟨#[]⟩, .slice none 0 0] 24)) (.cells #[.int .i64 0] 68)
  have h4 := h.below hb3
  unfold SInv at h4
  go_enter Tryz.func24, Tryz.ntmps24
  go_wp2_with fail
  have hE0 := Blk.new_ (((w.alloc (.cells #[.int .i64 a0, .int .i64 a1, .string a2, .slice A l c, .int .i64 n] 62)).alloc (.cells #[.int .i64 0, .int .i64 0, .string ⟨#[]⟩, .slice none 0 0] 24)).alloc (.cells #[.int .i64 0, .int .i64 0, .string ⟨#[]⟩, .slice none 0 0] 24)) 68 #[.int .i64 0]
  simp only [World.size_alloc] at hE0
  refine (as_hit er ⟨w.heap.size + 1 + 1 + 1, 0, none⟩ (.int .i64 0) _ h4 hE0.c1.1 hE0.c1.2).mono ?_
  rintro e w1 ⟨rfl, w2, hb, rfl⟩
  have hN := ((Blk.new_ ((w.alloc (.cells #[.int .i64 a0, .int .i64 a1, .string a2, .slice A l c, .int .i64 n] 62)).alloc (.cells #[.int .i64 0, .int .i64 0, .string ⟨#[]⟩, .slice none 0 0] 24)) 24 #[.int .i64 0, .int .i64 0, .string ⟨#[]⟩, .slice none 0 0]).alloc (.cells #[.int .i64 0] 68)).below hb
  have hR := (((Blk.new_ (w.alloc (.cells #[.int .i64 a0, .int .i64 a1, .string a2, .slice A l c, .int .i64 n] 62)) 24 #[.int .i64 0, .int .i64 0, .string ⟨#[]⟩, .slice none 0 0]).alloc (.cells #[.int .i64 0, .int .i64 0, .string ⟨#[]⟩, .slice none 0 0] 24)).alloc (.cells #[.int .i64 0] 68)).below hb
  have hE := (Blk.new_ (((w.alloc (.cells #[.int .i64 a0, .int .i64 a1, .string a2, .slice A l c, .int .i64 n] 62)).alloc (.cells #[.int .i64 0, .int .i64 0, .string ⟨#[]⟩, .slice none 0 0] 24)).alloc (.cells #[.int .i64 0, .int .i64 0, .string ⟨#[]⟩, .slice none 0 0] 24)) 68 #[.int .i64 0]).below hb
  have hE2 := hE.set_ 0 (.int .i64 er)
  have b5 := ext_trans hb3 hb
  simp only [World.size_alloc] at hN hR hE hE2
  have hN2 := hN.set_other (show w.heap.size + 1 + 1 ≠ w.heap.size + 1 + 1 + 1 by omega) 0 (.int .i64 er)
  have hR2 := hR.set_other (show w.heap.size + 1 ≠ w.heap.size + 1 + 1 + 1 by omega) 0 (.int .i64 er)
  have b6 : Below w.heap.size w (w2.setCell ⟨w.heap.size + 1 + 1 + 1, 0, none⟩ (.int .i64 er)) := b5.setCell (by simp; omega) _
  simp only [List.setIfInBounds_toArray, List.set_cons_zero] at hE2
  clear hN hR hE b5
  generalize w2.setCell ⟨w.heap.size + 1 + 1 + 1, 0, none⟩ (.int .i64 er) = W at *
  obtain ⟨z0, z1, z2, z3, v0, v1, v2, v3⟩ := hN2.c4
  obtain ⟨x0, -⟩ := hE2.c1
  go_wp2_with fail
  obtain ⟨y0, y1, y2, y3, u0, u1, u2, u3⟩ := hR2.c4
  have n1 : w.heap.size + 1 + 1 ≠ w.heap.size + 1 := by omega
  have n2 : w.heap.size + 1 + 1 + 1 ≠ w.heap.size + 1 := by omega
  have hN4 : Blk ((((W.setCell ⟨w.heap.size + 1, 0, none⟩ (.int .i64 0)).setCell ⟨w.heap.size + 1, 1, none⟩ (.int .i64 0)).setCell ⟨w.heap.size + 1, 2, none⟩ (.string ⟨#[]⟩)).setCell ⟨w.heap.size + 1, 3, none⟩ (.slice none 0 0)).drew (w.heap.size + 1 + 1) _ _ := blk_other4 hN2 n1 (.int .i64 0) (.int .i64 0) (.string ⟨#[]⟩) (.slice none 0 0)
  have hE4 : Blk ((((W.setCell ⟨w.heap.size + 1, 0, none⟩ (.int .i64 0)).setCell ⟨w.heap.size + 1, 1, none⟩ (.int .i64 0)).setCell ⟨w.heap.size + 1, 2, none⟩ (.string ⟨#[]⟩)).setCell ⟨w.heap.size + 1, 3, none⟩ (.slice none 0 0)).drew (w.heap.size + 1 + 1 + 1) _ _ := blk_other4 hE2 n2 (.int .i64 0) (.int .i64 0) (.string ⟨#[]⟩) (.slice none 0 0)
  have hR4 : Blk ((((W.setCell ⟨w.heap.size + 1, 0, none⟩ (.int .i64 0)).setCell ⟨w.heap.size + 1, 1, none⟩ (.int .i64 0)).setCell ⟨w.heap.size + 1, 2, none⟩ (.string ⟨#[]⟩)).setCell ⟨w.heap.size + 1, 3, none⟩ (.slice none 0 0)).drew (w.heap.size + 1) _ _ := blk_set4 hR2 (.int .i64 0) (.int .i64 0) (.string ⟨#[]⟩) (.slice none 0 0)
  have b7 := (below_set4 b6 (show w.heap.size ≤ w.heap.size + 1 by omega) (.int .i64 0) (.int .i64 0) (.string ⟨#[]⟩) (.slice none 0 0)).drew
  obtain ⟨t0, t1, t2, t3, -, -, -, -⟩ := hN4.c4
  obtain ⟨s0, -⟩ := hE4.c1
  go_region_held3 (fun V : World => (V.cell? ⟨w.heap.size + 1 + 1, 0, none⟩ = some (.int .i64 0) ∧ V.cell? ⟨w.heap.size + 1 + 1, 1, none⟩ = some (.int .i64 0) ∧ V.cell? ⟨w.heap.size + 1 + 1, 2, none⟩ = some (.string ⟨#[]⟩) ∧ V.cell? ⟨w.heap.size + 1 + 1, 3, none⟩ = some (.slice none 0 0)) ∧ V.cell? ⟨w.heap.size + 1 + 1 + 1, 0, none⟩ = some (.int .i64 er)) (first | with_reducible exact ⟨⟨t0, t1, t2, t3⟩, s0⟩ | exact ⟨⟨z0, z1, z2, z3⟩, x0⟩) (fail)
  clear t0 t1 t2 t3 s0 z0 z1 z2 z3 x0 y0 y1 y2 y3 u0 u1 u2 u3 v0 v1 v2 v3
  generalize ((((W.setCell ⟨w.heap.size + 1, 0, none⟩ (.int .i64 0)).setCell ⟨w.heap.size + 1, 1, none⟩ (.int .i64 0)).setCell ⟨w.heap.size + 1, 2, none⟩ (.string ⟨#[]⟩)).setCell ⟨w.heap.size + 1, 3, none⟩ (.slice none 0 0)).drew = WF at *
  go_wp2_with fail
  exact bodyPost_ret (v := _) (ret_item3 (pt := 4) (u := 5) (v := 6) (by kernel_rfl) rfl hR4) rfl ⟨rfl, b7⟩

set_option maxRecDepth 100000 in
set_option maxHeartbeats 1000000 in
theorem told_ok (a0 a1 n : Int) (a2 : ByteArray) (A : Option Addr) (l c : Nat) (w : World) :
    Calls Tryz.prog 24 #[.agg #[.int .i64 a0, .int .i64 a1, .string a2, .slice A l c, .int .i64 n], .nilIface] w (Ret (.tuple #[.agg #[.int .i64 a0, .int .i64 a1, .string a2, .slice A l c], .int .i64 n, .int .i64 0]) w) := by
  have b6 := ext_alloc (ext_alloc (ext_alloc (ext_new w (.cells #[.int .i64 a0, .int .i64 a1, .string a2, .slice A l c, .int .i64 n] 62)) (.cells #[.int .i64 0, .int .i64 0, .string ⟨#[]⟩, .slice none 0 0] 24)) (.cells #[.int .i64 0, .int .i64 0, .string ⟨#[]⟩, .slice none 0 0] 24)) (.cells #[.int .i64 0] 68)
  have hA2 := (((Blk.new_ w 62 #[.int .i64 a0, .int .i64 a1, .string a2, .slice A l c, .int .i64 n]).alloc (.cells #[.int .i64 0, .int .i64 0, .string ⟨#[]⟩, .slice none 0 0] 24)).alloc (.cells #[.int .i64 0, .int .i64 0, .string ⟨#[]⟩, .slice none 0 0] 24)).alloc (.cells #[.int .i64 0] 68)
  have hR2 := ((Blk.new_ (w.alloc (.cells #[.int .i64 a0, .int .i64 a1, .string a2, .slice A l c, .int .i64 n] 62)) 24 #[.int .i64 0, .int .i64 0, .string ⟨#[]⟩, .slice none 0 0]).alloc (.cells #[.int .i64 0, .int .i64 0, .string ⟨#[]⟩, .slice none 0 0] 24)).alloc (.cells #[.int .i64 0] 68)
  simp only [World.size_alloc] at hR2
  go_enter Tryz.func24, Tryz.ntmps24
  go_wp2_with fail
  refine (as_nil _ _).mono ?_
  rintro e w1 ⟨rfl, rfl⟩
  generalize (((w.alloc (.cells #[.int .i64 a0, .int .i64 a1, .string a2, .slice A l c, .int .i64 n] 62)).alloc (.cells #[.int .i64 0, .int .i64 0, .string ⟨#[]⟩, .slice none 0 0] 24)).alloc (.cells #[.int .i64 0, .int .i64 0, .string ⟨#[]⟩, .slice none 0 0] 24)).alloc (.cells #[.int .i64 0] 68) = W at *
  obtain ⟨x0, x1, x2, x3, x4, -⟩ := hA2.c5
  obtain ⟨y0, y1, y2, y3, u0, u1, u2, u3⟩ := hR2.c4
  have n1 : w.heap.size ≠ w.heap.size + 1 := by omega
  go_wp2_with fail
  have hA4 : Blk ((((W.setCell ⟨w.heap.size + 1, 0, none⟩ (.int .i64 a0)).setCell ⟨w.heap.size + 1, 1, none⟩ (.int .i64 a1)).setCell ⟨w.heap.size + 1, 2, none⟩ (.string a2)).setCell ⟨w.heap.size + 1, 3, none⟩ (.slice A l c)).drew w.heap.size _ _ := blk_other4 hA2 n1 (.int .i64 a0) (.int .i64 a1) (.string a2) (.slice A l c)
  have hR4 : Blk ((((W.setCell ⟨w.heap.size + 1, 0, none⟩ (.int .i64 a0)).setCell ⟨w.heap.size + 1, 1, none⟩ (.int .i64 a1)).setCell ⟨w.heap.size + 1, 2, none⟩ (.string a2)).setCell ⟨w.heap.size + 1, 3, none⟩ (.slice A l c)).drew (w.heap.size + 1) _ _ := blk_set4 hR2 (.int .i64 a0) (.int .i64 a1) (.string a2) (.slice A l c)
  have b7 := (below_set4 b6 (show w.heap.size ≤ w.heap.size + 1 by omega) (.int .i64 a0) (.int .i64 a1) (.string a2) (.slice A l c)).drew
  obtain ⟨t0, t1, t2, t3, t4, -⟩ := hA4.c5
  go_region_held3 (fun V : World => (V.cell? ⟨w.heap.size, 0, none⟩ = some (.int .i64 a0) ∧ V.cell? ⟨w.heap.size, 1, none⟩ = some (.int .i64 a1) ∧ V.cell? ⟨w.heap.size, 2, none⟩ = some (.string a2) ∧ V.cell? ⟨w.heap.size, 3, none⟩ = some (.slice A l c)) ∧ V.cell? ⟨w.heap.size, 4, none⟩ = some (.int .i64 n)) (first | with_reducible exact ⟨⟨t0, t1, t2, t3⟩, t4⟩ | exact ⟨⟨x0, x1, x2, x3⟩, x4⟩) (fail)
  clear t0 t1 t2 t3 t4 x0 x1 x2 x3 x4 y0 y1 y2 y3 u0 u1 u2 u3
  generalize ((((W.setCell ⟨w.heap.size + 1, 0, none⟩ (.int .i64 a0)).setCell ⟨w.heap.size + 1, 1, none⟩ (.int .i64 a1)).setCell ⟨w.heap.size + 1, 2, none⟩ (.string a2)).setCell ⟨w.heap.size + 1, 3, none⟩ (.slice A l c)).drew = WF at *
  go_wp2_with fail
  exact bodyPost_ret (v := _) (ret_item3 (pt := 4) (u := 5) (v := 6) (by kernel_rfl) rfl hR4) rfl ⟨rfl, b7⟩

end Go.Proofs.YtmoghgmbpkpcfaaGreatDoor

namespace Go.Proofs.YtmoghgmbpkpcfaaGreatDoor
open Go.RowKit Go.Shelf

/-- What Decode reads. -/
def readA (s : ByteArray) (a : Int) : RR := if a < 0 then .bad 11 else readI s.data.toList 6 0 a.toNat
theorem item_at {p : Nat} {s : ByteArray} {A : Nat → Addr} {aN aW aS : Addr} (hs : s.size ≤ 9223372036854775807) {a : Int} {w : World} (h : RdA w p s a 0) (hI : HIp p w A aN aW aS) :
    Calls Tryz.prog 23 #[.pointer (some ⟨p, 0, none⟩), .int .i64 1] w (ItR 6 p s (readA s a) w) := by
  unfold readA
  by_cases ha : a < 0
  · rw [if_pos ha]
    have hD : decV s a = ((0, 0, 0), 11) := by rw [decV, if_pos (.inl ha)]
    exact item_no (c := ((0 : Nat) : Int)) h fun W hW hb => begin_no hW (hI.bes hb) hs (by omega) (by omega) hD (by omega)
  · rw [if_neg ha]
    obtain ⟨n, rfl⟩ := Int.eq_ofNat_of_zero_le (show 0 ≤ a by omega)
    exact item_any hs 6 0 n 1 w (by omega) (by omega) h hI (by omega)

set_option maxRecDepth 100000 in
set_option maxHeartbeats 1000000 in
theorem Decode_no {s : ByteArray} {a er : Int} {A : Nat → Addr} {aN aW aS : Addr} {w : World} (hs : s.size ≤ 9223372036854775807) (hI : HInv w A aN aW aS) (hS : SInv w) (hr : readA s a = .bad er) :
    Calls Tryz.prog 9 #[.string s, .int .i64 a] w (Ret (.tuple #[.agg #[.int .i64 0, .int .i64 0, .string ByteArray.empty, .slice none 0 0], .int .i64 0, .int .i64 er]) w) := by
  have hb1 := ext_alloc (ext_new w (.cells #[.int .i64 0, .int .i64 0, .string ⟨#[]⟩, .slice none 0 0] 24)) (.cells #[.string s, .int .i64 a, .int .i64 0] 57)
  have hP := Blk.new_ (w.alloc (.cells #[.int .i64 0, .int .i64 0, .string ⟨#[]⟩, .slice none 0 0] 24)) 57 #[.string s, .int .i64 a, .int .i64 0]
  have hR := (Blk.new_ w 24 #[.int .i64 0, .int .i64 0, .string ⟨#[]⟩, .slice none 0 0]).alloc (.cells #[.string s, .int .i64 a, .int .i64 0] 57)
  simp only [World.size_alloc] at hP
  go_enter Tryz.func9, Tryz.ntmps9
  go_wp2_with fail
  generalize (w.alloc (.cells #[.int .i64 0, .int .i64 0, .string ⟨#[]⟩, .slice none 0 0] 24)).alloc (.cells #[.string s, .int .i64 a, .int .i64 0] 57) = w1 at *
  have hp := hP.lt
  have hIp : HIp (w.heap.size + 1) w1 A aN aW aS := ⟨w, hI, by omega, hb1⟩
  have hC := item_at hs hP hIp
  rw [hr] at hC
  refine hC.mono ?_
  rintro e w2 ⟨t, er', rfl, rfl, a5, c5, r5⟩
  have b2 : Below w.heap.size w w2 := hb1.trans (r5.bes.below (by omega) hb1.size)
  have hR2 := hR.kept (r5.bes.block _ hR.lt (by omega))
  go_wp2_with fail
  have hY3 := Blk.new_ w2 24 #[.int .i64 t.kind, .int .i64 t.num, .string t.txt, .slice t.at_ t.kids.length t.cap]
  have hP3 := r5.rd.alloc (.cells #[.int .i64 t.kind, .int .i64 t.num, .string t.txt, .slice t.at_ t.kids.length t.cap] 24)
  have hR3 := hR2.alloc (.cells #[.int .i64 t.kind, .int .i64 t.num, .string t.txt, .slice t.at_ t.kids.length t.cap] 24)
  have b3 : Below w.heap.size w _ := b2.alloc b2.size (.cells #[.int .i64 t.kind, .int .i64 t.num, .string t.txt, .slice t.at_ t.kids.length t.cap] 24)
  generalize w2.alloc (.cells #[.int .i64 t.kind, .int .i64 t.num, .string t.txt, .slice t.at_ t.kids.length t.cap] 24) = w3 at *
  obtain ⟨y0, y1, y2, y3, -, -, -, -⟩ := hY3.c4
  obtain ⟨-, x1, -, -, -, -⟩ := hP3.c3
  have hS3 : SInv w3.drew := hS.below b3.drew
  have hY4 : Blk w3.drew _ _ _ := hY3
  have hP4 : Blk w3.drew _ _ _ := hP3
  have hR4 : Blk w3.drew _ _ _ := hR3
  have m1 : w2.heap.size ≠ w.heap.size := by have := b2.size; have := hR2.lt; omega
  have m2 : w.heap.size + 1 ≠ w.heap.size := by omega
  have b4 := b3.drew
  go_region_held3 (fun V : World => (V.cell? ⟨w2.heap.size, 0, none⟩ = some (.int .i64 t.kind) ∧ V.cell? ⟨w2.heap.size, 1, none⟩ = some (.int .i64 t.num) ∧ V.cell? ⟨w2.heap.size, 2, none⟩ = some (.string t.txt) ∧ V.cell? ⟨w2.heap.size, 3, none⟩ = some (.slice t.at_ t.kids.length t.cap)) ∧ V.cell? ⟨w.heap.size + 1, 1, none⟩ = some (.int .i64 a5)) (first | with_reducible exact ⟨⟨q0, q1, q2, q3⟩, q4⟩ | with_reducible exact ⟨⟨o0, o1, o2, o3⟩, o4⟩ | exact ⟨⟨y0, y1, y2, y3⟩, x1⟩) ((go_at_call 24; (with_reducible refine (told_wr _ _ _ _ _ _ _ _ _ hS3).mono ?_); rintro e w4 ⟨rfl, hb4⟩; have k4 := hR4.below hb4; have kY := hY4.below hb4; have kP := hP4.below hb4; have b5 := b4.trans (hb4.mono b4.size); obtain ⟨z0, z1, z2, z3, v0, v1, v2, v3⟩ := k4.c4; obtain ⟨o0, o1, o2, o3, -, -, -, -⟩ := kY.c4; obtain ⟨-, o4, -, -, -, -⟩ := kP.c3; obtain ⟨q0, q1, q2, q3, -, -, -, -⟩ := (blk_other4 kY m1 (.int .i64 0) (.int .i64 0) (.string ByteArray.empty) (.slice none 0 0)).c4; obtain ⟨-, q4, -, -, -, -⟩ := (blk_other4 kP m2 (.int .i64 0) (.int .i64 0) (.string ByteArray.empty) (.slice none 0 0)).c3))
  have k5 := blk_set4 k4 (.int .i64 0) (.int .i64 0) (.string ByteArray.empty) (.slice none 0 0)
  have b6 := below_set4 b5 (Nat.le_refl _) (.int .i64 0) (.int .i64 0) (.string ByteArray.empty) (.slice none 0 0)
  clear o0 o1 o2 o3 o4 q0 q1 q2 q3 q4 z0 z1 z2 z3 v0 v1 v2 v3
  go_wp2_with fail
  exact bodyPost_ret (v := _) (ret_item3 (pt := 4) (u := 5) (v := 6) (by kernel_rfl) rfl k5) rfl ⟨rfl, b6⟩

set_option maxRecDepth 100000 in
set_option maxHeartbeats 1000000 in
theorem Decode_go {s : ByteArray} {a : Int} {c a' : Nat} {x : IN} {A : Nat → Addr} {aN aW aS : Addr} {w : World} (hs : s.size ≤ 9223372036854775807) (hI : HInv w A aN aW aS) (hr : readA s a = .ok c a' x) :
    Calls Tryz.prog 9 #[.string s, .int .i64 a] w fun e w' => ∃ t : TV, e = .returned (.tuple #[t.val, .int .i64 (a' : Int), .int .i64 0]) ∧ t.item = x ∧ ItAt w'.heap.size w' t ∧ Fits 6 t ∧ Below w.heap.size w w' := by
  have hb1 := ext_alloc (ext_new w (.cells #[.int .i64 0, .int .i64 0, .string ⟨#[]⟩, .slice none 0 0] 24)) (.cells #[.string s, .int .i64 a, .int .i64 0] 57)
  have hP := Blk.new_ (w.alloc (.cells #[.int .i64 0, .int .i64 0, .string ⟨#[]⟩, .slice none 0 0] 24)) 57 #[.string s, .int .i64 a, .int .i64 0]
  have hR := (Blk.new_ w 24 #[.int .i64 0, .int .i64 0, .string ⟨#[]⟩, .slice none 0 0]).alloc (.cells #[.string s, .int .i64 a, .int .i64 0] 57)
  simp only [World.size_alloc] at hP
  go_enter Tryz.func9, Tryz.ntmps9
  go_wp2_with fail
  generalize (w.alloc (.cells #[.int .i64 0, .int .i64 0, .string ⟨#[]⟩, .slice none 0 0] 24)).alloc (.cells #[.string s, .int .i64 a, .int .i64 0] 57) = w1 at *
  have hp := hP.lt
  have hIp : HIp (w.heap.size + 1) w1 A aN aW aS := ⟨w, hI, by omega, hb1⟩
  have hC := item_at hs hP hIp
  rw [hr] at hC
  refine hC.mono ?_
  rintro e w2 ⟨t, er', rfl, rfl, hx, r5, hIt, hOv, hF⟩
  have b2 : Below w.heap.size w w2 := hb1.trans (r5.bes.below (by omega) hb1.size)
  have hR2 := hR.kept (r5.bes.block _ hR.lt (by omega))
  go_wp2_with fail
  have hY3 := Blk.new_ w2 24 #[.int .i64 t.kind, .int .i64 t.num, .string t.txt, .slice t.at_ t.kids.length t.cap]
  have hP3 := r5.rd.alloc (.cells #[.int .i64 t.kind, .int .i64 t.num, .string t.txt, .slice t.at_ t.kids.length t.cap] 24)
  have hR3 := hR2.alloc (.cells #[.int .i64 t.kind, .int .i64 t.num, .string t.txt, .slice t.at_ t.kids.length t.cap] 24)
  have b3 : Below w.heap.size w _ := b2.alloc b2.size (.cells #[.int .i64 t.kind, .int .i64 t.num, .string t.txt, .slice t.at_ t.kids.length t.cap] 24)
  have i3 := hIt.later (ext_new w2 (.cells #[.int .i64 t.kind, .int .i64 t.num, .string t.txt, .slice t.at_ t.kids.length t.cap] 24)) (Nat.le_refl _)
  have g3 : w2.heap.size < (w2.alloc (.cells #[.int .i64 t.kind, .int .i64 t.num, .string t.txt, .slice t.at_ t.kids.length t.cap] 24)).heap.size := by simp
  generalize w2.alloc (.cells #[.int .i64 t.kind, .int .i64 t.num, .string t.txt, .slice t.at_ t.kids.length t.cap] 24) = w3 at *
  obtain ⟨y0, y1, y2, y3, -, -, -, -⟩ := hY3.c4
  obtain ⟨-, x1, -, -, -, -⟩ := hP3.c3
  have hY4 : Blk w3.drew _ _ _ := hY3
  have hP4 : Blk w3.drew _ _ _ := hP3
  have hR4 : Blk w3.drew _ _ _ := hR3
  have m1 : w2.heap.size ≠ w.heap.size := by have := b2.size; have := hR2.lt; omega
  have m2 : w.heap.size + 1 ≠ w.heap.size := by omega
  have b4 := b3.drew
  go_region_held3 (fun V : World => (V.cell? ⟨w2.heap.size, 0, none⟩ = some (.int .i64 t.kind) ∧ V.cell? ⟨w2.heap.size, 1, none⟩ = some (.int .i64 t.num) ∧ V.cell? ⟨w2.heap.size, 2, none⟩ = some (.string t.txt) ∧ V.cell? ⟨w2.heap.size, 3, none⟩ = some (.slice t.at_ t.kids.length t.cap)) ∧ V.cell? ⟨w.heap.size + 1, 1, none⟩ = some (.int .i64 (a' : Int))) (first | with_reducible exact ⟨⟨q0, q1, q2, q3⟩, q4⟩ | with_reducible exact ⟨⟨o0, o1, o2, o3⟩, o4⟩ | exact ⟨⟨y0, y1, y2, y3⟩, x1⟩) ((go_at_call 24; (with_reducible refine (told_ok _ _ _ _ _ _ _ _).mono ?_); rintro e w4 ⟨rfl, hb4⟩; have k4 := hR4.below hb4; have kY := hY4.below hb4; have kP := hP4.below hb4; have b5 := b4.trans (hb4.mono b4.size); obtain ⟨z0, z1, z2, z3, v0, v1, v2, v3⟩ := k4.c4; obtain ⟨o0, o1, o2, o3, -, -, -, -⟩ := kY.c4; obtain ⟨-, o4, -, -, -, -⟩ := kP.c3; obtain ⟨q0, q1, q2, q3, -, -, -, -⟩ := (blk_other4 kY m1 (.int .i64 t.kind) (.int .i64 t.num) (.string t.txt) (.slice t.at_ t.kids.length t.cap)).c4; obtain ⟨-, q4, -, -, -, -⟩ := (blk_other4 kP m2 (.int .i64 t.kind) (.int .i64 t.num) (.string t.txt) (.slice t.at_ t.kids.length t.cap)).c3))
  have k5 := blk_set4 k4 (.int .i64 t.kind) (.int .i64 t.num) (.string t.txt) (.slice t.at_ t.kids.length t.cap)
  have b6 := below_set4 b5 (Nat.le_refl _) (.int .i64 t.kind) (.int .i64 t.num) (.string t.txt) (.slice t.at_ t.kids.length t.cap)
  clear o0 o1 o2 o3 o4 q0 q1 q2 q3 q4 z0 z1 z2 z3 v0 v1 v2 v3
  go_wp2_with fail
  refine bodyPost_ret (v := _) (ret_item3 (pt := 4) (u := 5) (v := 6) (by kernel_rfl) rfl k5) rfl ⟨t, rfl, hx, ?_, hF, b6⟩
  have gs : w2.heap.size ≤ w4.heap.size := Nat.le_trans (Nat.le_of_lt g3) hb4.size
  refine i3.kept hOv (fun k hk hd => ?_) (by simp only [World.size_setCell]; exact gs)
  rw [Below.heap_setCell _ _ _ _ (by simp; omega), Below.heap_setCell _ _ _ _ (by simp; omega), Below.heap_setCell _ _ _ _ (by simp; omega), Below.heap_setCell _ _ _ _ (by simp; omega)]
  exact hb4.block k (Nat.lt_trans hd g3)

end Go.Proofs.YtmoghgmbpkpcfaaGreatDoor

namespace Go.Proofs.YtmoghgmbpkpcfaaGreatDoor
open Go.RowKit Go.Shelf

set_option maxRecDepth 100000 in
theorem first_wr {g : Nat} {t : TypeId} {er : Int} {v : Value} {w : World} (h : Blk w g t #[WrV er, v]) :
    Calls Tryz.prog 26 #[.slice (some ⟨g, 0, none⟩) 2 2] w (Pure (WrV er) w) := by
  obtain ⟨c0, c1, -, -⟩ := h.c2
  unfold WrV at *
  go_enter Tryz.func26, Tryz.ntmps26
  go_wp2_with fail
  refine wp_loop_rounds 1 ?_
  rw [rounds_succ]
  go_wp2_with fail
  go_ret
  exact ⟨rfl, rfl⟩
set_option maxRecDepth 100000 in
theorem first_two {g : Nat} {t : TypeId} {er : Int} {w : World} (h : Blk w g t #[.nilIface, WrV er]) :
    Calls Tryz.prog 26 #[.slice (some ⟨g, 0, none⟩) 2 2] w (Pure (WrV er) w) := by
  obtain ⟨c0, c1, -, -⟩ := h.c2
  unfold WrV at *
  go_enter Tryz.func26, Tryz.ntmps26
  go_wp2_with fail
  refine wp_loop_rounds 2 ?_
  rw [rounds_succ]
  go_wp2_with fail
  rw [rounds_succ]
  go_wp2_with fail
  go_ret
  exact ⟨rfl, rfl⟩
set_option maxRecDepth 100000 in
theorem first_no {g : Nat} {t : TypeId} {w : World} (h : Blk w g t #[.nilIface, .nilIface]) :
    Calls Tryz.prog 26 #[.slice (some ⟨g, 0, none⟩) 2 2] w (Pure .nilIface w) := by
  obtain ⟨c0, c1, -, -⟩ := h.c2
  go_enter Tryz.func26, Tryz.ntmps26
  go_wp2_with fail
  refine wp_loop_rounds 3 ?_
  rw [rounds_succ]
  go_wp2_with fail
  rw [rounds_succ]
  go_wp2_with fail
  rw [rounds_succ]
  go_wp2_with fail
  go_ret
  exact ⟨rfl, rfl⟩

end Go.Proofs.YtmoghgmbpkpcfaaGreatDoor

namespace Go.Proofs.YtmoghgmbpkpcfaaGreatDoor
open Go.RowKit Go.Shelf

/-- What stands while Whole tells. -/
structure WS (w w2 : World) (t : TV) (V : World) : Prop where
  y : Blk V w2.heap.size 24 #[.int .i64 t.kind, .int .i64 t.num, .string t.txt, .slice t.at_ t.kids.length t.cap]
  r : Blk V w.heap.size 24 #[.int .i64 0, .int .i64 0, .string ⟨#[]⟩, .slice none 0 0]
  lt : w.heap.size < w2.heap.size
  b : Below w.heap.size w V
  d : ∀ k, w.heap.size < k → k < w2.heap.size → V.heap[k]? = w2.heap[k]?
theorem WS.size {w w2 V : World} {t : TV} (h : WS w w2 t V) : w2.heap.size < V.heap.size := h.y.lt
theorem WS.alloc {w w2 V : World} {t : TV} (h : WS w w2 t V) (o : Obj) : WS w w2 t (V.alloc o) := ⟨h.y.alloc o, h.r.alloc o, h.lt, h.b.alloc h.b.size o, fun k h1 h2 => (Below.heap_alloc V o k (by have := h.size; omega)).trans (h.d k h1 h2)⟩
theorem WS.drew {w w2 V : World} {t : TV} (h : WS w w2 t V) : WS w w2 t V.drew := ⟨h.y, h.r, h.lt, h.b.drew, h.d⟩
theorem WS.later {w w2 V V' : World} {t : TV} (h : WS w w2 t V) (hb : Below V.heap.size V V') : WS w w2 t V' := ⟨h.y.below hb, h.r.below hb, h.lt, h.b.trans (hb.mono h.b.size), fun k h1 h2 => (hb.block k (by have := h.size; omega)).trans (h.d k h1 h2)⟩
theorem WS.new8 {w w2 V : World} {t : TV} (h : WS w w2 t V) : Blk (V.alloc (.cells #[.int .i64 0, .int .i64 0, .string ⟨#[]⟩, .slice none 0 0] 24)) V.heap.size 24 #[.int .i64 0, .int .i64 0, .string ⟨#[]⟩, .slice none 0 0] ∧ w2.heap.size < V.heap.size :=
  ⟨Blk.new_ _ _ _, h.y.lt⟩
theorem WS.last {w w2 V : World} {t : TV} (_h : WS w w2 t V) (cs : Array Value) : Blk (V.alloc (.cells cs 24)) V.heap.size 24 cs := Blk.new_ _ _ _
theorem WS.set4 {w w2 V : World} {t : TV} {g : Nat} (h : WS w w2 t V) (hg : w2.heap.size < g) (u0 u1 u2 u3 : Value) : WS w w2 t ((((V.setCell ⟨g, 0, none⟩ u0).setCell ⟨g, 1, none⟩ u1).setCell ⟨g, 2, none⟩ u2).setCell ⟨g, 3, none⟩ u3) :=
  have hl := h.lt
  ⟨blk_other4 h.y (by omega) u0 u1 u2 u3, blk_other4 h.r (by omega) u0 u1 u2 u3, h.lt, below_set4 h.b (by omega) u0 u1 u2 u3, fun k h1 h2 => by
    rw [Below.heap_setCell _ _ _ _ (by simp; omega), Below.heap_setCell _ _ _ _ (by simp; omega), Below.heap_setCell _ _ _ _ (by simp; omega), Below.heap_setCell _ _ _ _ (by simp; omega)]
    exact h.d k h1 h2⟩
/-- The tree stands where the answer is laid. -/
theorem WS.tree {w w2 V : World} {t : TV} {L : Nat} (h : WS w w2 t V) (hi : ItAt w2.heap.size w2 t) (ho : Over L t) (hL : w.heap.size < L) (u0 u1 u2 u3 : Value) : ItAt ((((V.setCell ⟨w.heap.size, 0, none⟩ u0).setCell ⟨w.heap.size, 1, none⟩ u1).setCell ⟨w.heap.size, 2, none⟩ u2).setCell ⟨w.heap.size, 3, none⟩ u3).heap.size ((((V.setCell ⟨w.heap.size, 0, none⟩ u0).setCell ⟨w.heap.size, 1, none⟩ u1).setCell ⟨w.heap.size, 2, none⟩ u2).setCell ⟨w.heap.size, 3, none⟩ u3) t := by
  refine hi.kept ho (fun k hk hd => ?_) (by simp only [World.size_setCell]; exact Nat.le_of_lt h.size)
  rw [Below.heap_setCell _ _ _ _ (by simp; omega), Below.heap_setCell _ _ _ _ (by simp; omega), Below.heap_setCell _ _ _ _ (by simp; omega), Below.heap_setCell _ _ _ _ (by simp; omega)]
  exact h.d k (by omega) hd


end Go.Proofs.YtmoghgmbpkpcfaaGreatDoor
