/-
  Package postriderref04 (the document's answer for items): count, Right. Conditions: as the theorems' own hypotheses say.
-/
import Derived.Test.YtmoghgmbpkpcfaaGreatDoorIrB
namespace Go.Proofs.YtmoghgmbpkpcfaaGreatDoor
open Go.RowKit Go.Shelf

theorem countL_drop {l : List IN} {d k n : Nat} (h : k < l.length) (hn : n ≤ 60) : IN.countL (l.drop k) d n = IN.countL (l.drop (k + 1)) d (n + l[k].count d) := by
  rw [List.drop_eq_getElem_cons h, IN.countL, if_pos hn]
theorem countL_stop {l : List IN} {d n : Nat} (hn : ¬ n ≤ 60) : IN.countL l d n = n := by
  cases l with
  | nil => rw [IN.countL]
  | cons x l => rw [IN.countL, if_neg hn]
theorem count_le (x : IN) (d : Nat) : x.count d ≤ 61 := by
  obtain ⟨k, n, s, l⟩ := x
  rw [IN.count]
  split
  · omega
  · split
    · exact Nat.min_le_right _ _
    · omega
theorem run_min61 (ts : Array TypeId) (t : TypeId) (x : Nat) : ∀ w : World, (Builtin.min_ ts t #[.int .i64 (x : Int), .int .i64 61]).run Tryz.prog w = .ok (.int .i64 ((min x 61 : Nat) : Int)) w := by
  intro w
  have : (Builtin.min_ ts t #[.int .i64 (x : Int), .int .i64 61]).run Tryz.prog w = .ok (.int .i64 (if (61 : Int) < (x : Int) then 61 else (x : Int))) w := by simp [Builtin.min_, Builtin.min2]
  rw [this]
  congr 2
  split <;> omega

def CountAt (x : TV) : Prop := ∀ (D : Int) (d : Nat) (w : World), D = (d : Int) → d ≤ 1000 → ItAt w.heap.size w x → Calls Tryz.prog 28 #[x.val, .int .i64 D] w (Ret (.int .i64 (x.item.count d : Int)) w)
set_option maxRecDepth 100000 in
set_option maxHeartbeats 4000000 in
theorem count_list (n : Int) (a : Option Addr) (c : Nat) (l : List TV) (hl : l.length ≤ 62) (D : Int) (d : Nat) (w : World) (hD : D = (d : Int)) (hd : d ≤ 6) (hat : RowT w w.heap.size a l) (hk : ∀ x ∈ l, ItAt w.heap.size w x) (ih : ∀ x ∈ l, CountAt x) (h0 : n = 0) :
    Calls Tryz.prog 28 #[.agg #[.int .i64 4, .int .i64 n, .string ByteArray.empty, .slice a l.length c], .int .i64 D] w (Ret (.int .i64 ((min (IN.countL (TV.items l) (d + 1) 1) 61 : Nat) : Int)) w) := by
  subst h0
  have q0 := ext_new w (.cells #[.int .i64 4, .int .i64 0, .string ByteArray.empty, .slice a l.length c] 24)
  have hX := Blk.new_ w 24 #[.int .i64 4, .int .i64 0, .string ByteArray.empty, .slice a l.length c]
  have i4 : ¬ (6 : Int) < D := by omega
  have i5 : (0 : Int) ≤ D := by omega
  have HD := Lib.hid hD
  have HK := Lib.hid hk
  have IH := Lib.hid ih
  have HR := Lib.hid hat
  clear hD hk ih hat
  generalize hits : TV.items l = its
  have hil : its.length = l.length := by rw [← hits, items_length]
  have HIT := Lib.hid hits
  have HIL := Lib.hid hil
  clear hits hil
  go_enter Tryz.func28, Tryz.ntmps28
  go_wp2_with fail
  go_loopw [5, 6] (fun nv i wr => ∃ k N : Nat, k ≤ l.length ∧ i = .int .i64 (k : Int) ∧ nv = .int .i64 (N : Int) ∧ N ≤ 121 ∧ IN.countL its (d + 1) 1 = IN.countL (its.drop k) (d + 1) N ∧ Blk wr w.heap.size 24 #[.int .i64 4, .int .i64 0, .string ByteArray.empty, .slice a l.length c] ∧ Below w.heap.size w wr) (fun _ i _ => l.length - (intOf i).toNat)
  case atStart => exact ⟨0, 1, Nat.zero_le _, rfl, rfl, by omega, by rw [List.drop_zero], hX, q0⟩
  case round =>
    obtain ⟨k, N, hk, rfl, rfl, hN, hc, hX, hb⟩ := hrel
    have HC := Lib.hid hc
    clear hc
    by_cases hlt : k < l.length
    · by_cases hn : N ≤ 60
      · obtain ⟨ad, had, hblk, hcells⟩ := HR.out (by omega)
        obtain ⟨z0, z1, z2, z3⟩ := hcells k hlt
        have hlb : (ad.add (k * 4)).block < w.heap.size := by rw [ad_blk]; exact hblk
        replace z0 := (hb.cell hlb).trans z0
        replace z1 := (hb.cell (by exact hlb)).trans z1
        replace z2 := (hb.cell (by exact hlb)).trans z2
        replace z3 := (hb.cell (by exact hlb)).trans z3
        have hmem := List.getElem_mem hlt
        have hCk := fun (m : Int) (hm : m = ((d + 1 : Nat) : Int)) => IH.out _ hmem m (d + 1) wr hm (by omega) ((HK.out _ hmem).later hb hb.size)
        have hgk : its[k]'(by rw [HIL.out]; exact hlt) = l[k].item := by
          have h1 := HIT.out
          subst h1
          simp only [items_map, List.getElem_map]
        have hcd := countL_drop (l := its) (d := d + 1) (k := k) (n := N) (by rw [HIL.out]; exact hlt) hn
        rw [hgk] at hcd
        have hle := count_le l[k].item (d + 1)
        have HCD := Lib.hid hcd
        rw [had] at hX
        have HAD := Lib.hid had
        have o3 := hX.c4.2.2.2.1
        unfold TV.row at z3
        unfold TV.val TV.row at hCk
        have HCK := Lib.hid hCk
        have j0 : (0 : Int) ≤ (k : Int) := by omega
        have j1 : (k : Int) < (l.length : Int) := by omega
        have j2 : (N : Int) ≤ 60 := by omega
        clear hcells hmem hgk hcd had hCk
        generalize l[k] = y at *
        generalize y.item.count (d + 1) = Y at *
        go_wp2_with fail
        refine (HCK.out _ (by first | (rw [IntWalk.i64_in _ (by have := HD.out; omega)]; have := HD.out; omega) | (have := HD.out; omega))).mono ?_
        rintro e w3 ⟨rfl, hb3⟩
        have hX3 := hX.below hb3
        have hb4 := hb.trans (hb3.mono hb.size)
        go_wp2_with fail
        go_roundw
        case rel => exact ⟨k + 1, N + Y, by omega, by go_num, by go_num, by omega, by rw [HC.out, HCD.out], by rw [HAD.out]; exact hX3, hb4⟩
        case measure => simp [intOf]; omega
      · have hst := countL_stop (l := its.drop k) (d := d + 1) hn
        have HR2 := Lib.hid (HC.out.trans hst)
        have j1 : (k : Int) < (l.length : Int) := by omega
        have j2 : ¬ (N : Int) ≤ 60 := by omega
        have hm := run_min61 #[3, 3] 3 N
        have o3 := hX.c4.2.2.2.1
        clear hst
        go_wp2_with fail
        go_ret
        exact ⟨by rw [HR2.out]; first | rfl | (congr 2; omega), hb⟩
    · obtain rfl : k = l.length := by omega
      have hd0 : its.drop l.length = [] := List.drop_eq_nil_of_le (by rw [HIL.out]; exact Nat.le_refl _)
      have HR2 := Lib.hid (by have h1 := HC.out; rw [hd0, IN.countL] at h1; exact h1 : IN.countL its (d + 1) 1 = N)
      have j1 : ¬ ((l.length : Int) < (l.length : Int)) := by omega
      have hm := run_min61 #[3, 3] 3 N
      have o3 := hX.c4.2.2.2.1
      clear hd0
      go_wp2_with fail
      go_ret
      exact ⟨by rw [HR2.out]; first | rfl | (congr 2; omega), hb⟩

set_option maxRecDepth 100000 in
theorem count_leaf (k n : Int) (s : ByteArray) (a : Option Addr) (c : Nat) (D : Int) (w : World) (hD : ¬ 6 < D) (hs : s.size ≤ 700) (h : oneB k n s 0 = true) (h4 : k ≠ 4) :
    Calls Tryz.prog 28 #[.agg #[.int .i64 k, .int .i64 n, .string s, .slice a 0 c], .int .i64 D] w (Ret (.int .i64 1) w) := by
  have q0 := ext_new w (.cells #[.int .i64 k, .int .i64 n, .string s, .slice a 0 c] 24)
  rcases oneB_cases h with ⟨rfl, h1, h2, h3, -⟩ | ⟨rfl, rfl, h3, -⟩ | ⟨rfl, rfl, h3, -, h5⟩ | ⟨rfl, -⟩
  · obtain rfl := txt_empty h3
    have hn : okNum n = true := by unfold okNum; rw [decide_eq_true h1, decide_eq_true h2]; rfl
    have hR := fun W => rRight_any n W
    rw [hn] at hR
    clear h h1 h2 hn h4 hs h3
    go_enter Tryz.func28, Tryz.ntmps28
    go_wp2_with fail
    refine (hR _).mono ?_
    rintro e w1 ⟨rfl, rfl⟩
    go_wp2_with fail
    refine wp_loop_rounds 1 ?_
    rw [rounds_succ]
    go_wp2_with fail
    go_ret
    exact ⟨rfl, q0⟩
  · have h3' : ¬ 600 < (s.size : Int) := by omega
    clear h h4
    go_enter Tryz.func28, Tryz.ntmps28
    go_wp2_with fail
    refine wp_loop_rounds 1 ?_
    rw [rounds_succ]
    go_wp2_with fail
    go_ret
    exact ⟨rfl, q0⟩
  · have h3' : ¬ 600 < (s.size : Int) := by omega
    have hT := fun W => rtext_any s W (by omega)
    rw [h5] at hT
    clear h h4 h5
    go_enter Tryz.func28, Tryz.ntmps28
    go_wp2_with fail
    refine (hT _).mono ?_
    rintro e w1 ⟨rfl, rfl⟩
    go_wp2_with fail
    refine wp_loop_rounds 1 ?_
    rw [rounds_succ]
    go_wp2_with fail
    go_ret
    exact ⟨rfl, q0⟩
  · exact absurd rfl h4
theorem count_tree (t : TV) : ∀ h, Fits h t → CountAt t := by
  induction t using TV.ind with
  | h k n s a c l ih =>
    intro h hf D d w hD hd hat
    obtain ⟨h', rfl⟩ := hf.pos
    obtain ⟨hl, hs, hk⟩ := hf.kid
    have hl : l.length ≤ 62 := hl
    have hs : s.size ≤ 700 := hs
    have hk : ∀ x ∈ l, Fits h' x := hk
    by_cases hd6 : 6 < d
    · have e : (TV.mk k n s a c l).item.count d = 61 := by rw [TV.item, IN.count, if_pos hd6]
      rw [e]
      exact count_deep _ D w (by omega)
    · have hil := items_length l
      by_cases h1 : oneB k n s l.length = true
      · have e : (TV.mk k n s a c l).item.count d = min (IN.countL (TV.items l) (d + 1) 1) 61 := by rw [TV.item, IN.count, if_neg hd6, hil, if_pos h1]
        rw [e]
        by_cases h4 : k = 4
        · subst h4
          have h6 : n = 0 ∧ s.size = 0 := by
            rcases oneB_cases h1 with ⟨q, -⟩ | ⟨q, -⟩ | ⟨q, -⟩ | ⟨-, q1, q2⟩
            · cases q
            · cases q
            · cases q
            · exact ⟨q1, q2⟩
          obtain rfl := txt_empty h6.2
          exact count_list n a c l hl D d w hD (by omega) hat.row hat.kid (fun x hx => ih x hx h' (hk x hx)) h6.1
        · have hl0 : l = [] := by
            rcases oneB_cases h1 with ⟨-, -, -, -, q⟩ | ⟨-, -, -, q⟩ | ⟨-, -, -, q, -⟩ | ⟨q, -⟩
            · exact List.eq_nil_of_length_eq_zero q
            · exact List.eq_nil_of_length_eq_zero q
            · exact List.eq_nil_of_length_eq_zero q
            · exact absurd q h4
          subst hl0
          exact count_leaf k n s a c D w (by omega) hs h1 h4
      · have e : (TV.mk k n s a c l).item.count d = 61 := by rw [TV.item, IN.count, if_neg hd6, hil, if_neg h1]
        rw [e]
        exact count_wrong k n s a l.length c D w (by omega) hs (by simpa using h1)
/-- Right, as the document says. -/
theorem rRightI_tree (t : TV) (w : World) (hat : ItAt w.heap.size w t) (hfit : Fits 7 t) : Calls Tryz.prog 14 #[t.val] w (Ret (.bool t.item.right) w) := by
  have hb0 := ext_new w (.cells #[.int .i64 t.kind, .int .i64 t.num, .string t.txt, .slice t.at_ t.kids.length t.cap] 24)
  have hX := Blk.new_ w 24 #[.int .i64 t.kind, .int .i64 t.num, .string t.txt, .slice t.at_ t.kids.length t.cap]
  have hC := count_tree t 7 hfit 1 1 _ rfl (by omega) (hat.later hb0 hb0.size)
  have hr := t.item.count_right
  obtain ⟨c0, c1, c2, c3, -⟩ := hX.c4
  generalize t.item.count 1 = N at *
  rw [← hr]
  clear hr hfit hat
  unfold TV.val TV.row at *
  by_cases hn : N ≤ 60
  · have j : (N : Int) ≤ 60 := by omega
    rw [decide_eq_true hn]
    go_enter Tryz.func14, Tryz.ntmps14
    go_wp2_with fail
    refine hC.mono ?_
    rintro e w1 ⟨rfl, hb1⟩
    go_wp2_with fail
    go_ret
    exact ⟨by first | rfl | (simp; omega) | simp, ext_trans hb0 hb1⟩
  · have j : ¬ (N : Int) ≤ 60 := by omega
    rw [decide_eq_false hn]
    go_enter Tryz.func14, Tryz.ntmps14
    go_wp2_with fail
    refine hC.mono ?_
    rintro e w1 ⟨rfl, hb1⟩
    go_wp2_with fail
    go_ret
    exact ⟨by first | rfl | (simp; omega) | simp, ext_trans hb0 hb1⟩

end Go.Proofs.YtmoghgmbpkpcfaaGreatDoor
