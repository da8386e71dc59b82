/-
  Package postriderlaw17: what all its laws begin with (shown, Cut, cut). Conditions: the listed variables hold what 'CInv' says.
-/
import Derived.Test.YtlabmomehjfjdaaDoorFrF
import Derived.Deep.AppendLies
import Derived.Deep.DeepMust
namespace Go.Proofs.YtlabmomehjfjdaaDoor
open Go.RowKit

/-- A text's first three thousand bytes. -/
def cut3000 (s : ByteArray) : ByteArray := s.extract 0 (min s.size 3000)
theorem cut3000_size (s : ByteArray) : (cut3000 s).size ≤ 3000 := by rw [cut3000, ByteArray.size_extract]; omega
theorem fcut_any (s : ByteArray) (w : World) (hs : s.size ≤ 9223372036854775807) : Calls Tryd.prog 12 #[.string s] w (Pure (.string (cut3000 s)) w) := by
  by_cases h : s.size ≤ 3000
  · have hc : cut3000 s = s.extract 0 s.size := by rw [cut3000, Nat.min_eq_left (by omega)]
    rw [hc]
    go_enter Tryd.func12, Tryd.ntmps12
    go_wp2
    all_goals
      go_ret
      exact ⟨by first | rfl | simp, rfl⟩
  · have hc : cut3000 s = s.extract 0 3000 := by rw [cut3000, Nat.min_eq_right (by omega)]
    rw [hc]
    go_enter Tryd.func12, Tryd.ntmps12
    go_wp2
    all_goals
      go_ret
      exact ⟨by first | rfl | simp, rfl⟩

/-- A record with its data's first two thousand and one bytes. -/
def RI.cut (r : RI) : RI := ⟨r.op, r.id, r.d.extract 0 (min r.d.size 2001)⟩

theorem run_min_int2 (ts : Array TypeId) (t : TypeId) (x y : Int) (w : World) : (Builtin.min_ ts t #[.int .i64 x, .int .i64 y]).run Tryd.prog w = .ok (.int .i64 (if y < x then y else x)) w := by
  simp [Builtin.min_, Builtin.min2]
theorem min2e (ts : Array TypeId) (t : TypeId) (x : Nat) : ∃ m : Nat, m = min x 2001 ∧ ∀ w : World, (Builtin.min_ ts t #[.int .i64 (x : Int), .int .i64 2001]).run Tryd.prog w = .ok (.int .i64 (m : Int)) w := by
  refine ⟨min x 2001, rfl, fun w => ?_⟩
  rw [run_min_int2]
  congr 2
  split <;> omega

set_option maxRecDepth 100000 in
set_option maxHeartbeats 1000000 in
theorem FCut_any (A : Option Addr) (n c : Nat) (xs : List RI) (w : World) (hx : xs.length = min n 10) (ha : RdR w A xs) (hd : ∀ x ∈ xs, x.d.size ≤ 9223372036854775807) :
    Calls Tryd.prog 11 #[.slice A n c] w fun e w' => ∃ V, e = .returned V ∧ w'.ownsRow w.heap.size 23 3 V xs.length (cellsQ (xs.map RI.cut)) ∧ Below w.heap.size w w' := by
  obtain ⟨i0, hi0, hz0, hz1, hz2⟩ := info_parts infoR
  go_enter Tryd.func11, Tryd.ntmps11
  go_wp2_with fail
  go_loopw [3, 4] (fun out i wr => ∃ k : Nat, k ≤ xs.length ∧ i = .int .i64 (k : Int) ∧ wr.ownsRow w.heap.size 23 3 out k (cellsQ ((xs.take k).map RI.cut)) ∧ Below w.heap.size w wr) (fun _ i _ => xs.length - (intOf i).toNat)
  case atStart => exact ⟨0, by omega, rfl, own_nil, Below.refl _ _⟩
  case round =>
    obtain ⟨k, hk, rfl, hown, hbe⟩ := hrel
    have hsz := hbe.size
    by_cases hlt : k < xs.length
    · obtain ⟨a, rfl, hab, hca⟩ := ha (by omega)
      obtain ⟨g1, g2, g3⟩ := hca k hlt
      have hdk := hd _ (List.getElem_mem hlt)
      have hsn : cellsQ ((xs.take (k + 1)).map RI.cut) = cellsQ ((xs.take k).map RI.cut) ++ [.int .i64 xs[k].op, .int .i64 xs[k].id, .string (xs[k].d.extract 0 (min xs[k].d.size 2001))] := by
        rw [List.take_succ_eq_append_getElem hlt, List.map_append, List.map_singleton, cellsQ_snoc]
        rfl
      have HS := Lib.hid hsn
      have x1 := (hbe.cell (by rw [add_blk]; exact hab)).trans g1
      have x2 := (hbe.cell (by show (a.add (k * 3)).block < _; rw [add_blk]; exact hab)).trans g2
      have x3 := (hbe.cell (by show (a.add (k * 3)).block < _; rw [add_blk]; exact hab)).trans g3
      clear hsn hca ha hd
      generalize xs[k].op = op at *
      generalize xs[k].id = id at *
      generalize xs[k].d = D at *
      have i1 : (0 : Int) ≤ (k : Int) := by omega
      have i2 : (k : Int) < (n : Int) := by omega
      have i3 : (k : Int) < 10 := by omega
      obtain ⟨A0, c0, rfl⟩ := own_form hown
      obtain ⟨m, hm, hmin⟩ := min2e #[3, 3] 3 D.size
      rw [← hm] at HS
      have z0 : (0 : Int) ≤ (m : Int) := by omega
      have z1 : (m : Int) ≤ (D.size : Int) := by omega
      have three : ∀ W : World, Below w.heap.size w W → W.cell? (a.add (k * 3)) = some (.int .i64 op) ∧ W.cell? ⟨(a.add (k * 3)).block, (a.add (k * 3)).off + 1, none⟩ = some (.int .i64 id) ∧ W.cell? ⟨(a.add (k * 3)).block, (a.add (k * 3)).off + 2, none⟩ = some (.string D) := fun W hW =>
        ⟨(hW.cell (by rw [add_blk]; exact hab)).trans g1, (hW.cell (by show (a.add (k * 3)).block < _; rw [add_blk]; exact hab)).trans g2, (hW.cell (by show (a.add (k * 3)).block < _; rw [add_blk]; exact hab)).trans g3⟩
      clear g1 g2 g3
      clear hm
      go_wp2_with fail
      go_region_held3 (fun W : World => W.cell? (a.add (k * 3)) = some (.int .i64 op) ∧ W.cell? ⟨(a.add (k * 3)).block, (a.add (k * 3)).off + 1, none⟩ = some (.int .i64 id) ∧ W.cell? ⟨(a.add (k * 3)).block, (a.add (k * 3)).off + 2, none⟩ = some (.string D)) (first | exact ⟨x1, x2, x3⟩ | exact three _ (hbe.alloc hsz _).drew | exact three _ (below_append (hbe.alloc hsz _).drew (hown.alloc _).drew (Nat.le_refl _) (Nat.le_refl _) hgrow)) ((refine step_append_lies _ (by rfl) _ _ _ (by rfl) w.heap.size 23 i0 (.agg #[.int .i64 0, .int .i64 0, .string ByteArray.empty]) 3 32 Tryd.underlying25 hi0 hz0 hz1 hz2 rfl (by omega) _ k _ (by rfl) (hown.alloc _).drew ⟨wr.heap.size, 0, none⟩ 1 1 [.int .i64 op, .int .i64 id, .string (D.extract 0 m)] (by rfl) rfl (new_cells _ _ _) (by intro u hu; simp only [List.mem_cons, List.not_mem_nil, or_false] at hu; obtain rfl | rfl | rfl := hu <;> rfl) (by omega) (by unfold maxLen; omega) (by omega) (by simp; omega) (wr.heap.size + 1) (by simp) ?_; intro g cap w3 hown3 hgrow hat hltg))
      all_goals
        have hbe3 : Below w.heap.size w w3 := below_append (hbe.alloc hsz _).drew (hown.alloc _).drew (Nat.le_refl _) (Nat.le_refl _) hgrow
        rw [← HS.out] at hown3
        go_wp2_with fail
        refine ⟨⟨k + 1, by omega, by go_num, hown3, hbe3⟩, ?_⟩
        simp [intOf]
        omega
    · obtain rfl : k = xs.length := by omega
      rw [List.take_length] at hown
      obtain ⟨A0, c0, rfl⟩ := own_form hown
      by_cases hn : n ≤ 10
      · have hxn : xs.length = n := by omega
        rw [hxn] at hown ⊢
        have hq : ¬ (n : Int) < (n : Int) := by omega
        go_wp2_with fail
        go_ret
        exact ⟨_, rfl, hown, hbe⟩
      · have hxn : xs.length = 10 := by omega
        rw [hxn] at hown ⊢
        have hq : (10 : Int) < (n : Int) := by omega
        have hq2 : ((10 : Nat) : Int) < (n : Int) := by omega
        go_wp2_with fail
        go_ret
        exact ⟨.slice A0 10 c0, rfl, by rw [hxn]; exact hown, hbe⟩
/-- What is shown of frames: 'e1 3 ..' of a record with no data. -/
def shF : ByteArray := ⟨(frameL ⟨3, 258, []⟩).toArray⟩
theorem sh1 : encV 3 258 ByteArray.empty = (shF, 0) := by kernel_rfl
theorem sh2 : frV (⟨#[97]⟩ ++ shF ++ ⟨#[98]⟩) 1 = some ⟨3, 258, []⟩ := by kernel_rfl
theorem sh3 : (scanOf (shF ++ shF ++ ⟨#[0]⟩).data.toList).1.length = 2 := by kernel_rfl
theorem sh4 : (scanOf (shF ++ shF ++ ⟨#[0]⟩).data.toList).2 = 28 := by kernel_rfl
theorem sh5 : encV 0 0 ByteArray.empty = (ByteArray.empty, 170) := by kernel_rfl
theorem sh6 : frV ByteArray.empty 0 = none := by kernel_rfl
theorem sh7 : shF.size = 14 := by kernel_rfl
theorem sh8 : shF.extract 0 10 = ⟨#[225, 3, 0, 0, 0, 0, 1, 2, 0, 0]⟩ := by kernel_rfl

theorem sh9 : ¬ (9223372036854775807 < (⟨#[97]⟩ : ByteArray).size + shF.size) ∧ ¬ (9223372036854775807 < ((⟨#[97]⟩ : ByteArray) ++ shF).size + (⟨#[98]⟩ : ByteArray).size) ∧ ¬ (9223372036854775807 < shF.size + shF.size) ∧ ¬ (9223372036854775807 < (shF ++ shF).size + (⟨#[0]⟩ : ByteArray).size) := by
  refine ⟨?_, ?_, ?_, ?_⟩ <;> exact of_decide_eq_true (by kernel_rfl)
theorem sh10 : (⟨#[97]⟩ ++ shF ++ ⟨#[98]⟩ : ByteArray).size ≤ 1000000 ∧ (shF ++ shF ++ ⟨#[0]⟩ : ByteArray).size ≤ 1000000 ∧ ByteArray.empty.size ≤ 1000000 := by
  refine ⟨?_, ?_, ?_⟩ <;> exact of_decide_eq_true (by kernel_rfl)
theorem decR_some (r : RecN) (a : Int) : decR (some r) a = .tuple #[.agg #[.int .i64 (r.op : Int), .int .i64 (r.id : Int), .string ⟨r.data.toArray⟩], .int .i64 (a + ((14 + r.data.length : Nat) : Int)), .bool true] := rfl
theorem decR_none (a : Int) : decR none a = .tuple #[.agg #[.int .i64 0, .int .i64 0, .string ByteArray.empty], .int .i64 0, .bool false] := rfl

set_option maxRecDepth 100000 in
set_option maxHeartbeats 4000000 in
theorem fshown_any (w : World) (aA aT aN aW aS : Addr) (h : CInv w aA aT aN aW aS) : Calls Tryd.prog 10 #[] w (Ret (.bool true) w) := by
  have E1 := fun w' h' => Encode_any 3 258 ByteArray.empty w' aA aT aN aW aS h'
  have E2 := fun w' h' => Encode_any 0 0 ByteArray.empty w' aA aT aN aW aS h'
  have D1 := fun w' h' => Decode_any (⟨#[97]⟩ ++ shF ++ ⟨#[98]⟩) 1 w' aA aT aN aW aS h' sh10.1
  have D2 := fun w' h' => Decode_any ByteArray.empty 0 w' aA aT aN aW aS h' sh10.2.2
  have S1 := fun w' h' => Scan_any (shF ++ shF ++ ⟨#[0]⟩) sh10.2.1 w' aA aT aN aW aS h'
  rw [sh1] at E1
  rw [sh5] at E2
  rw [sh2, decR_some] at D1
  rw [sh6, decR_none] at D2
  unfold recV at E1 E2
  unfold ScanRes at S1
  dsimp only [List.length_nil] at E1 E2 D1 D2
  have n9 := sh9
  obtain ⟨n1, n2, n3, n4⟩ := n9
  have hl7 : ((shF.size : Int) == 14) = true := by kernel_rfl
  have hl8 : (0 : Int) ≤ 10 ∧ (10 : Int) ≤ (shF.size : Int) := by rw [sh7]; decide
  have hl9 := sh8
  go_enter Tryd.func10, Tryd.ntmps10
  go_wp2_with fail
  have p0 := Blk.new_ w 23 #[.int .i64 3, .int .i64 258, .string ByteArray.empty]
  have b0 := ext_new w (.cells #[.int .i64 3, .int .i64 258, .string ByteArray.empty] 23)
  refine (E1 _ (h.below b0)).mono ?_
  rintro e w1 ⟨rfl, hb1'⟩
  have p1 := p0.below hb1'
  have hb1 := ext_trans b0 hb1'
  clear hb1' p0 b0
  go_wp2_with fail
  refine (D1 _ (h.below hb1)).mono ?_
  rintro e w2 ⟨rfl, hb2'⟩
  have p2 := p1.below hb2'
  have hb2 := ext_trans hb1 hb2'
  clear hb2' p1 hb1
  go_wp2_with fail
  have q2 := Blk.new_ w2 23 #[.int .i64 3, .int .i64 258, .string ByteArray.empty]
  have p3 := p2.alloc (.cells #[.int .i64 3, .int .i64 258, .string ByteArray.empty] 23)
  have hb3 := ext_alloc hb2 (.cells #[.int .i64 3, .int .i64 258, .string ByteArray.empty] 23)
  clear p2 hb2
  refine (S1 _ (h.below hb3)).mono ?_
  rintro e w4 ⟨V, rfl, hown, hb4'⟩
  rw [sh3] at hown
  rw [sh4]
  obtain ⟨A, c, rfl⟩ := own_form hown
  have p4 := p3.below hb4'
  have q4 := q2.below hb4'
  have hb4 := ext_trans hb3 hb4'
  clear hb4' hb3 p3 q2 hown
  go_wp2_with fail
  refine (E2 _ (h.below hb4)).mono ?_
  rintro e w5 ⟨rfl, hb5'⟩
  have p5 := p4.below hb5'
  have q5 := q4.below hb5'
  have hb5 := ext_trans hb4 hb5'
  clear hb5' hb4 p4 q4
  go_wp2_with fail
  refine (D2 _ (h.below hb5)).mono ?_
  rintro e w6 ⟨rfl, hb6'⟩
  have p6 := (p5.below hb6').alloc (.cells #[.int .i64 0, .int .i64 0, .string ByteArray.empty] 23)
  have q6 := (q5.below hb6').alloc (.cells #[.int .i64 0, .int .i64 0, .string ByteArray.empty] 23)
  have hb6 := ext_alloc (ext_trans hb5 hb6') (.cells #[.int .i64 0, .int .i64 0, .string ByteArray.empty] 23)
  clear hb6' hb5 p5 q5
  obtain ⟨x0, x1, x2, -⟩ := p6.c3
  obtain ⟨y0, y1, y2, -⟩ := q6.c3
  clear p6 q6 n1 n2 n3 n4
  go_wp2_with fail
  go_ret
  exact ⟨rfl, hb6⟩

end Go.Proofs.YtlabmomehjfjdaaDoor
