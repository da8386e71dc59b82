/-
  Lists of entries, and of texts, held together (Same, SameTexts); entries that are left (left), and more of the kind. Conditions: as the theorems' own hypotheses say.
-/
import Derived.Test.YtmebjdbkngehiaaGreatDoorQhB
import Derived.Test.YtmebjdbkngehiaaGreatDoorQhF
import Derived.Test.YtmebjdbkngehiaaGreatDoorQgR
namespace Go.Proofs.YtmebjdbkngehiaaGreatDoor
open Go.RowKit Go.Shelf
set_option maxHeartbeats 4000000
variable {α : Type} {w w' : World} {A B : Option Addr} {c1 c2 : Nat}
instance : DecidableEq EI := fun a b => decidable_of_iff _ (EI.same_iff a b)
theorem same_dec (a b : EI) : a.same b = decide (a = b) := by
 by_cases h : a = b
 ·rw [decide_eq_true h, (EI.same_iff a b).2 h]
 ·rw [decide_eq_false h]
  exact Bool.eq_false_iff.2 fun e => h ((EI.same_iff a b).1 e)
theorem list_ne {l m : List α} {k : Nat} (h1 : k < l.length) (h2 : k < m.length) (h : l[k] ≠ m[k]) : l ≠ m := fun e => by subst e; exact h rfl
theorem list_eq {l m : List α} (h : l.length = m.length) (hk : ∀ k (h1 : k < l.length) (h2 : k < m.length), l[k] = m[k]) : l = m := List.ext_getElem h hk
set_option maxRecDepth 100000 in
theorem same_any {l m : List EI} (h1 : RowE w A l) (h2 : RowE w B m) (hl : l.length ≤ 1000) (_hm : m.length ≤ 1000) :
  Calls Tryz.prog 21 #[.slice A l.length c1, .slice B m.length c2] w (Ret (.bool (decide (l = m))) w) := by
 by_cases hn : l.length = m.length
 ·have H1 := Lib.hid h1
  have H2 := Lib.hid h2
  have HN := Lib.hid hn
  have hni : (l.length : Int) = (m.length : Int) := by omega
  obtain ⟨N, hN⟩ : ∃ N, m.length = N := ⟨_, rfl⟩
  have HM := Lib.hid hN
  rw [hn, hN] at hl ⊢
  clear h1 h2 hn hni hN
  go_enter Tryz.func21, Tryz.ntmps21
  go_wp2_with fail
  go_loopw [5] (fun i wr => ∃ k : Nat, k ≤ N ∧ i = .int .i64 (k : Int) ∧ (∀ j (a : j < l.length) (b : j < m.length), j < k → l[j] = m[j]) ∧ Below w.heap.size w wr) (fun i _ => N - (intOf i).toNat)
  case atStart => exact ⟨0, Nat.zero_le _, rfl, fun j _ _ hj => absurd hj (Nat.not_lt_zero _), ext_refl _⟩
  case round =>
   obtain ⟨k, hk, rfl, hs, hb⟩ := hrel
   have HS := Lib.hid hs
   clear hs
   by_cases hlt : k < N
   ·have k1 : k < l.length := by rw [HN.out, HM.out]; exact hlt
    have k2 : k < m.length := by rw [HM.out]; exact hlt
    obtain ⟨g, rfl, hg, hc⟩ := H1.out (by omega)
    obtain ⟨g', rfl, hg', hc'⟩ := H2.out (by omega)
    obtain ⟨x0, x1, x2, x3, x4, x5, x6⟩ := (hc k k1).below hg hb
    obtain ⟨y0, y1, y2, y3, y4, y5, y6⟩ := (hc' k k2).below hg' hb
    have i0 : (0 : Int) ≤ (k : Int) := by omega
    have i1 : (k : Int) < (N : Int) := by omega
    have HNX := Lib.hid (fun e : l[k] = m[k] => (show ∀ j (a : j < l.length) (b : j < m.length), j < k + 1 → l[j] = m[j] from fun j a b hj => by
     by_cases hjk : j < k
     ·exact HS.out j a b hjk
     ·obtain rfl : j = k := by omega
      exact e))
    have HNE := Lib.hid (fun e : l[k] ≠ m[k] => list_ne k1 k2 e)
    have HB := Lib.hid hb
    clear hc hc' hg hg' hb
    obtain ⟨x, hx⟩ : ∃ x, l[k]'(by rw [HN.out, HM.out]; exact hlt) = x := ⟨_, rfl⟩
    obtain ⟨y, hy⟩ : ∃ y, m[k]'(by rw [HM.out]; exact hlt) = y := ⟨_, rfl⟩
    rw [hx] at x0 x1 x2 x3 x4 x5 x6 HNX HNE
    rw [hy] at y0 y1 y2 y3 y4 y5 y6 HNX HNE
    clear hx hy k1 k2
    have hne := fun W => ent_neq_run x y W
    rw [same_dec] at hne
    unfold EI.val at hne
    by_cases hxy : x = y
    ·rw [decide_eq_true hxy] at hne
     have HNX2 := Lib.hid (HNX.out hxy)
     clear HNX HNE hxy
     go_wp2_with fail
     go_quiet (fail)
     go_wp2_with fail
     go_roundw
     ·exact ⟨k + 1, by omega, by go_num, HNX2.out, below_drewN' HB.out _⟩
     ·simp [intOf]; omega
    ·rw [decide_eq_false hxy] at hne
     have HF := Lib.hid (decide_eq_false (HNE.out hxy))
     clear HNX HNE hxy
     go_wp2_with fail
     go_quiet (fail)
     go_wp2_with fail
     go_ret
     exact ⟨by rw [HF.out]; rfl, below_drewN' HB.out _⟩
   ·have HT := Lib.hid (decide_eq_true (list_eq HN.out fun j a b => HS.out j a b (by rw [HM.out] at b; omega)))
    have HB := Lib.hid hb
    clear hb
    go_wp2_with fail
    go_ret
    exact ⟨by rw [HT.out]; rfl, HB.out⟩
 ·have hni : ¬ (l.length : Int) = (m.length : Int) := by omega
  have hne : decide (l = m) = false := decide_eq_false fun e => hn (by rw [e])
  rw [hne]
  clear h1 h2 hn hne
  go_enter Tryz.func21, Tryz.ntmps21
  go_wp2_with fail
  go_ret
  exact ⟨rfl, ext_refl _⟩
set_option maxRecDepth 100000 in
theorem texts_any {l m : List ByteArray} (h1 : RowAt w A (l.map (.string ·))) (h2 : RowAt w B (m.map (.string ·))) (hl : l.length ≤ 1000) (_hm : m.length ≤ 1000) :
  Calls Tryz.prog 24 #[.slice A l.length c1, .slice B m.length c2] w (Ret (.bool (decide (l = m))) w) := by
 by_cases hn : l.length = m.length
 ·have H1 := Lib.hid h1
  have H2 := Lib.hid h2
  have HN := Lib.hid hn
  have hni : (l.length : Int) = (m.length : Int) := by omega
  obtain ⟨N, hN⟩ : ∃ N, m.length = N := ⟨_, rfl⟩
  have HM := Lib.hid hN
  rw [hn, hN] at hl ⊢
  clear h1 h2 hn hni hN
  go_enter Tryz.func24, Tryz.ntmps24
  go_wp2_with fail
  go_loopw [5] (fun i wr => ∃ k : Nat, k ≤ N ∧ i = .int .i64 (k : Int) ∧ (∀ j (a : j < l.length) (b : j < m.length), j < k → l[j] = m[j]) ∧ Below w.heap.size w wr) (fun i _ => N - (intOf i).toNat)
  case atStart => exact ⟨0, Nat.zero_le _, rfl, fun j _ _ hj => absurd hj (Nat.not_lt_zero _), ext_refl _⟩
  case round =>
   obtain ⟨k, hk, rfl, hs, hb⟩ := hrel
   have HS := Lib.hid hs
   clear hs
   by_cases hlt : k < N
   ·have k1 : k < l.length := by rw [HN.out, HM.out]; exact hlt
    have k2 : k < m.length := by rw [HM.out]; exact hlt
    obtain ⟨g, rfl, hg, hc⟩ := H1.out (by rw [List.length_map]; omega)
    obtain ⟨g', rfl, hg', hc'⟩ := H2.out (by rw [List.length_map]; omega)
    have x0 := (hb.cell (p := ⟨g, k, none⟩) hg).trans (hc k (by rw [List.length_map]; exact k1))
    have y0 := (hb.cell (p := ⟨g', k, none⟩) hg').trans (hc' k (by rw [List.length_map]; exact k2))
    rw [List.getElem_map] at x0 y0
    have i0 : (0 : Int) ≤ (k : Int) := by omega
    have i1 : (k : Int) < (N : Int) := by omega
    have HNX := Lib.hid (fun e : l[k] = m[k] => (show ∀ j (a : j < l.length) (b : j < m.length), j < k + 1 → l[j] = m[j] from fun j a b hj => by
     by_cases hjk : j < k
     ·exact HS.out j a b hjk
     ·obtain rfl : j = k := by omega
      exact e))
    have HNE := Lib.hid (fun e : l[k] ≠ m[k] => list_ne k1 k2 e)
    have HB := Lib.hid hb
    clear hc hc' hg hg' hb
    obtain ⟨x, hx⟩ : ∃ x, l[k]'(by rw [HN.out, HM.out]; exact hlt) = x := ⟨_, rfl⟩
    obtain ⟨y, hy⟩ : ∃ y, m[k]'(by rw [HM.out]; exact hlt) = y := ⟨_, rfl⟩
    rw [hx] at x0 HNX HNE
    rw [hy] at y0 HNX HNE
    clear hx hy k1 k2
    have hne := str_iff x y
    by_cases hxy : x = y
    ·subst hxy
     have HNX2 := Lib.hid (HNX.out rfl)
     clear HNX HNE hne
     go_wp2_with fail
     go_quiet (fail)
     go_wp2_with fail
     go_roundw
     ·exact ⟨k + 1, by omega, by go_num, HNX2.out, below_drewN' HB.out _⟩
     ·simp [intOf]; omega
    ·have hbb : (x.toList == y.toList) = false := by rw [str_eqb]; exact decide_eq_false hxy
     have hbn : (x.toList != y.toList) = true := by rw [bne, hbb]; rfl
     have HF := Lib.hid (decide_eq_false (HNE.out hxy))
     clear HNX HNE hxy hne
     go_wp2_with fail
     go_quiet (fail)
     go_wp2_with fail
     go_ret
     exact ⟨by rw [HF.out]; rfl, below_drewN' HB.out _⟩
   ·have HT := Lib.hid (decide_eq_true (list_eq HN.out fun j a b => HS.out j a b (by rw [HM.out] at b; omega)))
    have HB := Lib.hid hb
    clear hb
    go_wp2_with fail
    go_ret
    exact ⟨by rw [HT.out]; rfl, HB.out⟩
 ·have hni : ¬ (l.length : Int) = (m.length : Int) := by omega
  have hne : decide (l = m) = false := decide_eq_false fun e => hn (by rw [e])
  rw [hne]
  clear h1 h2 hn hne
  go_enter Tryz.func24, Tryz.ntmps24
  go_wp2_with fail
  go_ret
  exact ⟨rfl, ext_refl _⟩
def QO.cs (x : QO) : List Value := [.int .i64 x.kind, .int .i64 x.a, .int .i64 x.b, .int .i64 x.e.id, .int .i64 x.e.side, .string x.e.key, .string x.e.data, .int .i64 x.e.due, .bool x.e.cust, .bool x.e.sent]
def QO.val (x : QO) : Value := .agg #[.int .i64 x.kind, .int .i64 x.a, .int .i64 x.b, .int .i64 x.e.id, .int .i64 x.e.side, .string x.e.key, .string x.e.data, .int .i64 x.e.due, .bool x.e.cust, .bool x.e.sent]
abbrev opX (x : QO) : Array Value := #[.int .i64 x.kind, .int .i64 x.a, .int .i64 x.b, .int .i64 x.e.id, .int .i64 x.e.side, .string x.e.key, .string x.e.data, .int .i64 x.e.due, .bool x.e.cust, .bool x.e.sent]
abbrev opC (k xa xb : Int) (xe : EI) : Array Value := #[.int .i64 k, .int .i64 xa, .int .i64 xb, .int .i64 xe.id, .int .i64 xe.side, .string xe.key, .string xe.data, .int .i64 xe.due, .bool xe.cust, .bool xe.sent]
abbrev sdA : Array Value := #[.int .i64 0, .slice none 0 0, .int .i64 0]
def OpAt (w : World) (a : Addr) (x : QO) : Prop := w.cell? a = some (.int .i64 x.kind) ∧ w.cell? ⟨a.block, a.off + 1, none⟩ = some (.int .i64 x.a) ∧ w.cell? ⟨a.block, a.off + 2, none⟩ = some (.int .i64 x.b) ∧ w.cell? ⟨a.block, a.off + 3, none⟩ = some (.int .i64 x.e.id) ∧ w.cell? ⟨a.block, a.off + 4, none⟩ = some (.int .i64 x.e.side) ∧
 w.cell? ⟨a.block, a.off + 5, none⟩ = some (.string x.e.key) ∧ w.cell? ⟨a.block, a.off + 6, none⟩ = some (.string x.e.data) ∧ w.cell? ⟨a.block, a.off + 7, none⟩ = some (.int .i64 x.e.due) ∧ w.cell? ⟨a.block, a.off + 8, none⟩ = some (.bool x.e.cust) ∧ w.cell? ⟨a.block, a.off + 9, none⟩ = some (.bool x.e.sent)
theorem OpAt.below {a : Addr} {x : QO} (h : OpAt w a x) (ha : a.block < w.heap.size) (hb : Below w.heap.size w w') : OpAt w' a x := by
 obtain ⟨h0, h1, h2, h3, h4, h5, h6, h7, h8, h9⟩ := h
 exact ⟨(hb.cell ha).trans h0, (hb.cell (by exact ha)).trans h1, (hb.cell (by exact ha)).trans h2, (hb.cell (by exact ha)).trans h3, (hb.cell (by exact ha)).trans h4, (hb.cell (by exact ha)).trans h5, (hb.cell (by exact ha)).trans h6, (hb.cell (by exact ha)).trans h7, (hb.cell (by exact ha)).trans h8, (hb.cell (by exact ha)).trans h9⟩
def cellsC (l : List QO) : List Value := l.flatMap QO.cs
theorem cellsC_length (l : List QO) : (cellsC l).length = l.length * 10 := by
 induction l with
 | nil => rfl
 | cons r l ih => rw [show cellsC (r :: l) = r.cs ++ cellsC l by simp [cellsC], List.length_append, ih, List.length_cons]; show 10 + _ = _; omega
theorem cellsC_snoc (l : List QO) (r : QO) : cellsC (l ++ [r]) = cellsC l ++ r.cs := by simp [cellsC]
theorem cellsC_get (l : List QO) : ∀ (i : Nat) (h : i < l.length) (j : Nat), j < 10 → (cellsC l)[i * 10 + j]? = (l[i].cs)[j]? := by
 induction l with
 | nil => intro i h; simp at h
 | cons r l ih =>
  intro i h j hj
  have e : cellsC (r :: l) = r.cs ++ cellsC l := by simp [cellsC]
  have hc : r.cs.length = 10 := rfl
  cases i with
  | zero => rw [e, Nat.zero_mul, Nat.zero_add, List.getElem?_append_left (by omega)]; rfl
  | succ i =>
   have := ih i (by simpa using h) j hj
   rw [e, List.getElem?_append_right (by omega), hc, show (i + 1) * 10 + j - 10 = i * 10 + j by omega]
   exact this
def RdC (w : World) (A : Option Addr) (xs : List QO) : Prop := 0 < xs.length → ∃ a, A = some a ∧ a.block < w.heap.size ∧ ∀ (i : Nat) (h : i < xs.length), OpAt w (a.add (i * 10)) xs[i]
theorem RdC.below {xs : List QO} (h : RdC w A xs) (hb : Below w.heap.size w w') : RdC w' A xs := fun hp => by
 obtain ⟨a, h1, h2, h3⟩ := h hp
 exact ⟨a, h1, Nat.lt_of_lt_of_le h2 hb.size, fun i hi => (h3 i hi).below (by rw [add_blk]; exact h2) hb⟩
theorem rdC_own {base n : Nat} {t : TypeId} {V : Value} {l : List QO} (h : w.ownsRow base t 10 V n (cellsC l)) : n = l.length ∧ ∃ A c, V = .slice A n c ∧ RdC w A l := by
 have hn : l.length = n := by have := h.1; rw [cellsC_length] at this; omega
 refine ⟨hn.symm, ?_⟩
 have h' := h
 obtain ⟨-, ⟨rfl, h0⟩ | ⟨g, cap, cur, rfl, -⟩⟩ := h'
 ·subst h0
  exact ⟨none, 0, rfl, fun hp => by omega⟩
 ·refine ⟨some ⟨g, 0, none⟩, cap, rfl, fun hp => ⟨⟨g, 0, none⟩, rfl, (h.lt g rfl).2, fun i hi => ?_⟩⟩
  have hg := cellsC_get l i hi
  have ha : ∀ k : Nat, (⟨g, 0, none⟩ : Addr).add k = ⟨g, k, none⟩ := fun k => by unfold Addr.add; split <;> simp_all
  have k : ∀ j u, j < 10 → (l[i].cs)[j]? = some u → w.cell? ⟨g, i * 10 + j, none⟩ = some u := fun j u hj hu => by
   have := h.cells rfl (i * 10 + j) u ((hg j hj).trans hu)
   rwa [ha] at this
  rw [ha]
  exact ⟨k 0 _ (by omega) rfl, k 1 _ (by omega) rfl, k 2 _ (by omega) rfl, k 3 _ (by omega) rfl, k 4 _ (by omega) rfl, k 5 _ (by omega) rfl, k 6 _ (by omega) rfl, k 7 _ (by omega) rfl, k 8 _ (by omega) rfl, k 9 _ (by omega) rfl⟩
theorem infoQO : (Tryz.prog.info? 25).map (fun i => (i.zero, i.size, i.bytes)) = some (some (.agg #[.int .i64 0, .int .i64 0, .int .i64 0, .int .i64 0, .int .i64 0, .string ByteArray.empty, .string ByteArray.empty, .int .i64 0, .bool false, .bool false]), 10, 88) := by kernel_rfl
def QO.cut (x : QO) : QO := ⟨x.kind, x.a, x.b, ⟨x.e.id, x.e.side, x.e.key.extract 0 (min x.e.key.size 121), x.e.data.extract 0 (min x.e.data.size 300), x.e.due, x.e.cust, x.e.sent⟩⟩
theorem run_min_q (ts : Array TypeId) (t : TypeId) (x y : Int) (w : World) : (Builtin.min_ ts t #[.int .i64 x, .int .i64 y]).run Tryz.prog w = .ok (.int .i64 (if y < x then y else x)) w := by
 simp [Builtin.min_, Builtin.min2]
theorem minq (M : Nat) (ts : Array TypeId) (t : TypeId) (x : Nat) : ∃ m : Nat, m = min x M ∧ ∀ w : World, (Builtin.min_ ts t #[.int .i64 (x : Int), .int .i64 (M : Int)]).run Tryz.prog w = .ok (.int .i64 (m : Int)) w := by
 refine ⟨min x M, rfl, fun w => ?_⟩
 rw [run_min_q]
 congr 2
 split <;> omega
set_option maxRecDepth 100000 in
theorem qcut_any (A : Option Addr) (n c : Nat) (xs : List QO) (w : World) (hx : xs.length = min n 30) (ha : RdC w A xs) (hd : ∀ x ∈ xs, x.e.key.size ≤ 9223372036854775807 ∧ x.e.data.size ≤ 9223372036854775807) :
  Calls Tryz.prog 14 #[.slice A n c] w fun e w' => ∃ V, e = .returned V ∧ w'.ownsRow w.heap.size 25 10 V xs.length (cellsC (xs.map QO.cut)) ∧ Below w.heap.size w w' := by
 obtain ⟨i0, hi0, hz0, hz1, hz2⟩ := info_parts infoQO
 go_enter Tryz.func14, Tryz.ntmps14
 go_wp2_with fail
 go_loopw [3, 4] (fun out i wr => ∃ k : Nat, k ≤ xs.length ∧ i = .int .i64 (k : Int) ∧ wr.ownsRow w.heap.size 25 10 out k (cellsC ((xs.take k).map QO.cut)) ∧ Below w.heap.size w wr) (fun _ i _ => xs.length - (intOf i).toNat)
 case atStart => exact ⟨0, by omega, rfl, own_nil, Below.refl _ _⟩
 case round =>
  obtain ⟨k, hk, rfl, hown, hbe⟩ := hrel
  have hsz := hbe.size
  by_cases hlt : k < xs.length
  ·obtain ⟨a, rfl, hab, hca⟩ := ha (by omega)
   obtain ⟨x0, x1, x2, x3, x4, x5, x6, x7, x8, x9⟩ := (hca k hlt).below (by rw [add_blk]; exact hab) hbe
   obtain ⟨hdk, hdd⟩ := hd _ (List.getElem_mem hlt)
   have hsn : cellsC ((xs.take (k + 1)).map QO.cut) = cellsC ((xs.take k).map QO.cut) ++ (xs[k].cut).cs := by
    rw [List.take_succ_eq_append_getElem hlt, List.map_append, List.map_singleton, cellsC_snoc]
   obtain ⟨⟨kd, ka, kb, ⟨e0, e1, e2, e3, e4, e5, e6⟩⟩, hxk⟩ : ∃ x, xs[k] = x := ⟨_, rfl⟩
   rw [hxk] at x0 x1 x2 x3 x4 x5 x6 x7 x8 x9 hdk hdd hsn
   dsimp only at x0 x1 x2 x3 x4 x5 x6 x7 x8 x9 hdk hdd
   obtain ⟨m, hm, hmin⟩ := minq 121 #[3, 3] 3 e2.size
   obtain ⟨m2, hm2, hmin2⟩ := minq 300 #[3, 3] 3 e3.size
   replace hmin : ∀ w : World, (Builtin.min_ #[3, 3] 3 #[.int .i64 (e2.size : Int), .int .i64 121]).run Tryz.prog w = .ok (.int .i64 (m : Int)) w := hmin
   replace hmin2 : ∀ w : World, (Builtin.min_ #[3, 3] 3 #[.int .i64 (e3.size : Int), .int .i64 300]).run Tryz.prog w = .ok (.int .i64 (m2 : Int)) w := hmin2
   unfold QO.cut at hsn
   dsimp only at hsn
   rw [← hm, ← hm2] at hsn
   change cellsC ((xs.take (k + 1)).map QO.cut) = cellsC ((xs.take k).map QO.cut) ++ [.int .i64 kd, .int .i64 ka, .int .i64 kb, .int .i64 e0, .int .i64 e1, .string (e2.extract 0 m), .string (e3.extract 0 m2), .int .i64 e4, .bool e5, .bool e6] at hsn
   have HS := Lib.hid hsn
   have i1 : (0 : Int) ≤ (k : Int) := by omega
   have i2 : (k : Int) < (n : Int) := by omega
   have i3 : (k : Int) < 30 := by omega
   have z0 : (0 : Int) ≤ (m : Int) := by omega
   have z1 : (m : Int) ≤ (e2.size : Int) := by omega
   have z2 : (0 : Int) ≤ (m2 : Int) := by omega
   have z3 : (m2 : Int) ≤ (e3.size : Int) := by omega
   obtain ⟨A0, c0, rfl⟩ := own_form hown
   have hown1 := (hown.alloc (.cells #[.int .i64 kd, .int .i64 ka, .int .i64 kb, .int .i64 e0, .int .i64 e1, .string (e2.extract 0 m), .string (e3.extract 0 m2), .int .i64 e4, .bool e5, .bool e6] 25)).alloc (.cells #[.int .i64 kd, .int .i64 ka, .int .i64 kb, .int .i64 e0, .int .i64 e1, .string (e2.extract 0 m), .string (e3.extract 0 m2), .int .i64 e4, .bool e5, .bool e6] 25)
   obtain ⟨V', w6, hr, hown6, hgrow, -, -⟩ := run_append_own_at (P := Tryz.prog) (w := (wr.alloc (.cells #[.int .i64 kd, .int .i64 ka, .int .i64 kb, .int .i64 e0, .int .i64 e1, .string (e2.extract 0 m), .string (e3.extract 0 m2), .int .i64 e4, .bool e5, .bool e6] 25)).alloc (.cells #[.int .i64 kd, .int .i64 ka, .int .i64 kb, .int .i64 e0, .int .i64 e1, .string (e2.extract 0 m), .string (e3.extract 0 m2), .int .i64 e4, .bool e5, .bool e6] 25)) w.heap.size 27 27 25 i0 (.agg #[.int .i64 0, .int .i64 0, .int .i64 0, .int .i64 0, .int .i64 0, .string ByteArray.empty, .string ByteArray.empty, .int .i64 0, .bool false, .bool false]) 10 88 Tryz.underlying27 hi0 hz0 hz1 hz2 rfl (by omega) _ _ _ hown1 ⟨wr.heap.size + 1, 0, none⟩ 1 1 [.int .i64 kd, .int .i64 ka, .int .i64 kb, .int .i64 e0, .int .i64 e1, .string (e2.extract 0 m), .string (e3.extract 0 m2), .int .i64 e4, .bool e5, .bool e6] rfl
    (fun j u hj => by
     have := Blk.cells_ (Blk.new_ (wr.alloc (.cells #[.int .i64 kd, .int .i64 ka, .int .i64 kb, .int .i64 e0, .int .i64 e1, .string (e2.extract 0 m), .string (e3.extract 0 m2), .int .i64 e4, .bool e5, .bool e6] 25)) 25 #[.int .i64 kd, .int .i64 ka, .int .i64 kb, .int .i64 e0, .int .i64 e1, .string (e2.extract 0 m), .string (e3.extract 0 m2), .int .i64 e4, .bool e5, .bool e6]) j u hj
     rw [World.size_alloc] at this; exact this)
    (fun u hu => by
     simp only [List.mem_cons, List.not_mem_nil, or_false] at hu
     obtain rfl | rfl | rfl | rfl | rfl | rfl | rfl | rfl | rfl | rfl := hu <;> rfl) (by unfold maxLen; omega) (by omega) (by simp; omega)
   have hbe3 : Below w.heap.size w w6 := below_append ((hbe.alloc hsz _).alloc (by simp; omega) _) hown1 (Nat.le_refl _) (Nat.le_refl _) hgrow
   have HEND := Lib.hid (show w6.ownsRow w.heap.size 25 10 V' (k + 1) (cellsC ((xs.take (k + 1)).map QO.cut)) ∧ Below w.heap.size w w6 from by rw [HS.out]; exact ⟨hown6, hbe3⟩)
   clear hsn hm hm2 hown hown1 hown6 hgrow hbe3 hca ha hd hbe hxk hsz
   go_wp2_with (at_builtin; refine Lib.wpList_append_run _ rfl _ _ _ _ rfl _ _ rfl rfl _ _ hr ?_)
   go_roundw
   ·exact ⟨k + 1, by omega, by go_num, HEND.out⟩
   ·simp [intOf]; omega
  ·obtain rfl : k = xs.length := by omega
   rw [List.take_length] at hown
   obtain ⟨A0, c0, rfl⟩ := own_form hown
   by_cases hn : n ≤ 30
   ·have hxn : xs.length = n := by omega
    rw [hxn] at hown ⊢
    have hq : ¬ (n : Int) < (n : Int) := by omega
    go_wp2_with fail
    go_ret
    exact ⟨_, rfl, hown, hbe⟩
   ·have hxn : xs.length = 30 := by omega
    rw [hxn] at hown ⊢
    have hq : (30 : Int) < (n : Int) := by omega
    have hq2 : ((30 : Nat) : Int) < (n : Int) := by omega
    go_wp2_with fail
    go_ret
    exact ⟨.slice A0 30 c0, rfl, by rw [hxn]; exact hown, hbe⟩
end Go.Proofs.YtmebjdbkngehiaaGreatDoor
