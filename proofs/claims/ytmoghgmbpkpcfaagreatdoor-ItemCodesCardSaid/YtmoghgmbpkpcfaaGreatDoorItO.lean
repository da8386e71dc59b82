/-
  What the rows of chapter 04 list: items that came in. No condition.
-/
import Derived.Test.YtmoghgmbpkpcfaaGreatDoorItVt
import Derived.Test.YtmoghgmbpkpcfaaGreatDoorItLV
import Derived.Deep.Slices
import Derived.Deep.Strs
import Derived.OpenShut
namespace Go.Proofs.YtmoghgmbpkpcfaaGreatDoor
open Go.ChangeShapes Go.WideShapes Go.RowKit

theorem item_cells : Tryz.prog.cellsOf 24 = 4 := by kernel_rfl
def VT.cs (t : VT) : List Value := [.int .i64 t.kind, .int .i64 t.num, .string t.txt, t.row]
set_option maxRecDepth 100000 in
/-- An item's cells, read so deep. -/
theorem cells_item {H : Type} {enc : TypeId × Value → H} {W : World} (d : Nat) : ∀ {fuel : Nat} {cs : List Value} {x : DataW H × List MemPlace}, DataW.trod enc Tryz.prog W 0 (fun _ => true) true fuel 24 cs = some x →
    ∃ t : VT, cs = t.cs ∧ VAt W.heap.size W d t := by
  induction d with
  | zero =>
    intro fuel cs x h
    obtain ⟨xs, n, -, -, hl, hlen, hf⟩ := DataW.trod_struct Tryz.underlying24 h
    rw [item_cells] at hl
    match xs, hlen, cs, hl with
    | [y0, y1, y2, y3], _, [c0, c1, c2, c3], _ =>
      have h0 := hf 0 _ rfl
      have h1 := hf 1 _ rfl
      have h2 := hf 2 _ rfl
      have h3 := hf 3 _ rfl
      simp only [List.getElem?_cons_zero, List.getElem?_cons_succ] at h0 h1 h2 h3
      obtain ⟨k, g0, -, -⟩ := DataW.trod_int Tryz.underlying3 h0
      obtain ⟨m, g1, -, -⟩ := DataW.trod_int Tryz.underlying3 h1
      obtain ⟨s, g2, -, -⟩ := DataW.trod_string Tryz.underlying9 h2
      injection g0 with g0
      injection g1 with g1
      injection g2 with g2
      rcases Go.Deep.open_slice Tryz.underlying22 h3 with ⟨hcs, -⟩ | ⟨a, len, cap, _, _, _, _, hcs, -⟩
      · injection hcs with hcs
        exact ⟨.mk k m s none 0 0 [], by rw [g0, g1, g2, hcs]; rfl, trivial⟩
      · injection hcs with hcs
        exact ⟨.mk k m s (some a) len cap [], by rw [g0, g1, g2, hcs]; rfl, trivial⟩
  | succ d ih =>
    intro fuel cs x h
    obtain ⟨xs, n, -, -, hl, hlen, hf⟩ := DataW.trod_struct Tryz.underlying24 h
    rw [item_cells] at hl
    match xs, hlen, cs, hl with
    | [y0, y1, y2, y3], _, [c0, c1, c2, c3], _ =>
      have h0 := hf 0 _ rfl
      have h1 := hf 1 _ rfl
      have h2 := hf 2 _ rfl
      have h3 := hf 3 _ rfl
      simp only [List.getElem?_cons_zero, List.getElem?_cons_succ] at h0 h1 h2 h3
      obtain ⟨k, g0, -, -⟩ := DataW.trod_int Tryz.underlying3 h0
      obtain ⟨m, g1, -, -⟩ := DataW.trod_int Tryz.underlying3 h1
      obtain ⟨s, g2, -, b2⟩ := DataW.trod_string Tryz.underlying9 h2
      injection g0 with g0
      injection g1 with g1
      injection g2 with g2
      rcases Go.Deep.open_slice Tryz.underlying22 h3 with ⟨hcs, -⟩ | ⟨a, len, cap, mm, nn, D, Pl, hcs, -, hlc, hcm, hmm, -, hx⟩
      · injection hcs with hcs
        exact ⟨.mk k m s none 0 0 [], by rw [g0, g1, g2, hcs]; rfl, str_bounds b2, Nat.zero_le _, fun _ => ⟨rfl, fun hp => absurd hp (Nat.lt_irrefl 0), by simp [VT.kids]⟩⟩
      · injection hcs with hcs
        rw [item_cells] at hx
        have hm' : mm = cap := by simpa using hmm
        have each : ∀ i, i < min len 62 → ∃ t : VT, (W.cell? (a.add (i * 4)) = some (.int .i64 t.kind) ∧ W.cell? ⟨(a.add (i * 4)).block, (a.add (i * 4)).off + 1, none⟩ = some (.int .i64 t.num) ∧ W.cell? ⟨(a.add (i * 4)).block, (a.add (i * 4)).off + 2, none⟩ = some (.string t.txt) ∧ W.cell? ⟨(a.add (i * 4)).block, (a.add (i * 4)).off + 3, none⟩ = some t.row) ∧ VAt W.heap.size W d t := by
          intro i hi
          obtain ⟨cs', q1, q2⟩ := hx i (by omega)
          obtain ⟨-, -, hcell⟩ := World.cells?_some q1
          obtain ⟨t, rfl, ht⟩ := ih q2
          have e0 := hcell 0 (by show 0 < 4; omega)
          have e1 := hcell 1 (by show 1 < 4; omega)
          have e2 := hcell 2 (by show 2 < 4; omega)
          have e3 := hcell 3 (by show 3 < 4; omega)
          rw [ad_nil] at e0
          rw [ad_pos _ 1 (by omega)] at e1
          rw [ad_pos _ 2 (by omega)] at e2
          rw [ad_pos _ 3 (by omega)] at e3
          exact ⟨t, ⟨e0, e1, e2, e3⟩, ht⟩
        have pick : ∀ n, n ≤ min len 62 → ∃ T : List VT, T.length = n ∧ (∀ (i : Nat) (hi : i < T.length), W.cell? (a.add (i * 4)) = some (.int .i64 T[i].kind) ∧ W.cell? ⟨(a.add (i * 4)).block, (a.add (i * 4)).off + 1, none⟩ = some (.int .i64 T[i].num) ∧ W.cell? ⟨(a.add (i * 4)).block, (a.add (i * 4)).off + 2, none⟩ = some (.string T[i].txt) ∧ W.cell? ⟨(a.add (i * 4)).block, (a.add (i * 4)).off + 3, none⟩ = some T[i].row) ∧ ∀ t ∈ T, VAt W.heap.size W d t := by
          intro n
          induction n with
          | zero => exact fun _ => ⟨[], rfl, fun i hi => absurd hi (by simp), fun t ht => by cases ht⟩
          | succ n ih2 =>
            intro hn
            obtain ⟨T, t1, t2, t3⟩ := ih2 (by omega)
            obtain ⟨r, r1, r2⟩ := each n (by omega)
            refine ⟨T ++ [r], by simp [t1], fun i hi => ?_, fun t ht => ?_⟩
            · by_cases hin : i < T.length
              · rw [List.getElem_append_left hin]
                exact t2 i hin
              · obtain rfl : i = n := by simp at hi; omega
                subst t1
                simpa using r1
            · rcases List.mem_append.1 ht with ht | ht
              · exact t3 t ht
              · rw [List.mem_singleton.1 ht]; exact r2
        obtain ⟨T, t1, t2, t3⟩ := pick _ (Nat.le_refl _)
        refine ⟨.mk k m s (some a) len cap T, by rw [g0, g1, g2, hcs]; rfl, str_bounds b2, (show len ≤ _ by unfold maxLen at hcm; omega), fun _ => ⟨t1, fun hp => ?_, t3⟩⟩
        have c0 := (t2 0 hp).1
        rw [show (0 : Nat) * 4 = 0 from rfl, ad_nil] at c0
        exact ⟨a, rfl, World.block_lt_of_cell? W _ c0, t2⟩
set_option maxRecDepth 100000 in
/-- An item that came in. -/
theorem open_item {H : Type} {enc : TypeId × Value → H} {W : World} {v : Value} {d : DataW H} {p : List MemPlace} (hv : Value.okWide Tryz.prog W .any 0 24 v ∨ ∃ cs, v = .agg cs) (h : DataW.Trod enc Tryz.prog W 0 (fun _ => true) true 24 v d p) :
    ∃ t : VT, v = t.val ∧ VAt W.heap.size W 7 t := by
  obtain ⟨fuel, hf⟩ := h
  obtain ⟨cs, rfl⟩ : ∃ cs, v = .agg cs := by
    rcases hv with hv | hv
    · obtain ⟨cs, e, -⟩ := okWide_struct Tryz.underlying24 hv
      exact ⟨cs, e⟩
    · exact hv
  obtain ⟨t, e, ht⟩ := cells_item 7 hf
  refine ⟨t, ?_, ht⟩
  have : cs.toList = t.cs := by simpa [Value.cells] using e
  rw [← Array.toArray_toList (xs := cs), this]
  rfl

end Go.Proofs.YtmoghgmbpkpcfaaGreatDoor
