/-
  What the rows of chapter 18 list: slices of calls that came in. No condition.
-/
import Derived.Test.YtlkghcfjcdeokaaDoorDkO
import Derived.Deep.Slices
import Derived.Deep.Strs
import Derived.OpenShut
namespace Go.Proofs.YtlkghcfjcdeokaaDoor
open Go.ChangeShapes Go.WideShapes Go.RowKit

theorem i64_bounds {n : Int} (h : (Lit.int .i64 n).wf = true) : -9223372036854775808 ≤ n ∧ n ≤ 9223372036854775807 := by
  have h1 : (decide (IntKind.i64.min ≤ n) && decide (n ≤ IntKind.i64.max)) = true := h
  rw [Bool.and_eq_true, decide_eq_true_eq, decide_eq_true_eq, show IntKind.i64.min = -9223372036854775808 by decide, show IntKind.i64.max = 9223372036854775807 by decide] at h1
  exact h1
/-- A call's numbers are numbers. -/
def OkNums (x : OI) : Prop := x.s.size ≤ 9223372036854775807 ∧ x.a ≤ 9223372036854775807 ∧ -9223372036854775808 ≤ x.b ∧ x.b ≤ 9223372036854775807
theorem str_bounds {s : ByteArray} (h : s.size ≤ maxLen) : s.size ≤ 9223372036854775807 := Nat.le_trans h (by decide)
theorem add_pos (b : Addr) (j : Nat) (h : 0 < j) : b.add j = ⟨b.block, b.off + j, none⟩ := by
  unfold Addr.add
  rw [if_neg (by omega)]
theorem add_nil (b : Addr) : b.add 0 = b := by
  unfold Addr.add
  rw [if_pos rfl]
theorem rec_cells : Tryd.prog.cellsOf 37 = 4 := by kernel_rfl
set_option maxRecDepth 100000 in
/-- A call's cells, read. -/
theorem cells_op {H : Type} {enc : TypeId × Value → H} {W : World} {base fuel : Nat} {sp : Nat → Bool} {cs : List Value} {x : DataW H × List MemPlace} (h : DataW.trod enc Tryd.prog W base sp true fuel 37 cs = some x) :
    ∃ r : OI, cs = r.cs ∧ OkNums r := by
  obtain ⟨xs, n, -, -, hl, hlen, hf⟩ := DataW.trod_struct Tryd.underlying37 h
  rw [rec_cells] at hl
  match xs, hlen, cs, hl with
  | [y0, y1, y2, y3], _, [c0, c1, c2, c3], _ =>
    have h0 := hf 0 _ rfl
    have h1 := hf 1 _ rfl
    have h2 := hf 2 _ rfl
    have h3 := hf 3 _ rfl
    simp only [List.getElem?_cons_zero, List.getElem?_cons_succ] at h0 h1 h2 h3
    obtain ⟨op, g0, -, -⟩ := DataW.trod_int Tryd.underlying3 h0
    obtain ⟨ia, g1, -, b1⟩ := DataW.trod_int Tryd.underlying3 h1
    obtain ⟨ib, g2, -, b2⟩ := DataW.trod_int Tryd.underlying3 h2
    obtain ⟨d, g3, -, g4⟩ := DataW.trod_string Tryd.underlying9 h3
    injection g0 with g0
    injection g1 with g1
    injection g2 with g2
    injection g3 with g3
    exact ⟨⟨op, ia, ib, d⟩, by rw [g0, g1, g2, g3]; rfl, str_bounds g4, (i64_bounds b1).2, i64_bounds b2⟩
set_option maxRecDepth 100000 in
/-- A slice of calls that came in. -/
theorem open_ops {H : Type} {enc : TypeId × Value → H} {W : World} {A : Option Addr} {len cap : Nat} {d : DataW H} {p : List MemPlace} (h : DataW.Trod enc Tryd.prog W 0 (fun _ => true) true 22 (.slice A len cap) d p) (k : Nat) (hk : k ≤ len) :
    ∃ T : List OI, T.length = k ∧ RdO W A T ∧ ∀ x ∈ T, OkNums x := by
  obtain ⟨fuel, hf⟩ := h
  rcases Go.Deep.open_slice Tryd.underlying22 hf with ⟨hcs, -⟩ | ⟨a, len', cap', m, n, D, Pl, hcs, -, hl, hm, hmm, -, hx⟩
  · simp [Value.cells] at hcs
    obtain ⟨rfl, rfl, rfl⟩ := hcs
    obtain rfl : k = 0 := by omega
    exact ⟨[], rfl, fun hh => absurd hh (by simp), fun x hx => by cases hx⟩
  · simp [Value.cells] at hcs
    obtain ⟨rfl, rfl, rfl⟩ := hcs
    rw [rec_cells] at hx
    have hm' : m = cap := by simpa using hmm
    have each : ∀ i, i < k → ∃ r : OI, (W.cell? (a.add (i * 4)) = some (.int .i64 r.kind) ∧ W.cell? ⟨(a.add (i * 4)).block, (a.add (i * 4)).off + 1, none⟩ = some (.int .i64 r.a) ∧ W.cell? ⟨(a.add (i * 4)).block, (a.add (i * 4)).off + 2, none⟩ = some (.int .i64 r.b) ∧ W.cell? ⟨(a.add (i * 4)).block, (a.add (i * 4)).off + 3, none⟩ = some (.string r.s)) ∧ OkNums r := by
      intro i hi
      obtain ⟨cs', h1, h2⟩ := hx i (by omega)
      obtain ⟨-, -, hcell⟩ := World.cells?_some h1
      obtain ⟨r, rfl, hb⟩ := cells_op h2
      have e0 := hcell 0 (by omega)
      have e1 := hcell 1 (by omega)
      have e2 := hcell 2 (by omega)
      have e3 := hcell 3 (by omega)
      rw [add_nil] at e0
      rw [add_pos _ 1 (by omega)] at e1
      rw [add_pos _ 2 (by omega)] at e2
      rw [add_pos _ 3 (by omega)] at e3
      exact ⟨r, ⟨e0, e1, e2, e3⟩, hb⟩
    have pick : ∀ n, n ≤ k → ∃ T : List OI, T.length = n ∧ (∀ (i : Nat) (hi : i < T.length), W.cell? (a.add (i * 4)) = some (.int .i64 T[i].kind) ∧ W.cell? ⟨(a.add (i * 4)).block, (a.add (i * 4)).off + 1, none⟩ = some (.int .i64 T[i].a) ∧ W.cell? ⟨(a.add (i * 4)).block, (a.add (i * 4)).off + 2, none⟩ = some (.int .i64 T[i].b) ∧ W.cell? ⟨(a.add (i * 4)).block, (a.add (i * 4)).off + 3, none⟩ = some (.string T[i].s)) ∧ ∀ x ∈ T, OkNums x := by
      intro n
      induction n with
      | zero => exact fun _ => ⟨[], rfl, fun i hi => absurd hi (by simp), fun x hx => by cases hx⟩
      | succ n ih =>
        intro hn
        obtain ⟨T, h1, h2, h3⟩ := ih (by omega)
        obtain ⟨r, g1, g2⟩ := each n (by omega)
        refine ⟨T ++ [r], by simp [h1], fun i hi => ?_, fun x hx => ?_⟩
        · by_cases hin : i < T.length
          · rw [List.getElem_append_left hin]
            exact h2 i hin
          · obtain rfl : i = n := by simp at hi; omega
            subst h1
            simpa using g1
        · rcases List.mem_append.1 hx with hx | hx
          · exact h3 x hx
          · rw [List.mem_singleton.1 hx]; exact g2
    obtain ⟨T, h1, h2, h3⟩ := pick k (Nat.le_refl _)
    refine ⟨T, h1, fun hp => ?_, h3⟩
    have c0 := (h2 0 hp).1
    rw [show (0 : Nat) * 4 = 0 from rfl, add_nil] at c0
    exact ⟨a, rfl, World.block_lt_of_cell? W _ c0, h2⟩

end Go.Proofs.YtlkghcfjcdeokaaDoor
