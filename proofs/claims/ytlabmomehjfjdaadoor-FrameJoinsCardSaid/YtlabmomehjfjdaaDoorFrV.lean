/-
  What the rows list, for the walks: the errors, and what else stands there. Conditions: as the theorems' own hypotheses say.
-/
import Derived.Test.YtlabmomehjfjdaaDoorTab
import Derived.Test.YtlabmomehjfjdaaDoorFrP
import Derived.Deep.Slices
import Derived.Deep.Strs
import Derived.ChangeSlices
import Derived.Test.YtlabmomehjfjdaaDoorCards
import Derived.Test.YtlabmomehjfjdaaDoorTie
import Derived.ChangeSame
import Derived.ChangeVars
import Derived.JoinedOf
import Derived.RowKit
import Derived.RowKitTokens
import Derived.LaidLaws
import Derived.LaidSub
import Derived.LaidMore
import Derived.ProofKit
import Derived.OpenShut
import Derived.Carry
import Derived.MakeChecks
import Derived.Stop.Joined
import Derived.Stop.LaidTwo
import Derived.SevenTiedAt
namespace Go.Proofs.YtlabmomehjfjdaaDoor
open Go.ChangeShapes Go.WideShapes Go.ChangeAt Go.WideMaps Go.WideElems Go.RowKit

theorem own : ownKnob Tryd.prog.godebug = none := by kernel_rfl

theorem errs_of_laid {W : World} (h : laidMetH Tryd.prog Rows.frameCodesRow.laid W) : ∃ av : List Addr, av.length = 5 ∧ av.Nodup ∧ ∀ g a, (g, a) ∈ [1, 0, 2, 3, 4].zip av → W.cell? ⟨g, 0, none⟩ = some (ErrV a) ∧ Plain W a := by
  obtain ⟨av, h1, h2, h3⟩ := sent_of_laid_among (W := W) (fun x => x.1 != "postrider/crc.kinds") [("postrider/nums.errWidth", 1, [110, 111, 32, 119, 105, 100, 116, 104]), ("postrider/nums.errNum", 0, [110, 111, 32, 110, 117, 109, 98, 101, 114]), ("postrider/nums.errShort", 2, [116, 111, 111, 32, 115, 104, 111, 114, 116]), ("postrider/crc.errArg", 3, [110, 111, 32, 107, 105, 110, 100]), ("postrider/crc.errTable", 4, [110, 111, 32, 116, 97, 98, 108, 101])]
    Rows.frameCodesRow.laid rfl (by kernel_rfl) h (List.forall_mem_cons.2 ⟨⟨by kernel_rfl, by kernel_rfl⟩, List.forall_mem_cons.2 ⟨⟨by kernel_rfl, by kernel_rfl⟩, List.forall_mem_cons.2 ⟨⟨by kernel_rfl, by kernel_rfl⟩, List.forall_mem_cons.2 ⟨⟨by kernel_rfl, by kernel_rfl⟩, List.forall_mem_cons.2 ⟨⟨by kernel_rfl, by kernel_rfl⟩, fun _ h => by cases h⟩⟩⟩⟩⟩)
  exact ⟨av, h1, h2, h3⟩

/-- The door's own heap meets the condition. -/
theorem door_met (os : Os) (args : Array Value) : laidMetH Tryd.prog Rows.frameCodesRow.laid ((World.doorLaid Tryd.prog 400 os).forCall (fun _ _ => 0) ⟨#[], args, []⟩).memory :=
  laidMetH_of_parts3 (fuel := 8) (laidMet_of_run' 8 (by kernel_rfl) (by kernel_rfl)) (by kernel_rfl) (by kernel_rfl)

theorem i64_bounds {n : Int} (h : (Lit.int .i64 n).wf = true) : -9223372036854775808 ≤ n ∧ n ≤ 9223372036854775807 := by
  have h1 : (decide (IntKind.i64.min ≤ n) && decide (n ≤ IntKind.i64.max)) = true := h
  rw [Bool.and_eq_true, decide_eq_true_eq, decide_eq_true_eq, show IntKind.i64.min = -9223372036854775808 by decide, show IntKind.i64.max = 9223372036854775807 by decide] at h1
  exact h1
theorem str_bounds {s : ByteArray} (h : s.size ≤ maxLen) : s.size ≤ 9223372036854775807 := Nat.le_trans h (by decide)

theorem inv_of_laid {W : World} (h : laidMetH Tryd.prog Rows.frameCodesRow.laid W) : ∃ aA aT aN aW aS, CInv W aA aT aN aW aS := by
  obtain ⟨av, h1, h2, h3⟩ := errs_of_laid h
  have hk := rows_of_laid (P := Tryd.prog) (name := "postrider/crc.kinds") (rows := [[0, 0], [1, 2], [2, 4]]) (g := 5) rfl (by kernel_rfl) h (by kernel_rfl) (by kernel_rfl) Tryd.underlying98 Tryd.underlying97 (by kernel_rfl) (by kernel_rfl)
  have hc : Tryd.prog.cellsOf 97 = 2 := by kernel_rfl
  rw [hc] at hk
  match av, h1, h2, h3 with
  | [aW, aN, aS, aA, aT], _, h2, h3 =>
    have cW := h3 1 aW (by simp)
    have cN := h3 0 aN (by simp)
    have cS := h3 2 aS (by simp)
    have cA := h3 3 aA (by simp)
    have cT := h3 4 aT (by simp)
    simp only [List.nodup_cons, List.mem_cons, List.not_mem_nil, or_false, not_or] at h2
    exact ⟨aA, aT, aN, aW, aS, cA.1, cT.1, hk 0 0 _ _ rfl rfl (by decide), hk 0 1 _ _ rfl rfl (by decide), hk 1 0 _ _ rfl rfl (by decide), hk 1 1 _ _ rfl rfl (by decide), hk 2 0 _ _ rfl rfl (by decide), hk 2 1 _ _ rfl rfl (by decide),
      cA.2, cT.2, h2.2.2.2.1, ⟨cN.1, cW.1, cS.1, cN.2, cW.2, cS.2, fun e => h2.1.1 e.symm, h2.2.1.1, h2.1.2.1⟩⟩


theorem add_pos (b : Addr) (j : Nat) (h : 0 < j) : b.add j = ⟨b.block, b.off + j, none⟩ := by
  unfold Addr.add
  rw [if_neg (by omega)]
theorem add_nil (b : Addr) : b.add 0 = b := by
  unfold Addr.add
  rw [if_pos rfl]
theorem rec_cells : Tryd.prog.cellsOf 23 = 3 := by kernel_rfl
set_option maxRecDepth 100000 in
/-- A record's cells, read. -/
theorem cells_rec {H : Type} {enc : TypeId × Value → H} {W : World} {base fuel : Nat} {sp : Nat → Bool} {cs : List Value} {x : DataW H × List MemPlace} (h : DataW.trod enc Tryd.prog W base sp true fuel 23 cs = some x) :
    ∃ (op id : Int) (d : ByteArray), cs = [.int .i64 op, .int .i64 id, .string d] ∧ d.size ≤ maxLen := by
  obtain ⟨y0, y1, y2, n, -, hl, h0, h1, h2⟩ := Go.Deep.trod_struct3 Tryd.underlying23 h
  rw [rec_cells] at hl
  match cs, hl with
  | [c0, c1, c2], _ =>
    have e1 : Tryd.prog.cellsOf 3 = 1 := by kernel_rfl
    have e2 : Tryd.prog.cellsOf 9 = 1 := by kernel_rfl
    dsimp only at h0 h1 h2
    simp only [e1, e2, List.drop, List.take] at h0 h1 h2
    obtain ⟨op, g0, -, -⟩ := DataW.trod_int Tryd.underlying3 h0
    obtain ⟨id, g1, -, -⟩ := DataW.trod_int Tryd.underlying3 h1
    obtain ⟨d, g2, -, g3⟩ := DataW.trod_string Tryd.underlying9 h2
    injection g0 with g0
    injection g1 with g1
    injection g2 with g2
    exact ⟨op, id, d, by rw [g0, g1, g2], g3⟩
set_option maxRecDepth 100000 in
/-- A record that came in. -/
theorem open_rec {H : Type} {enc : TypeId × Value → H} {W : World} {v : Value} {d : DataW H} {p : List MemPlace} (hv : Value.okWide Tryd.prog W .any 0 23 v ∨ ∃ cs, v = .agg cs) (h : DataW.Trod enc Tryd.prog W 0 (fun _ => true) true 23 v d p) :
    ∃ (op id : Int) (b : ByteArray), v = .agg #[.int .i64 op, .int .i64 id, .string b] ∧ b.size ≤ 9223372036854775807 := by
  obtain ⟨fuel, hf⟩ := h
  obtain ⟨cs, rfl⟩ : ∃ cs, v = .agg cs := by
    rcases hv with hv | hv
    · obtain ⟨cs, e, -⟩ := okWide_struct Tryd.underlying23 hv
      exact ⟨cs, e⟩
    · exact hv
  obtain ⟨op, id, b, e, hb⟩ := cells_rec hf
  refine ⟨op, id, b, ?_, str_bounds hb⟩
  have : cs.toList = [.int .i64 op, .int .i64 id, .string b] := by simpa [Value.cells] using e
  rw [← Array.toArray_toList (xs := cs), this]
set_option maxRecDepth 100000 in
/-- A slice of records that came in. -/
theorem open_recs {H : Type} {enc : TypeId × Value → H} {W : World} {A : Option Addr} {len cap : Nat} {d : DataW H} {p : List MemPlace} (h : DataW.Trod enc Tryd.prog W 0 (fun _ => true) true 25 (.slice A len cap) d p) (k : Nat) (hk : k ≤ len) :
    ∃ T : List RI, T.length = k ∧ RdR W A T ∧ ∀ x ∈ T, x.d.size ≤ 9223372036854775807 := by
  obtain ⟨fuel, hf⟩ := h
  rcases Go.Deep.open_slice Tryd.underlying25 hf with ⟨hcs, -⟩ | ⟨a, len', cap', m, n, D, Pl, hcs, -, hl, hm, hmm, -, hx⟩
  · simp [Value.cells] at hcs
    obtain ⟨rfl, rfl, rfl⟩ := hcs
    obtain rfl : k = 0 := by omega
    exact ⟨[], rfl, fun hh => absurd hh (by simp), fun x hx => by cases hx⟩
  · simp [Value.cells] at hcs
    obtain ⟨rfl, rfl, rfl⟩ := hcs
    rw [rec_cells] at hx
    have hm' : m = cap := by simpa using hmm
    have each : ∀ i, i < k → ∃ r : RI, (W.cell? (a.add (i * 3)) = some (.int .i64 r.op) ∧ W.cell? ⟨(a.add (i * 3)).block, (a.add (i * 3)).off + 1, none⟩ = some (.int .i64 r.id) ∧ W.cell? ⟨(a.add (i * 3)).block, (a.add (i * 3)).off + 2, none⟩ = some (.string r.d)) ∧ r.d.size ≤ 9223372036854775807 := by
      intro i hi
      obtain ⟨cs', h1, h2⟩ := hx i (by omega)
      obtain ⟨-, -, hcell⟩ := World.cells?_some h1
      obtain ⟨op, id, b, rfl, hb⟩ := cells_rec h2
      have e0 := hcell 0 (by omega)
      have e1 := hcell 1 (by omega)
      have e2 := hcell 2 (by omega)
      rw [add_nil] at e0
      rw [add_pos _ 1 (by omega)] at e1
      rw [add_pos _ 2 (by omega)] at e2
      exact ⟨⟨op, id, b⟩, ⟨e0, e1, e2⟩, str_bounds hb⟩
    have pick : ∀ n, n ≤ k → ∃ T : List RI, T.length = n ∧ (∀ (i : Nat) (hi : i < T.length), W.cell? (a.add (i * 3)) = some (.int .i64 T[i].op) ∧ W.cell? ⟨(a.add (i * 3)).block, (a.add (i * 3)).off + 1, none⟩ = some (.int .i64 T[i].id) ∧ W.cell? ⟨(a.add (i * 3)).block, (a.add (i * 3)).off + 2, none⟩ = some (.string T[i].d)) ∧ ∀ x ∈ T, x.d.size ≤ 9223372036854775807 := by
      intro n
      induction n with
      | zero => exact fun _ => ⟨[], rfl, fun i hi => absurd hi (by simp), fun x hx => by cases hx⟩
      | succ n ih =>
        intro hn
        obtain ⟨T, h1, h2, h3⟩ := ih (by omega)
        obtain ⟨r, g1, g2⟩ := each n (by omega)
        refine ⟨T ++ [r], by simp [h1], fun i hi => ?_, fun x hx => ?_⟩
        · by_cases hin : i < T.length
          · rw [List.getElem_append_left hin]
            exact h2 i hin
          · obtain rfl : i = n := by simp at hi; omega
            subst h1
            simpa using g1
        · rcases List.mem_append.1 hx with hx | hx
          · exact h3 x hx
          · rw [List.mem_singleton.1 hx]; exact g2
    obtain ⟨T, h1, h2, h3⟩ := pick k (Nat.le_refl _)
    refine ⟨T, h1, fun hp => ?_, h3⟩
    have c0 := (h2 0 hp).1
    rw [show (0 : Nat) * 3 = 0 from rfl, add_nil] at c0
    exact ⟨a, rfl, World.block_lt_of_cell? W _ c0, h2⟩

end Go.Proofs.YtlabmomehjfjdaaDoor
