/-
  strings.Builder: copyCheck, WriteString and String at a builder that the call itself has made. No condition.
-/
import Derived.Test.YtmoghgmbpkpcfaaGreatDoorMgA
import Derived.Lib.Builder
import Derived.Lib.UnsafeStr
import Derived.Laws.Externs
import Derived.Shelf.Abstract
import Derived.Deep.MidRow
import Derived.Laws.AppendOwn
import Derived.Lib.AppendStr
namespace Go.Proofs.YtmoghgmbpkpcfaaGreatDoor
open Go.RowKit Go.Shelf

/-- A builder in block b of the call's own, with these bytes: fresh, or used. -/
abbrev BAt (p : Value) (B b : Nat) (bs : List Value) (w : World) : Prop := Lib.BuilderAt 42 5 B b p bs w
abbrev BUsed (B b : Nat) (bs : List Value) (w : World) : Prop := BAt (.pointer (some ⟨b, 0, none⟩)) B b bs w

theorem infoBu : (Tryz.prog.info? 42).map (·.size) = some 2 := by kernel_rfl
theorem liesBu : liesAt Tryz.prog Tryz.prog.depth 42 (2 / Tryz.prog.cellsOf 42) 0 42 1 = true := by kernel_rfl
theorem infoBy : (Tryz.prog.info? 5).map (fun i => (i.zero, i.size, i.bytes)) = some (some (.int .u8 0), 1, 1) := by kernel_rfl
theorem cellsBy : Tryz.prog.cellsOf 5 = 1 := by kernel_rfl

set_option maxRecDepth 100000 in
theorem bcheck_used (b : Nat) (w : World) (h0 : w.cell? ⟨b, 0, none⟩ = some (.pointer (some ⟨b, 0, none⟩))) :
    Calls Tryz.prog 34 #[.pointer (some ⟨b, 0, none⟩)] w (Pure (.tuple #[]) w) := by
  obtain ⟨j, hj, -⟩ := Option.map_eq_some_iff.1 infoBu
  go_enter Tryz.func34, Tryz.ntmps34
  go_wp2_with fail
  rw [Lib.run_neq_ptr_same w _ Tryz.underlying39 hj]
  go_wp2_with fail
  go_end0
  exact ⟨rfl, rfl⟩

set_option maxRecDepth 100000 in
theorem bcheck_fresh (b : Nat) (w : World) (h0 : w.cell? ⟨b, 0, none⟩ = some (.pointer none)) (hs : w.shape? b = some (42, 2)) (hz : w.frozen? ⟨b, 0, none⟩ = false) :
    Calls Tryz.prog 34 #[.pointer (some ⟨b, 0, none⟩)] w (Pure (.tuple #[]) (w.setCell ⟨b, 0, none⟩ (.pointer (some ⟨b, 0, none⟩)))) := by
  obtain ⟨j, hj, hjs⟩ := Option.map_eq_some_iff.1 infoBu
  go_enter Tryz.func34, Tryz.ntmps34
  go_wp2_with fail
  rw [Lib.run_to_unsafe w ⟨b, 0, none⟩ Tryz.underlying39 Tryz.underlying99 hj (by rw [hjs]; decide) hs (Nat.zero_lt_succ 1)]
  simp only [Result.andThen]
  rw [Oper.upon_value]
  go_wp2_with fail
  rw [run_callFunc_extern Tryz.func53 (by kernel_rfl) (by kernel_rfl) (by kernel_rfl) (e := Extern.AbiNoEscape.same) (by kernel_rfl)]
  rw [Lib.run_noEscape]
  simp only [Result.andThen]
  rw [Oper.upon_value]
  go_wp2_with fail
  rw [Lib.run_from_unsafe w ⟨b, 0, none⟩ Tryz.underlying99 Tryz.underlying39 hj hs liesBu]
  simp only [Result.andThen]
  rw [Oper.upon_value]
  go_wp2_with fail
  go_end0
  exact ⟨rfl, rfl⟩

theorem bcheck_any (B b : Nat) (bs : List Value) (w : World) (h : Lib.IsBuilder 42 5 B b bs w) :
    Calls Tryz.prog 34 #[.pointer (some ⟨b, 0, none⟩)] w fun e w' => e = .returned (.tuple #[]) ∧ BUsed B b bs w' ∧ Besides b w w' := by
  rcases h with h | h
  · refine (bcheck_fresh b w h.cell0 h.shape h.frozen0).mono ?_
    rintro e w' ⟨rfl, rfl⟩
    exact ⟨rfl, h.used _, (Besides.refl b w).set_ 0 _⟩
  · refine (bcheck_used b w h.cell0).mono ?_
    rintro e w' ⟨rfl, rfl⟩
    exact ⟨rfl, h, Besides.refl b _⟩

/-- What Write may turn: the builder, and rows of bytes of the call's own. -/
structure BKeep (B b : Nat) (w w' : World) : Prop where
  below : Below B w w'
  block : ∀ k o, w.heap[k]? = some o → k ≠ b → (∀ c fr, o ≠ .cells c 5 fr) → w'.heap[k]? = some o

set_option maxRecDepth 100000 in
set_option maxHeartbeats 1000000 in
theorem bws_any (B b : Nat) (bs : List Value) (s : ByteArray) (w : World) (h : Lib.IsBuilder 42 5 B b bs w)
    (hlen : bs.length + s.size ≤ 1000000) (hBw : B ≤ w.heap.size) :
    Calls Tryz.prog 20 #[.pointer (some ⟨b, 0, none⟩), .string s] w fun e w' => e = .returned (.tuple #[.int .i64 s.size, .nilIface]) ∧ BUsed B b (bs ++ Lib.strCells s) w' ∧ BKeep B b w w' := by
  obtain ⟨i0, hi0, hz0, hz1, hz2⟩ := info_parts infoBy
  go_enter Tryz.func20, Tryz.ntmps20
  go_wp2_with fail
  refine (bcheck_any B b bs _ h).mono ?_
  rintro e w1 ⟨rfl, h1', hB1⟩
  obtain ⟨hB, v, hbk, hown, hne⟩ := h1'
  have c0 : w1.cell? ⟨b, 0, none⟩ = some (.pointer (some ⟨b, 0, none⟩)) := by rw [Lib.cell_of_heap hbk]; rfl
  have c1 : w1.cell? ⟨b, 1, none⟩ = some v := by rw [Lib.cell_of_heap hbk]; rfl
  have hlt : b < w1.heap.size := (Array.getElem?_eq_some_iff.1 hbk).1
  have HO := Lib.hid hown
  have HB := Lib.hid hB1
  have HH := Lib.hid h
  clear hB1 h
  go_wp2_with (at_builtin; refine Lib.wpList_append_own_string _ rfl _ _ 40 9 rfl B 5 i0 Tryz.underlying40 Tryz.underlying9 hi0 hz0 hz1 hz2 _ _ _ rfl hown s rfl ?c3 ?c4 ?c5 ?_)
  case c3 => unfold maxLen; omega
  case c4 => omega
  case c5 => have := HB.out.size; omega
  intro v' w2 hown' hgrow _
  have hb2 : w2.heap[b]? = some (.cells #[.pointer (some ⟨b, 0, none⟩), v] 42 (0, 0)) := by
    rw [hgrow.block b hlt (fun e => hne e.symm)]
    exact hbk
  have d0 : w2.cell? ⟨b, 0, none⟩ = some (.pointer (some ⟨b, 0, none⟩)) := by rw [Lib.cell_of_heap hb2]; rfl
  have d1 : w2.cell? ⟨b, 1, none⟩ = some v := by rw [Lib.cell_of_heap hb2]; rfl
  have f1 : w2.frozen? ⟨b, 1, none⟩ = false := Lib.frozen_of_heap hb2 1
  obtain ⟨A', c', rfl⟩ := own_form hown'
  clear hown
  go_wp2_with fail
  go_ret2
  have hbl : Below B w w2 := (HB.out.below hB hBw).grown hgrow (Nat.le_trans hBw HB.out.size) (fun k hk => (HO.out.lt k hk).1)
  refine ⟨rfl, Lib.BuilderAt.put hB hb2 (bs' := bs ++ Lib.strCells s) (by rw [List.length_append, Lib.strCells_length]; exact hown') (by decide), hbl.setCell (p := ⟨b, 1, none⟩) hB _, ?_⟩
  intro k o' hk hkb hno
  have hkl : k < w.heap.size := (Array.getElem?_eq_some_iff.1 hk).1
  have hk1 : w1.heap[k]? = some o' := (HB.out.block k hkl hkb).trans hk
  rw [Below.heap_setCell _ _ _ _ hkb, hgrow.block k (Nat.lt_of_lt_of_le hkl HB.out.size) (fun e => ?_)]
  · exact hk1
  · rcases HO.out.2 with ⟨rfl, -⟩ | ⟨g', cap, cur, rfl, -, hh, -⟩
    · cases e
    · injection e with e
      have e : k = g' := e
      rw [← e, hk1] at hh
      injection hh with hh
      exact hno _ _ hh

theorem others_freeze (w : World) (p : Addr) (n : Nat) : KeepsOthers w (w.freeze p n) := by
  unfold World.freeze
  split
  · exact KeepsOthers.refl w
  · refine ⟨by simp, fun k o hk ho => ?_⟩
    show (w.heap.modify p.block _)[k]? = some o
    by_cases e : k = p.block
    · subst e
      obtain ⟨hlt, hk'⟩ := Array.getElem?_eq_some_iff.1 hk
      rw [Array.getElem?_eq_getElem (by rw [Array.size_modify]; exact hlt), Array.getElem_modify_self, hk']
      cases o <;> first | rfl | (simp [Obj.isCells] at ho)
    · rw [Array.getElem?_modify, if_neg (Ne.symm e)]
      exact hk

set_option maxRecDepth 100000 in
set_option maxHeartbeats 1000000 in
theorem bstring_any (B b : Nat) (l : List UInt8) (w : World) (h : Lib.IsBuilder 42 5 B b (Lib.byteCells l) w) (h0 : l ≠ []) :
    Calls Tryz.prog 21 #[.pointer (some ⟨b, 0, none⟩)] w fun e w' => e = .returned (.string ⟨l.toArray⟩) ∧ Below B w w' ∧ KeepsOthers w w' := by
  obtain ⟨p, hB, v, hbk, hown, hne⟩ : ∃ p, Lib.BuilderAt 42 5 B b p (Lib.byteCells l) w := by
    rcases h with h | h
    · exact ⟨_, h⟩
    · exact ⟨_, h⟩
  rw [Lib.byteCells_length] at hown
  have hl0 : l.length ≠ 0 := by simpa using h0
  obtain ⟨g, cap, cur, rfl, hbg, hg, hcs, hcm, hcn, -⟩ := hown.2.resolve_left (fun h => hl0 h.2)
  have c1 : w.drew.cell? ⟨b, 1, none⟩ = some (.slice (some ⟨g, 0, none⟩) l.length cap) := by
    have : w.drew.heap[b]? = some (.cells #[p, .slice (some ⟨g, 0, none⟩) l.length cap] 42 (0, 0)) := hbk
    rw [Lib.cell_of_heap this]; rfl
  have hSD : (Builtin.unsafeSliceData_ #[40] 79 #[.slice (some ⟨g, 0, none⟩) l.length cap]).run Tryz.prog w.drew = .ok (.pointer (some ⟨g, 0, none⟩)) w.drew :=
    Lib.run_unsafeSliceData_row _ _ _ _ _ _ (by omega)
  have hUS : (Builtin.unsafeString_ #[79, 3] 9 #[.pointer (some ⟨g, 0, none⟩), .int .i64 l.length]).run Tryz.prog w.drew = .ok (.string ⟨l.toArray⟩) (w.drew.freeze ⟨g, 0, none⟩ l.length) := by
    refine Lib.run_unsafeString_row w.drew 79 3 9 5 Tryz.underlying79 cellsBy g cur.size ?_ l h0 (by omega) (by unfold maxLen at hcm; omega) ?_
    · have hg' : w.drew.heap[g]? = some (.cells cur 5 (0, 0)) := hg
      simp [World.shape?, hg']
    · intro j x hx
      exact hown.cells (g := g) rfl j (.int .u8 x.toNat) (by simp [Lib.byteCells, hx])
  have HO := Lib.hid hown
  have HG := Lib.hid hg
  have HB := Lib.hid hbk
  clear hown hg hbk hcs hcm hcn hl0 h
  go_enter Tryz.func21, Tryz.ntmps21
  go_wp2_with fail
  go_region
  all_goals (go_wp2_with fail; go_ret; exact ⟨rfl, Lib.below_freeze (Below.drew (Below.refl B w)) (p := ⟨g, 0, none⟩) hbg _, KeepsOthers.trans (A := w) (B := w.drew) ⟨Nat.le_refl _, fun _ _ h _ => h⟩ (others_freeze w.drew ⟨g, 0, none⟩ _)⟩)

end Go.Proofs.YtmoghgmbpkpcfaaGreatDoor
