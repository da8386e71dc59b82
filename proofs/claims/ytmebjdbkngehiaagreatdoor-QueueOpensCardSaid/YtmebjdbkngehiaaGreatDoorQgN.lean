/-
  Package disk: New, and more of the kind. Conditions: as the theorems' own hypotheses say.
-/
import Derived.Test.YtmebjdbkngehiaaGreatDoorDkH
import Derived.Laws.MakeOwn
import Derived.Test.YtmebjdbkngehiaaGreatDoorQgA
import Derived.Lib.Builder
import Derived.Lib.UnsafeStr
import Derived.Laws.Externs
import Derived.Shelf.Abstract
import Derived.Deep.MidRow
import Derived.Laws.AppendOwn
import Derived.Test.YtmebjdbkngehiaaGreatDoorQgK
import Derived.Test.YtmebjdbkngehiaaGreatDoorQgB
import Derived.Test.YtmebjdbkngehiaaGreatDoorQgL
import Derived.Test.YtmebjdbkngehiaaGreatDoorQgE
import Derived.Test.YtmebjdbkngehiaaGreatDoorQgM
namespace Go.Proofs.YtmebjdbkngehiaaGreatDoor
open Go.RowKit Go.Shelf
set_option maxHeartbeats 4000000
variable {w A B w' : World} {g b p : Nat} {bs : List Value} {d : DN}
theorem New_no (k : Int) (w : World) (h : k < 1 ∨ 256 < k) : Calls Tryz.prog 15 #[.int .i64 k] w (Pure (.tuple #[.pointer none, .int .i64 2]) w) := by
 by_cases h1 : k < 1
 ·go_enter Tryz.func15, Tryz.ntmps15
  go_wp2_with fail
  go_ret2
  exact ⟨rfl, rfl⟩
 ·have h2 : (256 : Int) < k := by omega
  go_enter Tryz.func15, Tryz.ntmps15
  go_wp2_with fail
  go_ret2
  exact ⟨rfl, rfl⟩
theorem infoSec : (Tryz.prog.info? 102).map (fun i => (i.zero, i.size, i.bytes)) = some (some (.agg (Array.replicate 64 (.int .u8 0))), 64, 64) := by kernel_rfl
theorem made_zero (k : Nat) : madeCells (Value.agg (Array.replicate 64 (.int .u8 0))).cells (k * 64) = (cellsB (DN.new k).L.flatten).toArray := by
 rw [zeros_flat]
 apply Array.ext
 ·rw [size_madeCells, List.size_toArray, cellsB_length, List.length_replicate, Nat.mul_comm]
 ·intro i h1 h2
  rw [size_madeCells] at h1
  have hz : (Value.agg (Array.replicate 64 (.int .u8 0))).cells = Array.replicate 64 (.int .u8 0) := rfl
  have hi : i % 64 < 64 := Nat.mod_lt _ (by omega)
  simp only [madeCells, hz, Array.getElem_map, Array.getElem_range, Array.size_replicate, cellsB, List.getElem_toArray, List.getElem_map, List.getElem_replicate]
  rw [getElem!_pos _ _ (by rw [Array.size_replicate]; exact hi), Array.getElem_replicate]
  rfl
def NewRes (k : Nat) (w : World) (e : Ending) (w' : World) : Prop := ∃ p g, e = .returned (.tuple #[.pointer (some ⟨p, 0, none⟩), .int .i64 0]) ∧ w.heap.size ≤ p ∧ w.heap.size ≤ g ∧ DAt w' p g (DN.new k) ∧ Below w.heap.size w w'
theorem New_ok (k : Nat) (w : World) (h1 : 1 ≤ k) (h2 : k ≤ 256) : Calls Tryz.prog 15 #[.int .i64 (k : Int)] w (NewRes k w) := by
 obtain ⟨i0, hi0, hz0, hz1, hz2⟩ := info_parts infoSec
 have hmk := run_makeSlice (P := Tryz.prog) w 87 102 i0 _ Tryz.underlying87 hi0 hz0 .i64 .i64 (k : Int) (k : Int) (by omega) (Int.le_refl _) (by rw [hz1]; omega) (by rw [hz2]; omega) (by omega)
 rw [hz1, Int.toNat_natCast, made_zero] at hmk
 have i1 : ¬ (k : Int) < 1 := by omega
 have i2 : ¬ (256 : Int) < (k : Int) := by omega
 have hl : (DN.new k).L.length = k := by show (List.replicate k _).length = k; simp
 have q0 := Blk.new_ w 102 (cellsB (DN.new k).L.flatten).toArray
 have hn := ext_new w (.cells (cellsB (DN.new k).L.flatten).toArray 102)
 have hsz : (w.alloc (.cells (cellsB (DN.new k).L.flatten).toArray 102)).heap.size = w.heap.size + 1 := by simp
 generalize w.alloc (.cells (cellsB (DN.new k).L.flatten).toArray 102) = W at *
 have HQ := Lib.hid q0
 clear q0
 go_enter Tryz.func15, Tryz.ntmps15
 go_wp2_with fail
 go_ret2
 have hb : Blk (W.alloc (.cells #[.slice (some ⟨w.heap.size, 0, none⟩) k k, .int .i64 0, .int .i64 0, .bool false, .int .i64 0] 93)) (w.heap.size + 1) 93 #[.slice (some ⟨w.heap.size, 0, none⟩) k k, .int .i64 0, .int .i64 0, .bool false, .int .i64 0] := Blk.at_ hsz.symm
 refine ⟨w.heap.size + 1, w.heap.size, rfl, by omega, Nat.le_refl _, ⟨?_, HQ.out.alloc _, by omega, DN.new_fit k, by rw [hl]; exact h2, Nat.zero_le _, Nat.zero_le _⟩, ext_alloc hn _⟩
 show Blk _ _ _ #[.slice _ (DN.new k).L.length (DN.new k).L.length, _, _, _, _]
 rw [hl]
 exact hb
abbrev BAt (p : Value) (B b : Nat) (bs : List Value) (w : World) : Prop := Lib.BuilderAt 140 5 B b p bs w
abbrev BUsed (B b : Nat) (bs : List Value) (w : World) : Prop := BAt (.pointer (some ⟨b, 0, none⟩)) B b bs w
theorem infoBu : (Tryz.prog.info? 140).map (·.size) = some 2 := by kernel_rfl
theorem liesBu : liesAt Tryz.prog Tryz.prog.depth 140 (2 / Tryz.prog.cellsOf 140) 0 140 1 = true := by kernel_rfl
theorem infoBy : (Tryz.prog.info? 5).map (fun i => (i.zero, i.size, i.bytes)) = some (some (.int .u8 0), 1, 1) := by kernel_rfl
theorem cellsBy : Tryz.prog.cellsOf 5 = 1 := by kernel_rfl
set_option maxRecDepth 100000 in
theorem bcheck_used (b : Nat) (w : World) (h0 : w.cell? ⟨b, 0, none⟩ = some (.pointer (some ⟨b, 0, none⟩))) :
  Calls Tryz.prog 115 #[.pointer (some ⟨b, 0, none⟩)] w (Pure (.tuple #[]) w) := by
 obtain ⟨j, hj, -⟩ := Option.map_eq_some_iff.1 infoBu
 go_enter Tryz.func115, Tryz.ntmps115
 go_wp2_with fail
 rw [Lib.run_neq_ptr_same w _ Tryz.underlying138 hj]
 go_wp2_with fail
 go_end0
 exact ⟨rfl, rfl⟩
set_option maxRecDepth 100000 in
theorem bcheck_fresh (b : Nat) (w : World) (h0 : w.cell? ⟨b, 0, none⟩ = some (.pointer none)) (hs : w.shape? b = some (140, 2)) (hz : w.frozen? ⟨b, 0, none⟩ = false) :
  Calls Tryz.prog 115 #[.pointer (some ⟨b, 0, none⟩)] w (Pure (.tuple #[]) (w.setCell ⟨b, 0, none⟩ (.pointer (some ⟨b, 0, none⟩)))) := by
 obtain ⟨j, hj, hjs⟩ := Option.map_eq_some_iff.1 infoBu
 go_enter Tryz.func115, Tryz.ntmps115
 go_wp2_with fail
 rw [Lib.run_to_unsafe w ⟨b, 0, none⟩ Tryz.underlying138 Tryz.underlying184 hj (by rw [hjs]; decide) hs (Nat.zero_lt_succ 1)]
 simp only [Result.andThen]
 rw [Oper.upon_value]
 go_wp2_with fail
 rw [run_callFunc_extern Tryz.func146 (by kernel_rfl) (by kernel_rfl) (by kernel_rfl) (e := Extern.AbiNoEscape.same) (by kernel_rfl)]
 rw [Lib.run_noEscape]
 simp only [Result.andThen]
 rw [Oper.upon_value]
 go_wp2_with fail
 rw [Lib.run_from_unsafe w ⟨b, 0, none⟩ Tryz.underlying184 Tryz.underlying138 hj hs liesBu]
 simp only [Result.andThen]
 rw [Oper.upon_value]
 go_wp2_with fail
 go_end0
 exact ⟨rfl, rfl⟩
theorem bcheck_any (B b : Nat) (bs : List Value) (w : World) (h : Lib.IsBuilder 140 5 B b bs w) :
  Calls Tryz.prog 115 #[.pointer (some ⟨b, 0, none⟩)] w fun e w' => e = .returned (.tuple #[]) ∧ BUsed B b bs w' ∧ Besides b w w' := by
 rcases h with h | h
 ·refine (bcheck_fresh b w h.cell0 h.shape h.frozen0).mono ?_
  rintro e w' ⟨rfl, rfl⟩
  exact ⟨rfl, h.used _, (Besides.refl b w).set_ 0 _⟩
 ·refine (bcheck_used b w h.cell0).mono ?_
  rintro e w' ⟨rfl, rfl⟩
  exact ⟨rfl, h, Besides.refl b _⟩
structure BKeep (B b : Nat) (w w' : World) : Prop where
 below : Below B w w'
 block : ∀ k o, w.heap[k]? = some o → k ≠ b → (∀ c fr, o ≠ .cells c 5 fr) → w'.heap[k]? = some o
set_option maxRecDepth 100000 in
theorem bwrite_any (B b : Nat) (bs : List Value) (g o m c : Nat) (news : List Value) (w : World) (h : Lib.IsBuilder 140 5 B b bs w)
  (hl : news.length = m) (hnews : w.rangeAt g o news) (hgb : g ≠ b) (hgl : g < w.heap.size) (h1 : ∀ u ∈ news, u.oneCell' = true) (hlen : bs.length + m ≤ 1000000) (hBw : B ≤ w.heap.size) :
  Calls Tryz.prog 74 #[.pointer (some ⟨b, 0, none⟩), .slice (some ⟨g, o, none⟩) m c] w fun e w' => e = .returned (.tuple #[.int .i64 m, .nilIface]) ∧ BUsed B b (bs ++ news) w' ∧ BKeep B b w w' := by
 obtain ⟨i0, hi0, hz0, hz1, hz2⟩ := info_parts infoBy
 go_enter Tryz.func74, Tryz.ntmps74
 go_wp2_with fail
 refine (bcheck_any B b bs _ h).mono ?_
 rintro e w1 ⟨rfl, h1', hB1⟩
 obtain ⟨hB, v, hbk, hown, hne⟩ := h1'
 have c0 : w1.cell? ⟨b, 0, none⟩ = some (.pointer (some ⟨b, 0, none⟩)) := by rw [Lib.cell_of_heap hbk]; rfl
 have c1 : w1.cell? ⟨b, 1, none⟩ = some v := by rw [Lib.cell_of_heap hbk]; rfl
 have hnews1 : ∀ j u, news[j]? = some u → w1.cell? ((⟨g, o, none⟩ : Addr).add j) = some u := fun j u hj => by
  rw [Addr.add_mid, World.cell?_of_block (hB1.block g hgl hgb)]; exact hnews j u hj
 have hlt : b < w1.heap.size := (Array.getElem?_eq_some_iff.1 hbk).1
 have HN := Lib.hid hnews
 have HNW := Lib.hid hnews1
 have HO := Lib.hid hown
 have H1 := Lib.hid h1
 have HB := Lib.hid hB1
 have HH := Lib.hid h
 clear hnews hnews1 h1 hB1 h
 go_wp2_with (at_builtin; refine wpList_append_own _ rfl _ _ 36 rfl B 5 i0 (.int .u8 0) 1 1 Tryz.underlying36 hi0 hz0 hz1 hz2 rfl (by decide) _ _ _ rfl hown ⟨g, o, none⟩ m c news rfl (by omega) HNW.out H1.out ?c3 ?c4 ?c5 ?_)
 case c3 => unfold maxLen; omega
 case c4 => omega
 case c5 => have := HB.out.size; omega
 intro v' w2 hown' hgrow _
 have hb2 : w2.heap[b]? = some (.cells #[.pointer (some ⟨b, 0, none⟩), v] 140 (0, 0)) := by
  rw [hgrow.block b hlt (fun e => hne e.symm)]
  exact hbk
 have d0 : w2.cell? ⟨b, 0, none⟩ = some (.pointer (some ⟨b, 0, none⟩)) := by rw [Lib.cell_of_heap hb2]; rfl
 have d1 : w2.cell? ⟨b, 1, none⟩ = some v := by rw [Lib.cell_of_heap hb2]; rfl
 have f1 : w2.frozen? ⟨b, 1, none⟩ = false := Lib.frozen_of_heap hb2 1
 obtain ⟨A', c', rfl⟩ := own_form hown'
 clear hown
 go_wp2_with fail
 go_ret2
 have hbl : Below B w w2 := (HB.out.below hB hBw).grown hgrow (Nat.le_trans hBw HB.out.size) (fun k hk => (HO.out.lt k hk).1)
 refine ⟨rfl, Lib.BuilderAt.put hB hb2 (bs' := bs ++ news) (by rw [List.length_append, hl]; exact hown') (by decide), hbl.setCell (p := ⟨b, 1, none⟩) hB _, ?_⟩
 intro k o' hk hkb hno
 have hkl : k < w.heap.size := (Array.getElem?_eq_some_iff.1 hk).1
 have hk1 : w1.heap[k]? = some o' := (HB.out.block k hkl hkb).trans hk
 rw [Below.heap_setCell _ _ _ _ hkb, hgrow.block k (Nat.lt_of_lt_of_le hkl HB.out.size) (fun e => ?_)]
 ·exact hk1
 ·rcases HO.out.2 with ⟨rfl, -⟩ | ⟨g', cap, cur, rfl, -, hh, -⟩
  ·cases e
  ·injection e with e
   have e : k = g' := e
   rw [← e, hk1] at hh
   injection hh with hh
   exact hno _ _ hh
theorem others_freeze (w : World) (p : Addr) (n : Nat) : KeepsOthers w (w.freeze p n) := by
 unfold World.freeze
 split
 ·exact KeepsOthers.refl w
 ·refine ⟨by simp, fun k o hk ho => ?_⟩
  show (w.heap.modify p.block _)[k]? = some o
  by_cases e : k = p.block
  ·subst e
   obtain ⟨hlt, hk'⟩ := Array.getElem?_eq_some_iff.1 hk
   rw [Array.getElem?_eq_getElem (by rw [Array.size_modify]; exact hlt), Array.getElem_modify_self, hk']
   cases o <;> first | rfl | (simp [Obj.isCells] at ho)
  ·rw [Array.getElem?_modify, if_neg (Ne.symm e)]
   exact hk
set_option maxRecDepth 100000 in
theorem bstring_any (B b : Nat) (l : List UInt8) (w : World) (h : Lib.IsBuilder 140 5 B b (Lib.byteCells l) w) (h0 : l ≠ []) :
  Calls Tryz.prog 76 #[.pointer (some ⟨b, 0, none⟩)] w fun e w' => e = .returned (.string ⟨l.toArray⟩) ∧ Below B w w' ∧ KeepsOthers w w' := by
 obtain ⟨p, hB, v, hbk, hown, hne⟩ : ∃ p, Lib.BuilderAt 140 5 B b p (Lib.byteCells l) w := by
  rcases h with h | h
  ·exact ⟨_, h⟩
  ·exact ⟨_, h⟩
 rw [Lib.byteCells_length] at hown
 have hl0 : l.length ≠ 0 := by simpa using h0
 obtain ⟨g, cap, cur, rfl, hbg, hg, hcs, hcm, hcn, -⟩ := hown.2.resolve_left (fun h => hl0 h.2)
 have c1 : w.drew.cell? ⟨b, 1, none⟩ = some (.slice (some ⟨g, 0, none⟩) l.length cap) := by
  have : w.drew.heap[b]? = some (.cells #[p, .slice (some ⟨g, 0, none⟩) l.length cap] 140 (0, 0)) := hbk
  rw [Lib.cell_of_heap this]; rfl
 have hSD : (Builtin.unsafeSliceData_ #[36] 183 #[.slice (some ⟨g, 0, none⟩) l.length cap]).run Tryz.prog w.drew = .ok (.pointer (some ⟨g, 0, none⟩)) w.drew :=
  Lib.run_unsafeSliceData_row _ _ _ _ _ _ (by omega)
 have hUS : (Builtin.unsafeString_ #[183, 3] 9 #[.pointer (some ⟨g, 0, none⟩), .int .i64 l.length]).run Tryz.prog w.drew = .ok (.string ⟨l.toArray⟩) (w.drew.freeze ⟨g, 0, none⟩ l.length) := by
  refine Lib.run_unsafeString_row w.drew 183 3 9 5 Tryz.underlying183 cellsBy g cur.size ?_ l h0 (by omega) (by unfold maxLen at hcm; omega) ?_
  ·have hg' : w.drew.heap[g]? = some (.cells cur 5 (0, 0)) := hg
   simp [World.shape?, hg']
  ·intro j x hx
   exact hown.cells (g := g) rfl j (.int .u8 x.toNat) (by simp [Lib.byteCells, hx])
 have HO := Lib.hid hown
 have HG := Lib.hid hg
 have HB := Lib.hid hbk
 clear hown hg hbk hcs hcm hcn hl0 h
 go_enter Tryz.func76, Tryz.ntmps76
 go_wp2_with fail
 go_region
 all_goals (go_wp2_with fail; go_ret; exact ⟨rfl, Lib.below_freeze (Below.drew (Below.refl B w)) (p := ⟨g, 0, none⟩) hbg _, KeepsOthers.trans (A := w) (B := w.drew) ⟨Nat.le_refl _, fun _ _ h _ => h⟩ (others_freeze w.drew ⟨g, 0, none⟩ _)⟩)
abbrev StoB (w : World) (Bc g k : Nat) : Prop := Blk w Bc 89 #[.slice (some ⟨g, 0, none⟩) k k]
theorem all_any (g k : Nat) (w : World) : Calls Tryz.prog 73 #[.agg #[.slice (some ⟨g, 0, none⟩) k k]] w fun e w' => e = .returned (.func (.func 114) #[] #[.pointer (some ⟨w.heap.size, 0, none⟩)]) ∧ w.alloc (.cells #[.slice (some ⟨g, 0, none⟩) k k] 89) = w' := by
 go_enter Tryz.func73, Tryz.ntmps73
 go_wp2
 go_ret
 exact ⟨rfl, rfl⟩
theorem sec_range {L : List (List UInt8)} (hb : Blk w g 102 (cellsB L.flatten).toArray) (h : ∀ s ∈ L, s.length = 64) {k : Nat} {l : List UInt8} (hl : L[k]? = some l) : w.rangeAt g (k * 64) (cellsB l) := by
 intro j v hv
 have hj : j < l.length := by have := (List.getElem?_eq_some_iff.1 hv).1; rwa [cellsB_length] at this
 rw [hb.cell (k * 64 + j), List.getElem?_toArray, cellsB, List.getElem?_map, flat_at h hl j hj, ← hv, cellsB, List.getElem?_map, List.getElem?_eq_getElem hj]
theorem cellsB_one (l : List UInt8) : ∀ u ∈ cellsB l, u.oneCell' = true := by
 intro u hu
 obtain ⟨b, -, rfl⟩ := List.mem_map.1 hu
 rfl
def secE (x : List UInt8) : Array Value := #[.agg (cellsB x).toArray]
set_option maxRecDepth 100000 in
theorem all_seq (L : List (List UInt8)) (hL : ∀ x ∈ L, x.length = 64) (h256 : L.length ≤ 256) (Bc g D m : Nat) (hg : g < D) :
  SeqW Fence.wide m Tryz.prog 114 #[.pointer (some ⟨Bc, 0, none⟩)] secE
   (fun A B => Below D A B ∧ B.heap[Bc]? = A.heap[Bc]?) (fun A B => Below A.heap.size A B) (fun pre x => ∃ t, L = pre ++ x :: t)
   (fun xs _ => xs = L) (fun _ => True)
   (fun W => StoB W Bc g L.length ∧ Blk W g 102 (cellsB L.flatten).toArray) := by
 rintro l J Jx W ⟨hbc, hbg⟩ hJ hJx hY h0
 obtain ⟨i0, hi0, hz0, -, -⟩ := info_parts infoSec
 refine callsIn_of_wp Tryz.func114 rfl trivial ?_ rfl
 simp only [Tryz.ntmps114, List.size_toArray, List.length_cons, List.length_nil, Nat.reduceAdd, Nat.reduceSub, Array.replicate_succ, Array.replicate_zero, List.push_toArray, List.append_toArray, List.nil_append, List.cons_append]
 refine wpIn_scope ?_
 have cx := hbc.cell 0
 simp only [List.getElem?_toArray, List.getElem?_cons_zero] at cx
 gi_wp2
 refine wpIn_label ?_
 gi_wp2
 clear cx
 gi_loopw [8] (fun i wr => ∃ k : Nat, k ≤ L.length ∧ i = .int .i64 (k : Int) ∧ J (L.take k) wr ∧ StoB wr Bc g L.length ∧ Blk wr g 102 (cellsB L.flatten).toArray) (fun i _ => L.length - (intOf i).toNat)
 case atStart => exact ⟨0, Nat.zero_le _, rfl, h0, hbc, hbg⟩
 case round =>
  obtain ⟨k, hk, rfl, hJk, hbk, hgk⟩ := hrel
  by_cases hlt : k < L.length
  ·obtain ⟨x, hx⟩ : ∃ x, L[k]? = some x := ⟨_, List.getElem?_eq_getElem hlt⟩
   have hx64 : x.length = 64 := hL x (List.mem_of_getElem? hx)
   have hsplit : L = L.take k ++ x :: L.drop (k + 1) := by
    rw [← (List.getElem?_eq_some_iff.1 hx).2, List.getElem_cons_drop, List.take_append_drop]
   have hnext : L.take (k + 1) = L.take k ++ [x] := by rw [List.take_add_one, hx]; rfl
   have hr := sec_range hgk hL hx
   have hsz : (Tryz.prog.info? 102).map (·.size) = some (cellsB x).length := by rw [cellsB_length, hx64]; kernel_rfl
   have hc64 : (cellsB x).toArray.size = 64 := by rw [List.size_toArray, cellsB_length, hx64]
   have hone := all_oneCell_toArray (cellsB_one x)
   have hq := Blk.new_ wr 102 (cellsB x).toArray
   have hr2 : (wr.alloc (.cells (cellsB x).toArray 102)).rangeAt wr.heap.size 0 (cellsB x) := fun j v hv => by
    rw [hq.cell, Nat.zero_add, List.getElem?_toArray]; exact hv
   have hy := hY (L.take k) x _ (hJ _ _ _ hJk (ext_new wr (.cells (cellsB x).toArray 102))) ⟨_, hsplit⟩
   obtain ⟨fnn, tmps, assign, body, hy, hR2⟩ := hy
   have hbk2 := hbk.alloc (.cells (cellsB x).toArray 102)
   have hgk2 := hgk.alloc (.cells (cellsB x).toArray 102)
   have HX := Lib.hid hx
   have HN := Lib.hid hnext
   have HR := Lib.hid hr
   have HR2 := Lib.hid hr2
   have HL := Lib.hid hL
   have HSZ := Lib.hid hsz
   have H64 := Lib.hid hc64
   have HONE := Lib.hid hone
   clear hx hsplit hnext hr hr2 hL hx64 hsz hc64 hone hq
   unfold secE at hy
   gi_wp2_with (first
    | refine listIn_load_mid rfl 102 (.tmp 10) rfl g (k * 64) rfl (cellsB x) _ HR.out Tryz.underlying102 rfl HSZ.out ?_
    | refine listIn_new_row rfl 102 rfl i0 _ hi0 hz0 ?_
    | refine listIn_store_new rfl 102 (.tmp 4) (.tmp 11) rfl _ (cellsB x).toArray rfl rfl (HSZ.out.trans (by rw [List.size_toArray])) (by rw [H64.out]; rfl) HONE.out ?_
    | refine listIn_load_mid rfl 102 (.tmp 4) rfl wr.heap.size 0 rfl (cellsB x) _ HR2.out Tryz.underlying102 rfl HSZ.out ?_)
   refine ⟨fun hd => (by cases hd), hR2.mono ?_⟩
   rintro e W3 (⟨rfl, hJ3, hk3, hk4⟩ | ⟨rfl, hJx3⟩)
   ·have hb3 : StoB W3 Bc g L.length := hbk2.kept hk4
    have hg3 := hgk2.kept (hk3.block g hg)
    gi_wp2
    refine ⟨⟨k + 1, by omega, by go_num, by rw [HN.out]; exact hJ3, hb3, hg3⟩, ?_⟩
    simp [intOf]; omega
   ·gi_wp2
    simp only [Exit.noGoto]
    go_end0
    exact ⟨⟨_, rfl⟩, .inr ⟨_, trivial, hJx3⟩⟩
  ·gi_wp2
   simp only [Exit.noGoto]
   go_end0
   obtain rfl : k = L.length := by omega
   rw [List.take_length] at hJk
   exact ⟨⟨_, rfl⟩, .inl ⟨_, rfl, hJk⟩⟩
attribute [local go_sem] Oper.semAt_some
abbrev IsBu (b : Nat) (bs : List Value) (w : World) : Prop := Lib.IsBuilder 140 5 b b bs w
theorem bu_other {row : Option Nat} (h : IsBu b bs A) (hg : A.grownBy B row) (hr : ∀ r, row = some r → ∃ o : Obj, A.heap[r]? = some o ∧ o.isCells = false) : IsBu b bs B := by
 have key : ∀ p, Lib.BuilderAt 140 5 b b p bs A → Lib.BuilderAt 140 5 b b p bs B := by
  rintro p ⟨hB, v, hb, hown, hne⟩
  refine ⟨hB, v, ?_, own_other hown hg hr, hne⟩
  rw [hg.block b (Array.getElem?_eq_some_iff.1 hb).1 (fun e => ?_)]
  ·exact hb
  ·obtain ⟨o, ho, hc⟩ := hr b e.symm
   rw [hb] at ho
   cases ho
   cases hc
 exact h.imp (key _) (key _)
theorem bu_below (h : IsBu b bs A) (hb : Below A.heap.size A B) : IsBu b bs B := by
 have key : ∀ p, Lib.BuilderAt 140 5 b b p bs A → Lib.BuilderAt 140 5 b b p bs B := by
  rintro p ⟨hB, v, hbk, hown, hne⟩
  exact ⟨hB, v, (hb.block b (Array.getElem?_eq_some_iff.1 hbk).1).trans hbk, own_below hown hb, hne⟩
 exact h.imp (key _) (key _)
theorem bu_new (w : World) : IsBu w.heap.size [] (w.alloc (.cells #[.pointer none, .slice none 0 0] 140)) :=
 .inl ⟨Nat.le_refl _, _, World.alloc_heap_new w _, own_nil, by simp [Value.ownBlock]⟩
theorem bu_cells (h : IsBu b bs w) : ∃ cs, w.heap[b]? = some (.cells cs 140 (0, 0)) := by
 rcases h with ⟨-, v, hb, -⟩ | ⟨-, v, hb, -⟩ <;> exact ⟨_, hb⟩
theorem keep_from {B D : Nat} (h : BKeep B b w w') (hb : IsBu b bs w) : KeepsFrom D w w' :=
 ⟨h.below.size, fun k o _ hk ho => h.block k o hk (fun e => by
  subst e
  obtain ⟨cs, hc⟩ := bu_cells hb
  rw [hc] at hk
  cases hk
  cases ho) (fun c fr e => by subst e; cases ho)⟩
theorem keep_sto {B n x : Nat} (h : BKeep B b w w') (hs : StoB w x g n) (hx : x ≠ b) : StoB w' x g n :=
 h.block x _ hs hx (fun c fr e => by injection e with _ e _; exact absurd e (by decide))
theorem flat_snoc (pre : List (List UInt8)) (x : List UInt8) : cellsB (pre ++ [x]).flatten = cellsB pre.flatten ++ cellsB x := by simp [cellsB]
set_option maxRecDepth 100000 in
theorem DBytes_wr (at_ n : Int) (h : DAt w p g d) (hI : SInv w) (hd : d.down = true) :
  Calls Tryz.prog 42 #[.pointer (some ⟨p, 0, none⟩), .int .i64 at_, .int .i64 n] w (Ret (.tuple #[.string ByteArray.empty, .int .i64 180]) w) := by
 go_enter Tryz.func42, Tryz.ntmps42
 go_wp2_with fail
 refine (up_any h).mono ?_
 rintro y v1 ⟨u1, rfl, hr1, hb1⟩
 obtain ⟨a1, a2, a3, rfl, -⟩ := id hr1
 go_wp2_with fail
 refine (check_any p _ [(!d.down, 180)] _ (rules1 (by simp) (hr1.below (ext_new _ _))) (by simp)).mono ?_
 rw [show firstE [(!d.down, 180)] = WrV 180 by rw [hd]; rfl]
 unfold WrV
 rintro y v2 ⟨rfl, hb2⟩
 have hW := ext_trans (ext_alloc hb1 _) hb2
 have hT := tolds_wr ByteArray.empty 180 _ (hI.below hW)
 unfold WrV at hT
 go_wp2_with fail
 refine hT.mono ?_
 rintro y v4 ⟨rfl, hb4⟩
 go_wp2_with fail
 go_ret2
 exact ⟨rfl, ext_trans hW hb4⟩
set_option maxRecDepth 100000 in
theorem DBytes_ok (at_ n : Int) (aN aW aS : Addr) (h : DAt w p g d) (hI : NInv w aN aW aS) (hd : d.down = false) (h0 : 0 < d.L.length) (hn1 : -9223372036854775808 ≤ n) (hn2 : n ≤ 9223372036854775807) :
  Calls Tryz.prog 42 #[.pointer (some ⟨p, 0, none⟩), .int .i64 at_, .int .i64 n] w (Ret (.tuple #[.string (cutV ⟨d.L.flatten.toArray⟩ at_ n).1, .int .i64 (cutV ⟨d.L.flatten.toArray⟩ at_ n).2]) w) := by
 obtain ⟨i0, hi0, hz0, -, -⟩ := info_parts infoSec
 refine callsIn_wide.1 (callsIn_of_wp_marks (n := 5) Tryz.func42 rfl trivial ?_ rfl)
 simp only [Tryz.ntmps42, List.size_toArray, List.length_cons, List.length_nil, Nat.reduceAdd, Nat.reduceSub, Array.replicate_succ, Array.replicate_zero, List.push_toArray, List.append_toArray, List.nil_append, List.cons_append]
 refine wpIn_wide.2 ?_
 go_wp2_with fail
 refine (up_any h).mono ?_
 rintro y v1 ⟨u1, rfl, hr1, hb1⟩
 obtain ⟨a1, a2, a3, rfl, -⟩ := id hr1
 go_wp2_with fail
 refine (check_any p _ [(!d.down, 180)] _ (rules1 (by simp) (hr1.below (ext_new _ _))) (by simp)).mono ?_
 rw [show firstE [(!d.down, 180)] = .nilIface by rw [hd]; rfl]
 rintro y v2 ⟨rfl, hb2⟩
 have hW := ext_trans (ext_alloc hb1 _) hb2
 clear hr1 hb1 hb2
 obtain ⟨c0, -⟩ := (h.below hW).disk.c5
 have hpl := (h.below hW).disk.lt
 go_wp2_with fail
 refine (all_any g d.L.length _).mono ?_
 rintro e w5 ⟨rfl, rfl⟩
 go_wp2_with fail
 obtain ⟨e, he⟩ : ∃ e, v2.heap.size = e := ⟨_, rfl⟩
 have hD2 := h.below hW
 have hgl := hD2.secs.lt
 have hbu := bu_new v2
 rw [he] at hpl hgl hbu ⊢
 have hwe : w.heap.size ≤ e := by rw [← he]; exact hW.size
 generalize hW5 : (v2.alloc (.cells #[.pointer none, .slice none 0 0] 140)).alloc (.cells #[.slice (some ⟨g, 0, none⟩) d.L.length d.L.length] 89) = W5
 have hW5s : W5.heap.size = e + 2 := by rw [← hW5]; simp [he]
 have p1 : StoB W5 (e + 1) g d.L.length := by rw [← hW5]; exact Blk.at_ (by simp [he])
 have p2 : Blk W5 g 102 (cellsB d.L.flatten).toArray := by rw [← hW5]; exact (hD2.secs.alloc _).alloc _
 have p3 : IsBu e [] W5 := by rw [← hW5]; exact bu_below hbu (ext_new _ _)
 have p4 : Below w.heap.size w W5 := by rw [← hW5]; exact (hW.alloc (by omega) _).alloc (by simp; omega) _
 have hlen : d.L.flatten.length ≤ 16384 := by have := flat_length h.fit.sec; have := h.len; omega
 have hne : d.L.flatten ≠ [] := by
  intro q
  have := flat_length h.fit.sec
  rw [q] at this
  simp at this
  omega
 clear hW5 hbu hD2 c0
 refine wpIn_wide.1 (wpIn_rangeX (n := 5) (gf := 114) (lb := #[.pointer (some ⟨e + 1, 0, none⟩)]) rfl (by omega) rfl trivial (enters_of Tryz.func114 (by kernel_rfl) rfl)
  (all_seq d.L h.fit.sec h.len (e + 1) g e _ hgl) (fun _ => rfl) ?hSt ?hSe (fun h k => ⟨h.1.trans k.1, k.2.trans h.2⟩) ?hKb ?hMb
  (fun pre W => IsBu e (cellsB pre.flatten) W ∧ Below w.heap.size w W ∧ e + 2 ≤ W.heap.size ∧ StoB W (e + 1) g d.L.length) (fun _ _ _ => False) ?hI (fun _ _ _ _ _ h _ _ => h) ?hIM (fun _ _ _ _ h _ => h) ⟨p3, p4, by omega, p1⟩ ?hround ?hdone (fun _ _ _ _ h _ => h.elim))
 case hSt => exact fun o o' => ⟨(p1.alloc _).alloc _, (p2.alloc _).alloc _⟩
 case hSe => exact fun xs W l o o' _ _ _ h => h
 case hKb =>
  intro W l o o' hl ho _
  have hlt := (Array.getElem?_eq_some_iff.1 ho).1
  exact ⟨(Below.refl e W).grown (grownBy_putObj' W l _) (by omega) (fun k q => by cases q; omega), World.putObj_heap_other (by omega)⟩
 case hMb =>
  rintro A B hM l o hl ho _
  exact (hM.block l (Array.getElem?_eq_some_iff.1 ho).1).trans ho
 case hI =>
  rintro pre A B row ⟨b1, b2, b3, b4⟩ hgr hr
  have := hgr.size
  exact ⟨bu_other b1 hgr (fun r q => (hr r q).2), b2.grown hgr (by omega) (fun r q => by have := (hr r q).1; omega), by omega, b4.kept (hgr.block _ b4.lt (fun q => by have := (hr _ q.symm).1; omega))⟩
 case hIM =>
  rintro pre A B ⟨b1, b2, b3, b4⟩ hM
  have := hM.size
  exact ⟨bu_below b1 hM, b2.trans (hM.mono (by omega)), by omega, b4.below hM⟩
 case hround =>
  rintro l pre x W ⟨b1, b2, b3, b4⟩ ⟨t, ht⟩ hlW
  have hx64 : x.length = 64 := h.fit.sec x (by rw [ht]; simp)
  have hfl : pre.flatten.length + 64 ≤ 16384 := by
   have := congrArg (fun l : List (List UInt8) => l.flatten.length) ht
   simp only [List.flatten_append, List.flatten_cons, List.length_append] at this
   omega
  have hsz : (Tryz.prog.info? 102).map (·.size) = some (cellsB x).length := by rw [cellsB_length, hx64]; kernel_rfl
  have hc64 : (cellsB x).toArray.size = 64 := by rw [List.size_toArray, cellsB_length, hx64]
  have hone := cellsB_one x
  have honeA := all_oneCell_toArray hone
  have hsn := flat_snoc pre x
  have HSN := Lib.hid hsn
  have HSZ := Lib.hid hsz
  have H64 := Lib.hid hc64
  have HONE := Lib.hid honeA
  have HO := Lib.hid hone
  have HT := Lib.hid ht
  clear hsn hsz hc64 honeA hone ht
  unfold secE
  simp only [List.zip_toArray, List.zip_cons_cons, List.zip_nil_right, List.foldl_toArray, List.foldl_cons, List.foldl_nil, List.setIfInBounds_toArray, List.set_cons_succ, List.set_cons_zero]
  gi_wp2_with (first
   | refine listIn_new_row rfl 102 rfl i0 _ hi0 hz0 ?_
   | refine listIn_store_new rfl 102 (.tmp 10) (.tmp 27) rfl _ (cellsB x).toArray rfl rfl (HSZ.out.trans (by rw [List.size_toArray])) (by rw [H64.out]; rfl) HONE.out ?_)
  refine ⟨KeepsFrom.of_grownBy (World.grownBy_alloc W _ none) (fun j hj => by cases hj), ⟨(Below.refl e W).alloc (by omega) _, Below.heap_alloc _ _ _ (by omega)⟩, ⟨bu_below b1 (ext_new _ _), b2.alloc (by omega) _, by simp; omega, b4.alloc _⟩, ?_⟩
  rintro Wb ⟨c1, c2, c3, c4⟩ hWb
  have bx : Blk Wb W.heap.size 102 (cellsB x).toArray := (hWb _ (by omega)).trans (World.alloc_heap_new W _)
  have hbl := bx.lt
  have hr : Wb.rangeAt W.heap.size 0 (cellsB x) := fun j v hv => by
   rw [bx.cell, Nat.zero_add, List.getElem?_toArray]; exact hv
  have HR := Lib.hid hr
  clear hWb b1 b2 b4 hr bx
  gi_wp2
  refine ⟨trivial, (CallsIn.inRound l (callsIn_wide.2 (bwrite_any e e (cellsB pre.flatten) W.heap.size 0 64 64 (cellsB x) Wb c1 (by rw [cellsB_length]; exact hx64) HR.out (by omega) hbl HO.out (by rw [cellsB_length]; omega) (by omega)))).mono ?_⟩
  rintro y W3 ⟨rfl, k1, k2⟩
  have k3 := keep_from (D := W5.heap.size) k2 c1
  have k4 := keep_sto k2 c4 (by omega)
  have k5 : IsBu e (cellsB (pre ++ [x]).flatten) W3 := .inr (by rw [HSN.out]; exact k1)
  gi_wp2
  exact ⟨k3, ⟨k2.below, k4.trans c4.symm⟩, k5, c2.trans (k2.below.mono hwe), by have := k2.below.size; omega, k4⟩
 case hdone =>
  rintro xs W hxs ⟨b1, b2, b3, b4⟩ hD
  have hxs : xs = d.L := hxs
  subst hxs
  go_wp2_with fail
  refine (bstring_any e e d.L.flatten _ b1 hne).mono ?_
  rintro y W6 ⟨rfl, k1, k2⟩
  have k3 := b2.trans (k1.mono hwe)
  have k4 := k2.same _ _ hD rfl
  go_wp2_with fail
  refine (Cut_any ⟨d.L.flatten.toArray⟩ at_ n W6 aN aW aS (hI.below k3) (by show d.L.flatten.toArray.size ≤ _; rw [List.size_toArray]; omega) hn1 hn2).mono ?_
  rintro y W7 ⟨rfl, k5⟩
  have hD2 : W7.heap[W5.heap.size]? = some (.deferred (some [])) := (k5.block _ (Array.getElem?_eq_some_iff.1 k4).1).trans k4
  have k6 := k3.trans (k5.mono k3.size)
  rw [hW5s] at hD2
  generalize cutV ⟨d.L.flatten.toArray⟩ at_ n = q at *
  go_wp2_with fail
  refine ⟨by simp, .inl ⟨_, _, rfl, run_takeDeferred hD2, ?_⟩⟩
  exact ⟨_, results_tmp2 rfl _ _ _, rfl, k6.grown (grownBy_putObj' W7 (e + 2) _) k6.size (fun k q => by cases q; omega)⟩
end Go.Proofs.YtmebjdbkngehiaaGreatDoor
namespace Go.Proofs.YtmebjdbkngehiaaGreatDoor
open Go.RowKit
structure OI where
 kind : Int
 a : Int
 b : Int
 s : ByteArray
theorem add_blk (a : Addr) (i : Nat) : (a.add i).block = a.block := by unfold Addr.add; split <;> rfl
end Go.Proofs.YtmebjdbkngehiaaGreatDoor
namespace Go.Proofs.YtmebjdbkngehiaaGreatDoor
open Go.RowKit Go.Shelf
variable {w : World}
structure DInv (w : World) (aN aW aS : Addr) : Prop where
 s : SInv w
 n : NInv w aN aW aS
theorem DInv.below {w' : World} {aN aW aS : Addr} (h : DInv w aN aW aS) (hb : Below w.heap.size w w') : DInv w' aN aW aS := ⟨h.s.below hb, h.n.below hb⟩
def DN.bytes (d : DN) (a n : Int) : ByteArray × Int := if d.down then (ByteArray.empty, 180) else cutV ⟨d.L.flatten.toArray⟩ a n
theorem DBytes_any {p g : Nat} {d : DN} (at_ n : Int) (aN aW aS : Addr) (h : DAt w p g d) (hI : DInv w aN aW aS) (h0 : 0 < d.L.length) (hn1 : -9223372036854775808 ≤ n) (hn2 : n ≤ 9223372036854775807) :
  Calls Tryz.prog 42 #[.pointer (some ⟨p, 0, none⟩), .int .i64 at_, .int .i64 n] w (Ret (.tuple #[.string (d.bytes at_ n).1, .int .i64 (d.bytes at_ n).2]) w) := by
 cases hd : d.down with
 | true =>
  rw [DN.bytes, if_pos hd]
  exact DBytes_wr at_ n h hI.s hd
 | false =>
  rw [DN.bytes, if_neg (by rw [hd]; decide)]
  exact DBytes_ok at_ n aN aW aS h hI.n hd h0 hn1 hn2
structure Play (w0 : World) (p g : Nat) (d : DN) (w : World) : Prop where
 disk : DAt w p g d
 bel : Below w0.heap.size w0 w
 hp : w0.heap.size ≤ p
 hg : w0.heap.size ≤ g
 pos : 0 < d.L.length
def DN.act (d : DN) (x : OI) : DN × ByteArray × Int :=
 if x.kind = 0 then ((d.write x.a x.s.data.toList).1, ByteArray.empty, (d.write x.a x.s.data.toList).2)
 else if x.kind = 1 then (d, ⟨(d.read x.a).1.toArray⟩, (d.read x.a).2)
 else if x.kind = 2 then (d, d.bytes x.a x.b)
 else if x.kind = 3 then ((d.arm x.a x.b).1, ByteArray.empty, (d.arm x.a x.b).2)
 else if x.kind = 4 then (d.restart, ByteArray.empty, 0)
 else (d, ByteArray.empty, 0)
def Done (w0 : World) (p g : Nat) (r : DN × ByteArray × Int) (e : Ending) (w' : World) : Prop := e = .returned (.tuple #[.string r.2.1, .int .i64 r.2.2]) ∧ Play w0 p g r.1 w'
end Go.Proofs.YtmebjdbkngehiaaGreatDoor
