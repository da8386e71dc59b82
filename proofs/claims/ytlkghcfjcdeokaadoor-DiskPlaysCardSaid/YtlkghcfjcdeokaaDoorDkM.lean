/-
  Package disk: all sectors, one by one (all); Bytes. Conditions: as the theorems' own hypotheses say.
-/
import Derived.Test.YtlkghcfjcdeokaaDoorDkA
import Derived.Test.YtlkghcfjcdeokaaDoorDkL
import Derived.Test.YtlkghcfjcdeokaaDoorDkI
import Derived.Test.YtlkghcfjcdeokaaDoorRng4
import Derived.Test.YtlkghcfjcdeokaaDoorMid
namespace Go.Proofs.YtlkghcfjcdeokaaDoor
open Go.RowKit Go.Shelf

/-- all's own variable: the store. -/
abbrev StoB (w : World) (Bc g k : Nat) : Prop := Blk w Bc 55 #[.slice (some ⟨g, 0, none⟩) k k]

theorem all_any (g k : Nat) (w : World) : Calls Tryd.prog 38 #[.agg #[.slice (some ⟨g, 0, none⟩) k k]] w fun e w' => e = .returned (.func (.func 47) #[] #[.pointer (some ⟨w.heap.size, 0, none⟩)]) ∧ w.alloc (.cells #[.slice (some ⟨g, 0, none⟩) k k] 55) = w' := by
  go_enter Tryd.func38, Tryd.ntmps38
  go_wp2
  go_ret
  exact ⟨rfl, rfl⟩

theorem sec_range {w : World} {g : Nat} {L : List (List UInt8)} (hb : Blk w g 70 (cellsB L.flatten).toArray) (h : ∀ s ∈ L, s.length = 64) {k : Nat} {l : List UInt8} (hl : L[k]? = some l) : w.rangeAt g (k * 64) (cellsB l) := by
  intro j v hv
  have hj : j < l.length := by have := (List.getElem?_eq_some_iff.1 hv).1; rwa [cellsB_length] at this
  rw [hb.cell (k * 64 + j), List.getElem?_toArray, cellsB, List.getElem?_map, flat_at h hl j hj, ← hv, cellsB, List.getElem?_map, List.getElem?_eq_getElem hj]
theorem cellsB_one (l : List UInt8) : ∀ u ∈ cellsB l, u.oneCell' = true := by
  intro u hu
  obtain ⟨b, -, rfl⟩ := List.mem_map.1 hu
  rfl
/-- A sector as what is handed over. -/
def secE (x : List UInt8) : Array Value := #[.agg (cellsB x).toArray]

set_option maxRecDepth 100000 in
set_option maxHeartbeats 4000000 in
theorem all_seq (L : List (List UInt8)) (hL : ∀ x ∈ L, x.length = 64) (h256 : L.length ≤ 256) (Bc g D m : Nat) (hg : g < D) :
    SeqW Fence.wide m Tryd.prog 47 #[.pointer (some ⟨Bc, 0, none⟩)] secE
      (fun A B => Below D A B ∧ B.heap[Bc]? = A.heap[Bc]?) (fun A B => Below A.heap.size A B) (fun pre x => ∃ t, L = pre ++ x :: t)
      (fun xs _ => xs = L) (fun _ => True)
      (fun W => StoB W Bc g L.length ∧ Blk W g 70 (cellsB L.flatten).toArray) := by
  rintro l J Jx W ⟨hbc, hbg⟩ hJ hJx hY h0
  obtain ⟨i0, hi0, hz0, -, -⟩ := info_parts infoSec
  refine callsIn_of_wp Tryd.func47 rfl trivial ?_ rfl
  simp only [Tryd.ntmps47, List.size_toArray, List.length_cons, List.length_nil, Nat.reduceAdd, Nat.reduceSub, Array.replicate_succ, Array.replicate_zero, List.push_toArray, List.append_toArray, List.nil_append, List.cons_append]
  refine wpIn_scope ?_
  have cx := hbc.cell 0
  simp only [List.getElem?_toArray, List.getElem?_cons_zero] at cx
  gi_wp2
  refine wpIn_label ?_
  gi_wp2
  clear cx
  gi_loopw [8] (fun i wr => ∃ k : Nat, k ≤ L.length ∧ i = .int .i64 (k : Int) ∧ J (L.take k) wr ∧ StoB wr Bc g L.length ∧ Blk wr g 70 (cellsB L.flatten).toArray) (fun i _ => L.length - (intOf i).toNat)
  case atStart => exact ⟨0, Nat.zero_le _, rfl, h0, hbc, hbg⟩
  case round =>
    obtain ⟨k, hk, rfl, hJk, hbk, hgk⟩ := hrel
    by_cases hlt : k < L.length
    · obtain ⟨x, hx⟩ : ∃ x, L[k]? = some x := ⟨_, List.getElem?_eq_getElem hlt⟩
      have hx64 : x.length = 64 := hL x (List.mem_of_getElem? hx)
      have hsplit : L = L.take k ++ x :: L.drop (k + 1) := by
        rw [← (List.getElem?_eq_some_iff.1 hx).2, List.getElem_cons_drop, List.take_append_drop]
      have hnext : L.take (k + 1) = L.take k ++ [x] := by rw [List.take_add_one, hx]; rfl
      have hr := sec_range hgk hL hx
      have hsz : (Tryd.prog.info? 70).map (·.size) = some (cellsB x).length := by rw [cellsB_length, hx64]; kernel_rfl
      have hc64 : (cellsB x).toArray.size = 64 := by rw [List.size_toArray, cellsB_length, hx64]
      have hone := all_oneCell_toArray (cellsB_one x)
      have hq := Blk.new_ wr 70 (cellsB x).toArray
      have hr2 : (wr.alloc (.cells (cellsB x).toArray 70)).rangeAt wr.heap.size 0 (cellsB x) := fun j v hv => by
        rw [hq.cell, Nat.zero_add, List.getElem?_toArray]; exact hv
      have hy := hY (L.take k) x _ (hJ _ _ _ hJk (ext_new wr (.cells (cellsB x).toArray 70))) ⟨_, hsplit⟩
      obtain ⟨fnn, tmps, assign, body, hy, hR2⟩ := hy
      have hbk2 := hbk.alloc (.cells (cellsB x).toArray 70)
      have hgk2 := hgk.alloc (.cells (cellsB x).toArray 70)
      have HX := Lib.hid hx
      have HN := Lib.hid hnext
      have HR := Lib.hid hr
      have HR2 := Lib.hid hr2
      have HL := Lib.hid hL
      have HSZ := Lib.hid hsz
      have H64 := Lib.hid hc64
      have HONE := Lib.hid hone
      clear hx hsplit hnext hr hr2 hL hx64 hsz hc64 hone hq
      unfold secE at hy
      gi_wp2_with (first
        | refine listIn_load_mid rfl 70 (.tmp 10) rfl g (k * 64) rfl (cellsB x) _ HR.out Tryd.underlying70 rfl HSZ.out ?_
        | refine listIn_new_row rfl 70 rfl i0 _ hi0 hz0 ?_
        | refine listIn_store_new rfl 70 (.tmp 4) (.tmp 11) rfl _ (cellsB x).toArray rfl rfl (HSZ.out.trans (by rw [List.size_toArray])) (by rw [H64.out]; rfl) HONE.out ?_
        | refine listIn_load_mid rfl 70 (.tmp 4) rfl wr.heap.size 0 rfl (cellsB x) _ HR2.out Tryd.underlying70 rfl HSZ.out ?_)
      refine ⟨fun hd => (by cases hd), hR2.mono ?_⟩
      rintro e W3 (⟨rfl, hJ3, hk3, hk4⟩ | ⟨rfl, hJx3⟩)
      · have hb3 : StoB W3 Bc g L.length := hbk2.kept hk4
        have hg3 := hgk2.kept (hk3.block g hg)
        gi_wp2
        refine ⟨⟨k + 1, by omega, by go_num, by rw [HN.out]; exact hJ3, hb3, hg3⟩, ?_⟩
        simp [intOf]; omega
      · gi_wp2
        simp only [Exit.noGoto]
        go_end0
        exact ⟨⟨_, rfl⟩, .inr ⟨_, trivial, hJx3⟩⟩
    · gi_wp2
      simp only [Exit.noGoto]
      go_end0
      obtain rfl : k = L.length := by omega
      rw [List.take_length] at hJk
      exact ⟨⟨_, rfl⟩, .inl ⟨_, rfl, hJk⟩⟩

end Go.Proofs.YtlkghcfjcdeokaaDoor
