/-
  Package signs: told; the iterator that goes through a set's flags (each), and what only gathers of them. Conditions: as the theorems' own hypotheses say.
-/
import Derived.Test.YtinflolpcemnhaaDoorSignsA
import Derived.Test.YtinflolpcemnhaaDoorSignsN
import Derived.Test.YtinflolpcemnhaaDoorRng
import Derived.Shelf.Abstract
namespace Go.Proofs.YtinflolpcemnhaaDoor
open Go.RowKit
attribute [local go_sem] Oper.semAt_some

def toldV (v : Int) (o : Option Nat) : Int := match o with
  | none => v
  | some _ => 0

theorem told_any (v : Int) (o : Option Nat) (ho : ∀ k, o = some k → k < 8) (w : World) (A : Nat → Addr) (h : GInv w A) :
    Calls Tryd.prog 30 #[.int .i64 v, errOf (o.map A)] w (Pure (.tuple #[.int .i64 (toldV v o), .int .i64 (codeIx o)]) w) := by
  cases o with
  | none =>
    simp only [Option.map_none, errOf]
    go_enter Tryd.func30, Tryd.ntmps30
    go_wp2_with fail
    go_ret2
    exact ⟨rfl, rfl⟩
  | some k =>
    have hn := number_any k (ho k rfl) w A h
    simp only [Option.map_some, errOf, ErrV] at hn ⊢
    generalize hc : codeIx (some k) = c at hn
    have HC := Lib.hid hc
    clear hc
    go_enter Tryd.func30, Tryd.ntmps30
    go_wp2_with fail
    refine hn.mono ?_
    rintro e w1 ⟨rfl, rfl⟩
    go_wp2_with fail
    go_ret2
    exact ⟨by first | rfl | (rw [HC.out]; rfl), rfl⟩

/-- Is a flag among all, and among s? -/
def onB (s all : Int) (k : Nat) : Bool := (bits .and .i64 all ((2 ^ k : Nat) : Int) != 0) && (bits .and .i64 s ((2 ^ k : Nat) : Int) != 0)
def flagsOf (s all : Int) (k : Nat) : List Nat := (List.range k).filter (onB s all)
theorem flagsOf_yes {s all : Int} {k : Nat} (h : onB s all k = true) : flagsOf s all (k + 1) = flagsOf s all k ++ [k] := by
  simp [flagsOf, List.range_succ, List.filter_append, h]
theorem flagsOf_no {s all : Int} {k : Nat} (h : onB s all k = false) : flagsOf s all (k + 1) = flagsOf s all k := by
  simp [flagsOf, List.range_succ, List.filter_append, h]

theorem each_seq (s : Int) (a m : Nat) (ha : a < 2 ^ m) (hm : ∀ k, k < m → 2 ^ k ≤ a) (hm40 : a ≤ 1099511627775) (Bs Ba : Nat) (n : Nat) :
    SeqM Fence.wide n Tryd.prog 38 #[.pointer (some ⟨Ba, 0, none⟩), .pointer (some ⟨Bs, 0, none⟩)] (fun k : Nat => #[.int .i64 ((2 ^ k : Nat) : Int)])
      (fun A B => B.heap[Ba]? = A.heap[Ba]? ∧ B.heap[Bs]? = A.heap[Bs]? ∧ A.heap.size ≤ B.heap.size) (fun A B => Below A.heap.size A B) (fun pre k => pre = flagsOf s a k ∧ k < m ∧ onB s a k = true) (fun xs => xs = flagsOf s a m) (fun _ => True)
      (fun W => W.cell? ⟨Ba, 0, none⟩ = some (.int .i64 (a : Int)) ∧ W.cell? ⟨Bs, 0, none⟩ = some (.int .i64 s)) := by
  rintro l J Jx W ⟨hca, hcs⟩ hJ hJx hY h0
  refine callsIn_of_wp Tryd.func38 rfl trivial ?_ rfl
  simp only [Tryd.ntmps38, List.size_toArray, List.length_cons, List.length_nil, Nat.reduceAdd, Nat.reduceSub, Array.replicate_succ, Array.replicate_zero, List.push_toArray, List.append_toArray, List.nil_append, List.cons_append]
  refine wpIn_scope (wpIn_seq (wpIn_label ?_))
  gi_wp2
  gi_loopw [4] (fun o wr => ∃ k : Nat, k ≤ m ∧ o = .int .i64 ((2 ^ k : Nat) : Int) ∧ J (flagsOf s a k) wr ∧ wr.cell? ⟨Ba, 0, none⟩ = some (.int .i64 (a : Int)) ∧ wr.cell? ⟨Bs, 0, none⟩ = some (.int .i64 s)) (fun o _ => 2 * a + 1 - (intOf o).toNat)
  case atStart => exact ⟨0, Nat.zero_le _, rfl, h0, hca, hcs⟩
  case round =>
    obtain ⟨k, hk, rfl, hJk, da, ds⟩ := hrel
    have hpos : 0 < 2 ^ k := Nat.pow_pos (by decide)
    have hnext : 2 ^ (k + 1) = 2 ^ k * 2 := Nat.pow_succ ..
    by_cases hlt : k < m
    · have hle : 2 ^ k ≤ a := hm k hlt
      have hyes := fun w2 hJ2 h => hY (flagsOf s a k) k w2 hJ2 ⟨rfl, hlt, h⟩
      have hfy := @flagsOf_yes s a k
      have hfn := @flagsOf_no s a k
      have HY := Lib.hid hyes
      have HFY := Lib.hid hfy
      have HFN := Lib.hid hfn
      clear hyes hfy hfn
      have hob : onB s a k = ((bits .and .i64 a ((2 ^ k : Nat) : Int) != 0) && (bits .and .i64 s ((2 ^ k : Nat) : Int) != 0)) := rfl
      have HOB := Lib.hid hob
      clear hob
      generalize hq : 2 ^ k = q at hpos hnext hle HOB
      have HQ := Lib.hid hq
      have HN := Lib.hid hnext
      clear hq hnext
      have hcd : decide ((q : Int) ≤ (a : Int)) = true := by simp; omega
      rcases bool_cases (bits .and .i64 (a : Int) (q : Int) != 0) with hb1 | hb1
      · have hno := HFN.out (by rw [HOB.out, hb1]; rfl)
        have HNO := Lib.hid hno
        clear hno
        gi_wp2
        refine ⟨trivial, ?_⟩
        gi_wp2
        refine ⟨fun _ h => (by cases h), ?_⟩
        gi_wp2
        go_roundw
        case rel => exact ⟨k + 1, by omega, by rw [HN.out]; rfl, by rw [HNO.out]; exact hJk, da, ds⟩
        case measure => simp [intOf]; omega
      · rcases bool_cases (bits .and .i64 s (q : Int) != 0) with hb2 | hb2
        · have hno := HFN.out (by rw [HOB.out, hb1, hb2]; rfl)
          have HNO := Lib.hid hno
          clear hno
          gi_wp2
          refine ⟨trivial, fun hd => (by cases hd), (callsIn_wide.2 (has_any s q wr)).mono ?_⟩
          rintro e w2 ⟨rfl, hbw⟩
          have da2 := cell_later hbw da
          have ds2 := cell_later hbw ds
          rw [hb2]
          gi_wp2
          refine ⟨fun _ h => (by cases h), ?_⟩
          gi_wp2
          go_roundw
          case rel => exact ⟨k + 1, by omega, by rw [HN.out]; rfl, by rw [HNO.out]; exact hJ _ _ _ hJk hbw, da2, ds2⟩
          case measure => simp [intOf]; omega
        · have hyes := HFY.out (by rw [HOB.out, hb1, hb2]; rfl)
          have HYES := Lib.hid hyes
          clear hyes
          gi_wp2
          refine ⟨trivial, fun hd => (by cases hd), (callsIn_wide.2 (has_any s q wr)).mono ?_⟩
          rintro e w2 ⟨rfl, hbw⟩
          have da2 := cell_later hbw da
          have ds2 := cell_later hbw ds
          have hy0 := HY.out w2 (hJ _ _ _ hJk hbw) (by rw [HOB.out, hb1, hb2]; rfl)
          rw [hb2]
          rw [HQ.out] at hy0
          obtain ⟨fnn, tmps, assign, body, hy, hR⟩ := hy0
          gi_wp2
          refine ⟨fun hd => (by cases hd), hR.mono ?_⟩
          rintro e W3 (⟨rfl, hJ3, hk3, hk4, hk5⟩ | ⟨rfl, hJx3⟩)
          · have da3 : W3.cell? ⟨Ba, 0, none⟩ = some (.int .i64 (a : Int)) := (World.cell?_of_block (w := w2) (a := ⟨Ba, 0, none⟩) hk3).trans da2
            have ds3 : W3.cell? ⟨Bs, 0, none⟩ = some (.int .i64 s) := (World.cell?_of_block (w := w2) (a := ⟨Bs, 0, none⟩) hk4).trans ds2
            gi_wp2
            go_roundw
            case rel => exact ⟨k + 1, by omega, by rw [HN.out]; rfl, by rw [HYES.out]; exact hJ3, da3, ds3⟩
            case measure => simp [intOf]; omega
          · gi_wp2
            simp only [Exit.noGoto]
            go_end0
            exact ⟨⟨_, rfl⟩, .inr ⟨_, trivial, hJx3⟩⟩
    · obtain rfl : k = m := by omega
      generalize hq : 2 ^ k = q at ha
      have hcd : decide ((q : Int) ≤ (a : Int)) = false := by simp; omega
      have HQ := Lib.hid hq
      clear hq
      gi_wp2
      simp only [Exit.noGoto]
      go_end0
      exact ⟨⟨_, rfl⟩, .inl ⟨_, rfl, hJk⟩⟩

end Go.Proofs.YtinflolpcemnhaaDoor
