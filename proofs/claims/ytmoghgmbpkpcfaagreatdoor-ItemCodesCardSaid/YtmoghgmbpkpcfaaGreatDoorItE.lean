/-
  slices.Backward over a list of items. Conditions: as the theorems' own hypotheses say.
-/
import Derived.Test.YtmoghgmbpkpcfaaGreatDoorMgF
import Derived.Test.YtmoghgmbpkpcfaaGreatDoorMgB
namespace Go.Proofs.YtmoghgmbpkpcfaaGreatDoor
open Go.RowKit Go.Shelf
attribute [local go_sem] Oper.semAt_some

theorem backward_mk (a : Option Addr) (n c : Nat) (w : World) : Calls Tryz.prog 31 #[.slice a n c] w fun e w' => e = .returned (.func (.func 48) #[] #[.pointer (some ⟨w.heap.size, 0, none⟩)]) ∧ w.alloc (.cells #[.slice a n c] 22) = w' := by
  go_enter Tryz.func31, Tryz.ntmps31
  go_wp2
  go_ret
  exact ⟨rfl, rfl⟩

/-- What is handed over, the last one first. -/
def backL (l : List TV) : List (Nat × TV) := (l.mapIdx fun i x => (i, x)).reverse
theorem backL_length (l : List TV) : (backL l).length = l.length := by simp [backL]
theorem backL_get (l : List TV) (j : Nat) (h : j < l.length) : (backL l)[l.length - (j + 1)]? = some (j, l[j]) := by
  rw [backL, List.getElem?_reverse (by simp; omega)]
  simp only [List.length_mapIdx]
  rw [show l.length - 1 - (l.length - (j + 1)) = j by omega, List.getElem?_mapIdx, List.getElem?_eq_getElem h]
  rfl
theorem backL_kids (l : List TV) : (backL l).map Prod.snd = l.reverse := by
  rw [backL, List.map_reverse]
  congr 1
  apply List.ext_getElem
  · simp
  · intro i h1 h2; simp
def backE (p : Nat × TV) : Array Value := #[.int .i64 (p.1 : Int), p.2.val]

set_option maxRecDepth 100000 in
set_option maxHeartbeats 4000000 in
theorem back_seq (L : List TV) (a : Option Addr) (c Bs D m : Nat) (hlen : L.length ≤ 9223372036854775807) :
    SeqS Fence.wide m Tryz.prog 48 #[.pointer (some ⟨Bs, 0, none⟩)] backE
      (fun A B => Below D A B ∧ B.heap[Bs]? = A.heap[Bs]?) (fun _ _ => True) (fun A B => Below A.heap.size A B) (fun pre x => ∃ t, backL L = pre ++ x :: t)
      (fun xs _ => xs = backL L) (fun _ => True)
      (fun W => Blk W Bs 22 #[.slice a L.length c] ∧ RowT W D a L) := by
  rintro l J Jx W ⟨hbs, hrow⟩ hJ hJx hY h0
  refine callsIn_of_wp Tryz.func48 rfl trivial ?_ rfl
  simp only [Tryz.ntmps48, List.size_toArray, List.length_cons, List.length_nil, Nat.reduceAdd, Nat.reduceSub, Array.replicate_succ, Array.replicate_zero, List.push_toArray, List.append_toArray, List.nil_append, List.cons_append]
  obtain ⟨cx, -⟩ := hbs.c1
  gi_wp2
  clear cx
  gi_loopw [3] (fun i wr => ∃ j : Nat, j ≤ L.length ∧ i = .int .i64 ((j : Int) - 1) ∧ J ((backL L).take (L.length - j)) wr ∧ Blk wr Bs 22 #[.slice a L.length c] ∧ RowT wr D a L) (fun i _ => (intOf i + 1).toNat)
  case atStart => exact ⟨L.length, Nat.le_refl _, rfl, by rw [Nat.sub_self]; exact h0, hbs, hrow⟩
  case round =>
    obtain ⟨j, hj, rfl, hJk, hbk, hgk⟩ := hrel
    obtain ⟨cx, -⟩ := hbk.c1
    cases j with
    | zero =>
      have i1 : ¬ (0 : Int) ≤ ((0 : Nat) : Int) - 1 := by omega
      gi_wp2
      go_end0
      rw [Nat.sub_zero, ← backL_length, List.take_length] at hJk
      first
        | exact ⟨⟨_, rfl⟩, .inl ⟨_, rfl, hJk⟩⟩
        | exact ⟨⟨_, rfl⟩, .inl hJk⟩
    | succ j =>
      have e1 : ((j + 1 : Nat) : Int) - 1 = (j : Int) := by omega
      rw [e1]
      have hx := backL_get L j (by omega)
      obtain ⟨ad, rfl, hab, hca⟩ := hgk (by omega)
      obtain ⟨x1, x2, x3, x4⟩ := hca j (by omega)
      have hsplit : backL L = (backL L).take (L.length - (j + 1)) ++ (j, L[j]) :: (backL L).drop (L.length - (j + 1) + 1) := by
        rw [← (List.getElem?_eq_some_iff.1 hx).2, List.getElem_cons_drop, List.take_append_drop]
      have hnext : (backL L).take (L.length - j) = (backL L).take (L.length - (j + 1)) ++ [(j, L[j])] := by
        rw [show L.length - j = L.length - (j + 1) + 1 by omega, List.take_add_one, hx]; rfl
      have hy := hY ((backL L).take (L.length - (j + 1))) (j, L[j]) wr hJk ⟨_, hsplit⟩
      obtain ⟨fnn, tmps, assign, body, hy, hR2⟩ := hy
      have i1 : (0 : Int) ≤ (j : Int) := by omega
      have i2 : (j : Int) < (L.length : Int) := by omega
      have HX := Lib.hid hx
      have HN := Lib.hid hnext
      have HC := Lib.hid hca
      clear hx hsplit hnext hca e1
      unfold backE TV.val at hy
      unfold TV.row at hy x4
      dsimp only at hy
      generalize L[j] = x at *
      gi_wp2
      refine ⟨fun hd => (by cases hd), hR2.mono ?_⟩
      rintro e W3 (⟨rfl, hJ3, hk3, hk4⟩ | ⟨rfl, hJx3, -⟩)
      · have hb3 := hbk.kept hk4
        have hg3 := hgk.below hk3 (Nat.le_refl _)
        gi_wp2
        refine ⟨⟨j, by omega, rfl, by rw [HN.out]; exact hJ3, hb3, hg3⟩, ?_⟩
        simp [intOf] <;> omega
      · gi_wp2
        refine bodyPost_ret (results_none rfl _ _ _) rfl ?_
        exact ⟨⟨_, rfl⟩, .inr ⟨_, trivial, hJx3⟩⟩

end Go.Proofs.YtmoghgmbpkpcfaaGreatDoor
