/-
  The document's disk in memory (package postriderref18): Read, Bytes, Arm, Restart. No condition.
-/
import Derived.Test.YtlkghcfjcdeokaaDoorDkN
import Derived.Test.YtlkghcfjcdeokaaDoorDiskP
import Derived.Test.YtlkghcfjcdeokaaDoorNumsK
namespace Go.Proofs.YtlkghcfjcdeokaaDoor
open Go.RowKit Go.Shelf

/-- A row of the call's own of one-cell things, with one turned. -/
theorem own_set1 {w : World} {base n g c : Nat} {t : TypeId} {xs : List Value} (h : w.ownsRow base t 1 (.slice (some ⟨g, 0, none⟩) n c) n xs) (i : Nat) (v : Value) :
    (w.setCell ⟨g, i, none⟩ v).ownsRow base t 1 (.slice (some ⟨g, 0, none⟩) n c) n (xs.set i v) := by
  obtain ⟨h0, ⟨h1, -⟩ | ⟨g', cap, cur, h1, hb, hg, hn, hm, hs, ht⟩⟩ := h
  · cases h1
  · injection h1 with e1 e2 e3
    injection e1 with e1
    injection e1 with e1
    subst e1 e3
    refine ⟨by rw [List.length_set]; exact h0, .inr ⟨_, _, cur.setIfInBounds i v, rfl, hb, Blk.set_ hg i v, hn, hm, by rw [Array.size_setIfInBounds]; exact hs, ?_⟩⟩
    rw [Array.toList_setIfInBounds, List.take_set, ht]
theorem own_frozen {w : World} {base n g c : Nat} {t : TypeId} {xs : List Value} (h : w.ownsRow base t 1 (.slice (some ⟨g, 0, none⟩) n c) n xs) (i : Nat) : w.frozen? ⟨g, i, none⟩ = false := by
  obtain ⟨h0, ⟨h1, -⟩ | ⟨g', cap, cur, h1, hb, hg, -⟩⟩ := h
  · cases h1
  · injection h1 with e1 e2 e3
    injection e1 with e1
    injection e1 with e1
    subst e1
    exact Blk.frozen hg i
theorem own_keep1 {w w' : World} {base n g c : Nat} {t : TypeId} {xs : List Value} (h : w.ownsRow base t 1 (.slice (some ⟨g, 0, none⟩) n c) n xs) (hk : w'.heap[g]? = w.heap[g]?) : w'.ownsRow base t 1 (.slice (some ⟨g, 0, none⟩) n c) n xs := by
  obtain ⟨h0, ⟨h1, -⟩ | ⟨g', cap, cur, h1, hb, hg, hr⟩⟩ := h
  · cases h1
  · injection h1 with e1 e2 e3
    injection e1 with e1
    injection e1 with e1
    subst e1 e3
    exact ⟨h0, .inr ⟨_, _, cur, rfl, hb, hk.trans hg, hr⟩⟩

/-- A sector as a text. -/
def strV (l : List UInt8) : Value := .string ⟨l.toArray⟩
/-- The document's disk in memory: itself at block p, its sectors' texts at block g; its cut is the disk's where its power may go. -/
structure RAt (w : World) (p g c k : Nat) (d : DN) : Prop where
  disk : Blk w p 41 #[.slice (some ⟨g, 0, none⟩) d.L.length c, .int .i64 (d.left : Int), .int .i64 (k : Int), .bool d.down, .int .i64 (d.n : Int)]
  row : w.ownsRow 0 9 1 (.slice (some ⟨g, 0, none⟩) d.L.length c) d.L.length (d.L.map strV)
  ne : p ≠ g
  cut : 1 ≤ d.left → k = d.cut
  k64 : k ≤ 64
  fit : d.Fit
  len : d.L.length ≤ 256
  left : d.left ≤ 9223372036854775807
  n : d.n ≤ 1000000
theorem RAt.below {w w' : World} {p g c k : Nat} {d : DN} (h : RAt w p g c k d) (hb : Below w.heap.size w w') : RAt w' p g c k d := ⟨h.disk.below hb, own_below h.row hb, h.ne, h.cut, h.k64, h.fit, h.len, h.left, h.n⟩
theorem RAt.keep {w w' : World} {p g c k : Nat} {d : DN} (h : RAt w p g c k d) (h1 : w'.heap[p]? = w.heap[p]?) (h2 : w'.heap[g]? = w.heap[g]?) : RAt w' p g c k d := ⟨h.disk.kept h1, own_keep1 h.row h2, h.ne, h.cut, h.k64, h.fit, h.len, h.left, h.n⟩
theorem RAt.cell {w : World} {p g c k : Nat} {d : DN} (h : RAt w p g c k d) {i : Nat} (hi : i < d.L.length) : w.cell? ⟨g, i, none⟩ = some (.string ⟨d.L[i].toArray⟩) := by
  have := h.row.cells rfl i (strV d.L[i]) (by rw [List.getElem?_map, List.getElem?_eq_getElem hi]; rfl)
  rwa [show (⟨g, 0, none⟩ : Addr).add i = ⟨g, i, none⟩ by unfold Addr.add; split <;> simp_all] at this
theorem RAt.glt {w : World} {p g c k : Nat} {d : DN} (h : RAt w p g c k d) : g < w.heap.size := (h.row.lt g rfl).2

/-- What a call that turns the document's disk leaves. -/
def RTurned (v : Value) (p g c : Nat) (d : DN) (w : World) (e : Ending) (w' : World) : Prop := e = .returned v ∧ (∃ k, RAt w' p g c k d) ∧ But2 p g w w'

theorem RRead_any {w : World} {p g c k : Nat} {d : DN} (i : Int) (h : RAt w p g c k d) :
    Calls Tryd.prog 31 #[.pointer (some ⟨p, 0, none⟩), .int .i64 i] w (Pure (.tuple #[.string ⟨(d.read i).1.toArray⟩, .int .i64 (d.read i).2]) w) := by
  obtain ⟨c0, c1, c2, c3, c4, -⟩ := h.disk.c5
  rcases bool_cases d.down with hd | hd
  · rw [hd] at c3
    rcases has_cases d i with hno | ⟨r, rfl, hr⟩
    · rw [DN.read_no hd hno]
      have hno2 : i < 0 ∨ (d.L.length : Int) ≤ i := by
        by_cases q : 0 ≤ i ∧ i < (d.L.length : Int)
        · exfalso
          have := (DN.has_iff (d := d) (i := i)).2 ⟨i.toNat, by omega, by omega⟩
          rw [hno] at this
          exact absurd this (by decide)
        · omega
      clear h
      dsimp only
      generalize d.L.length = m at *
      by_cases i1 : i < 0
      · go_enter Tryd.func31, Tryd.ntmps31
        go_wp2_with fail
        go_ret2
        exact ⟨rfl, rfl⟩
      · have i2 : (m : Int) ≤ i := by omega
        go_enter Tryd.func31, Tryd.ntmps31
        go_wp2_with fail
        go_ret2
        exact ⟨rfl, rfl⟩
    · rw [DN.read_ok hd hr]
      have hc := h.cell hr
      have i1 : (0 : Int) ≤ (r : Int) := by omega
      have i2 : (r : Int) < (d.L.length : Int) := by omega
      have i3 : ¬ (r : Int) < 0 := by omega
      dsimp only
      generalize (⟨d.L[r].toArray⟩ : ByteArray) = T at *
      clear h
      go_enter Tryd.func31, Tryd.ntmps31
      go_wp2_with fail
      go_ret2
      exact ⟨rfl, rfl⟩
  · rw [DN.read_down hd]
    rw [hd] at c3
    go_enter Tryd.func31, Tryd.ntmps31
    go_wp2_with fail
    go_ret2
    exact ⟨rfl, rfl⟩

theorem RArm_any {w : World} {p g c k : Nat} {d : DN} (m u : Int) (h : RAt w p g c k d) (hm : m ≤ 9223372036854775807) :
    Calls Tryd.prog 33 #[.pointer (some ⟨p, 0, none⟩), .int .i64 m, .int .i64 u] w (RTurned (.int .i64 (d.arm m u).2) p g c (d.arm m u).1 w) := by
  obtain ⟨c0, c1, c2, c3, c4, g0, g1, g2, g3, g4⟩ := h.disk.c5
  by_cases hh : 1 ≤ m ∧ 0 ≤ u ∧ u ≤ 64
  · obtain ⟨N, rfl⟩ : ∃ N : Nat, m = (N : Int) := ⟨m.toNat, by omega⟩
    obtain ⟨U, rfl⟩ : ∃ U : Nat, u = (U : Int) := ⟨u.toNat, by omega⟩
    rw [DN.arm, if_pos hh, Int.toNat_natCast, Int.toNat_natCast]
    obtain ⟨i1, i2, i3⟩ := hh
    have i4 : ¬ (N : Int) < 1 := by omega
    have i5 : ¬ (64 : Int) < (U : Int) := by omega
    have i6 : ¬ (U : Int) < 0 := by omega
    go_enter Tryd.func33, Tryd.ntmps33
    go_wp2_with fail
    go_ret
    have q := (h.disk.set_ 1 (.int .i64 (N : Int))).set_ 2 (.int .i64 (U : Int))
    simp only [List.setIfInBounds_toArray, List.set_cons_succ, List.set_cons_zero] at q
    refine ⟨rfl, ⟨U, q, own_keep1 h.row ?_, h.ne, fun _ => rfl, by omega, ⟨h.fit.sec, by show U ≤ 64; omega⟩, h.len, by show N ≤ _; omega, h.n⟩, ?_⟩
    · rw [Below.heap_setCell _ _ _ _ (Ne.symm h.ne), Below.heap_setCell _ _ _ _ (Ne.symm h.ne)]
    · exact ((But2.refl p g w).set1 _ _).set1 _ _
  · rw [DN.arm, if_neg hh]
    have hR : RAt w p g c k d := h
    clear h
    by_cases i1 : m < 1
    · go_enter Tryd.func33, Tryd.ntmps33
      go_wp2_with fail
      go_ret
      exact ⟨rfl, ⟨k, hR⟩, But2.refl _ _ _⟩
    · by_cases i2 : u < 0
      · go_enter Tryd.func33, Tryd.ntmps33
        go_wp2_with fail
        go_ret
        exact ⟨rfl, ⟨k, hR⟩, But2.refl _ _ _⟩
      · have i3 : 64 < u := by omega
        go_enter Tryd.func33, Tryd.ntmps33
        go_wp2_with fail
        go_ret
        exact ⟨rfl, ⟨k, hR⟩, But2.refl _ _ _⟩
theorem RRestart_any {w : World} {p g c k : Nat} {d : DN} (h : RAt w p g c k d) :
    Calls Tryd.prog 34 #[.pointer (some ⟨p, 0, none⟩)] w (RTurned (.int .i64 0) p g c d.restart w) := by
  obtain ⟨c0, c1, c2, c3, c4, g0, g1, g2, g3, g4⟩ := h.disk.c5
  go_enter Tryd.func34, Tryd.ntmps34
  go_wp2_with fail
  go_ret
  have q := (h.disk.set_ 3 (.bool false)).set_ 1 (.int .i64 0)
  simp only [List.setIfInBounds_toArray, List.set_cons_succ, List.set_cons_zero] at q
  refine ⟨rfl, ⟨k, q, own_keep1 h.row ?_, h.ne, fun e => absurd e (by show ¬ 1 ≤ 0; decide), h.k64, (DN.restart_fit h.fit).1, h.len, Nat.zero_le _, h.n⟩, ?_⟩
  · rw [Below.heap_setCell _ _ _ _ (Ne.symm h.ne), Below.heap_setCell _ _ _ _ (Ne.symm h.ne)]
  · exact ((But2.refl p g w).set1 _ _).set1 _ _

end Go.Proofs.YtlkghcfjcdeokaaDoor
