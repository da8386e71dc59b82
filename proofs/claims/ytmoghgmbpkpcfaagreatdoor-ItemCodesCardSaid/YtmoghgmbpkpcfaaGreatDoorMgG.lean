/-
  Package item: a reader's beginnings (begin, number, bytes, words). Conditions: head's and nums' listed variables hold what 'HInv' says. Package item: a reader's number, bytes and words. Conditions: head's and nums' listed variables hold what 'HInv' says. Package item: a reader's words. Conditions: head's and nums' listed variables hold what 'HInv' says. Package item: a reader's item. Conditions: as the theorems' own hypotheses say. Package item: a reader's item that does not begin, and a list. Conditions: as the theorems' own hypotheses say.
-/
import Derived.Test.YtmoghgmbpkpcfaaGreatDoorItAs
import Derived.Test.YtmoghgmbpkpcfaaGreatDoorMgF
import Derived.Test.YtmoghgmbpkpcfaaGreatDoorMgK
import Derived.Deep.RegionHeld3
import Derived.Laws.ResultCell
import Derived.ChangeMaps4
namespace Go.Proofs.YtmoghgmbpkpcfaaGreatDoor
open Go.RowKit Go.Shelf

/-- A reader in memory: its text, its place, how many items were begun. -/
abbrev RdA (w : World) (p : Nat) (s : ByteArray) (a c : Int) : Prop := Blk w p 57 #[.string s, .int .i64 a, .int .i64 c]
/-- What a reader's call leaves: all blocks but the reader stand. -/
structure RdEnd (p : Nat) (s : ByteArray) (a c : Int) (w w' : World) : Prop where
  rd : RdA w' p s a c
  bes : Besides p w w'
/-- head's and nums' listed variables stand below a place. -/
def HIp (p : Nat) (w : World) (A : Nat → Addr) (aN aW aS : Addr) : Prop := ∃ w0, HInv w0 A aN aW aS ∧ w0.heap.size ≤ p ∧ Below w0.heap.size w0 w
theorem HIp.inv {p : Nat} {w : World} {A : Nat → Addr} {aN aW aS : Addr} (h : HIp p w A aN aW aS) : HInv w A aN aW aS := by
  obtain ⟨w0, h0, _, hb⟩ := h; exact h0.below hb
theorem HIp.bes {p : Nat} {w w' : World} {A : Nat → Addr} {aN aW aS : Addr} (h : HIp p w A aN aW aS) (b : Besides p w w') : HIp p w' A aN aW aS := by
  obtain ⟨w0, h0, hp, hb⟩ := h; exact ⟨w0, h0, hp, hb.trans (b.below hp hb.size)⟩
theorem HIp.ext {p : Nat} {w w' : World} {A : Nat → Addr} {aN aW aS : Addr} (h : HIp p w A aN aW aS) (b : Below w.heap.size w w') : HIp p w' A aN aW aS := h.bes (.of_below b)
theorem RdEnd.refl {p : Nat} {s : ByteArray} {a c : Int} {w : World} (h : RdA w p s a c) : RdEnd p s a c w w := ⟨h, .refl p w⟩
theorem RdEnd.ext {p : Nat} {s : ByteArray} {a c : Int} {w w' w2 : World} (h : RdEnd p s a c w w') (b : Below w'.heap.size w' w2) : RdEnd p s a c w w2 := ⟨h.rd.below b, h.bes.trans (.of_below b)⟩
theorem RdEnd.trans {p : Nat} {s : ByteArray} {a c a' c' : Int} {w w' w2 : World} (h : RdEnd p s a c w w') (k : RdEnd p s a' c' w' w2) : RdEnd p s a' c' w w2 := ⟨k.rd, h.bes.trans k.bes⟩

set_option maxRecDepth 100000 in
set_option maxHeartbeats 1000000 in
theorem begin_over {p : Nat} {s : ByteArray} {a : Int} {c : Nat} {d : Int} {w : World} (h : RdA w p s a c) (hc : c ≤ 100) (ho : 60 ≤ c ∨ 6 < d) :
    Calls Tryz.prog 36 #[.pointer (some ⟨p, 0, none⟩), .int .i64 d] w fun e w' => e = .returned (.tuple #[.int .i64 0, .int .i64 0, WrV 40]) ∧ RdEnd p s a (c + 1) w w' := by
  obtain ⟨c0, c1, c2, f0, f1, f2⟩ := h.c3
  have q := h.set_ 2 (.int .i64 ((c : Int) + 1))
  simp only [List.setIfInBounds_toArray, List.set_cons_succ, List.set_cons_zero] at q
  have hb := (Besides.refl p w).set_ 2 (.int .i64 ((c : Int) + 1))
  unfold WrV
  by_cases h1 : 60 ≤ c
  · have i1 : (60 : Int) < (c : Int) + 1 := by omega
    go_enter Tryz.func36, Tryz.ntmps36
    go_wp2_with fail
    exact bodyPost_ret (v := .tuple #[.int .i64 0, .int .i64 0, .iface _ _]) (by simp [results, Tryz.results36, go_sem]) rfl ⟨rfl, ⟨q, hb⟩⟩
  · have i1 : ¬ (60 : Int) < (c : Int) + 1 := by omega
    have i2 : 6 < d := by omega
    go_enter Tryz.func36, Tryz.ntmps36
    go_wp2_with fail
    exact bodyPost_ret (v := .tuple #[.int .i64 0, .int .i64 0, .iface _ _]) (by simp [results, Tryz.results36, go_sem]) rfl ⟨rfl, ⟨q, hb⟩⟩

set_option maxRecDepth 100000 in
set_option maxHeartbeats 1000000 in
theorem begin_no {p : Nat} {s : ByteArray} {a : Int} {c : Nat} {d e : Int} {w : World} {t : Int × Int × Int} {A : Nat → Addr} {aN aW aS : Addr} (h : RdA w p s a c) (hI : HIp p w A aN aW aS) (hs : s.size ≤ 9223372036854775807) (hc : c < 60) (hd : d ≤ 6)
    (hD : decV s a = (t, e)) (he : e ≠ 0) :
    Calls Tryz.prog 36 #[.pointer (some ⟨p, 0, none⟩), .int .i64 d] w fun e' w' => e' = .returned (.tuple #[.int .i64 0, .int .i64 0, WrV e]) ∧ RdEnd p s a (c + 1) w w' := by
  obtain ⟨c0, c1, c2, f0, f1, f2⟩ := h.c3
  have q := h.set_ 2 (.int .i64 ((c : Int) + 1))
  simp only [List.setIfInBounds_toArray, List.set_cons_succ, List.set_cons_zero] at q
  have hb := (Besides.refl p w).set_ 2 (.int .i64 ((c : Int) + 1))
  unfold WrV
  have i1 : ¬ (60 : Int) < (c : Int) + 1 := by omega
  have i2 : ¬ 6 < d := by omega
  have e0 : (e == 0) = false := beq_eq_false_iff_ne.2 he
  have hC := fun W hW => Decode_any s a W A aN aW aS hW hs
  rw [hD] at hC
  unfold decR at hC
  go_enter Tryz.func36, Tryz.ntmps36
  go_wp2_with fail
  have hJ := hI.bes hb
  generalize w.setCell ⟨p, 2, none⟩ (.int .i64 ((c : Int) + 1)) = w1 at *
  obtain ⟨x0, x1, x2, y0, y1, y2⟩ := q.c3
  go_region_held3 (fun W : World => W.cell? ⟨p, 0, none⟩ = some (.string s) ∧ W.cell? ⟨p, 1, none⟩ = some (.int .i64 a)) (first | exact ⟨x0, x1⟩ | exact ⟨(q.below ((Below.refl _ _).drew.trans hb2)).c3.1, (q.below ((Below.refl _ _).drew.trans hb2)).c3.2.1⟩) ((go_at_call 57; (with_reducible refine (hC _ (hJ.ext (Below.refl _ _).drew).inv).mono ?_); rintro e w2 ⟨rfl, hb2⟩))
  have b2 : Below w1.heap.size w1 w2 := (Below.refl _ _).drew.trans hb2
  go_wp2_with fail
  exact bodyPost_ret (v := .tuple #[.int .i64 0, .int .i64 0, .iface _ _]) (by simp [results, Tryz.results36, go_sem]) rfl ⟨rfl, (RdEnd.mk q hb).ext b2⟩

set_option maxRecDepth 100000 in
set_option maxHeartbeats 1000000 in
theorem begin_go {p : Nat} {s : ByteArray} {a : Int} {c : Nat} {d k n x : Int} {w : World} {A : Nat → Addr} {aN aW aS : Addr} (h : RdA w p s a c) (hI : HIp p w A aN aW aS) (hs : s.size ≤ 9223372036854775807) (hc : c < 60) (hd : d ≤ 6)
    (hD : decV s a = ((k, n, x), 0)) :
    Calls Tryz.prog 36 #[.pointer (some ⟨p, 0, none⟩), .int .i64 d] w fun e' w' => e' = .returned (.tuple #[.int .i64 k, .int .i64 n, .nilIface]) ∧ RdEnd p s x (c + 1) w w' := by
  obtain ⟨c0, c1, c2, f0, f1, f2⟩ := h.c3
  have q := h.set_ 2 (.int .i64 ((c : Int) + 1))
  simp only [List.setIfInBounds_toArray, List.set_cons_succ, List.set_cons_zero] at q
  have hb := (Besides.refl p w).set_ 2 (.int .i64 ((c : Int) + 1))
  have i1 : ¬ (60 : Int) < (c : Int) + 1 := by omega
  have i2 : ¬ 6 < d := by omega
  have hC := fun W hW => Decode_any s a W A aN aW aS hW hs
  rw [hD] at hC
  unfold decR at hC
  dsimp only at hC
  go_enter Tryz.func36, Tryz.ntmps36
  go_wp2_with fail
  have hJ := hI.bes hb
  generalize w.setCell ⟨p, 2, none⟩ (.int .i64 ((c : Int) + 1)) = w1 at *
  obtain ⟨x0, x1, x2, y0, y1, y2⟩ := q.c3
  go_region_held3 (fun W : World => W.cell? ⟨p, 0, none⟩ = some (.string s) ∧ W.cell? ⟨p, 1, none⟩ = some (.int .i64 a)) (first | exact ⟨x0, x1⟩ | exact ⟨(q.below ((Below.refl _ _).drew.trans hb2)).c3.1, (q.below ((Below.refl _ _).drew.trans hb2)).c3.2.1⟩) ((go_at_call 57; (with_reducible refine (hC _ (hJ.ext (Below.refl _ _).drew).inv).mono ?_); rintro e w2 ⟨rfl, hb2⟩))
  have b2 : Below w1.heap.size w1 w2 := (Below.refl _ _).drew.trans hb2
  have q2 := q.below b2
  have b3 := hb.trans (.of_below b2)
  obtain ⟨z0, z1, z2, v0, v1, v2⟩ := q2.c3
  have q3 := q2.set_ 1 (.int .i64 x)
  simp only [List.setIfInBounds_toArray, List.set_cons_succ, List.set_cons_zero] at q3
  have b4 := b3.set_ 1 (.int .i64 x)
  clear x0 x1 x2 y0 y1 y2 c0 c1 c2 f0 f1 f2
  go_wp2_with fail
  exact bodyPost_ret (v := .tuple #[.int .i64 k, .int .i64 n, .nilIface]) (by simp [results, Tryz.results36, go_sem]) rfl ⟨rfl, ⟨q3, b4⟩⟩

end Go.Proofs.YtmoghgmbpkpcfaaGreatDoor

namespace Go.Proofs.YtmoghgmbpkpcfaaGreatDoor
open Go.RowKit Go.Shelf

theorem item_agg (w : World) : (isAgg 24).run Tryz.prog w = .ok true w := by kernel_rfl
theorem load_item {W : World} {g : Nat} {a0 a1 a2 a3 : Value} (h : Blk W g 24 #[a0, a1, a2, a3]) : (loadVar 24 ⟨g, 0, none⟩).run Tryz.prog W = .ok (.agg #[a0, a1, a2, a3]) W := by
  obtain ⟨h0, h1, h2, h3, _, _, _, _⟩ := h.c4
  unfold loadVar
  simp only [Sem.run_bind, item_agg, Result.andThen]
  simp [loadCells, loadCellsFrom, h0, h1, h2, h3, Result.andThen, Addr.add]

theorem ret_item {fn : Func} {pt u : Tmp} (h : fn.results = #[.cell pt 24, .tmp u]) {tmps : Array Value} {W : World} {g : Nat} {a0 a1 a2 a3 : Value} (hp : tmps.getD pt undef = .pointer (some ⟨g, 0, none⟩)) (hB : Blk W g 24 #[a0, a1, a2, a3]) :
    (results fn tmps).run Tryz.prog W = .ok (.tuple #[.agg #[a0, a1, a2, a3], tmps.getD u undef]) W := by
  rw [results_cell_tmp h, hp]
  simp [asAddr, load_item hB, Result.andThen]
theorem blk_set4 {w : World} {g : Nat} {t : TypeId} {a0 a1 a2 a3 : Value} (h : Blk w g t #[a0, a1, a2, a3]) (u0 u1 u2 u3 : Value) :
    Blk ((((w.setCell ⟨g, 0, none⟩ u0).setCell ⟨g, 1, none⟩ u1).setCell ⟨g, 2, none⟩ u2).setCell ⟨g, 3, none⟩ u3) g t #[u0, u1, u2, u3] := (((h.set_ 0 u0).set_ 1 u1).set_ 2 u2).set_ 3 u3
theorem Besides.new_ {p g : Nat} {w w' : World} (h : Besides p w w') (hg : w.heap.size ≤ g) (i : Nat) (u : Value) : Besides p w (w'.setCell ⟨g, i, none⟩ u) :=
  ⟨h.os, h.tape, h.output, by rw [World.size_setCell]; exact h.size, fun k hk hn => (Below.heap_setCell _ _ _ _ (by simp; omega)).trans (h.block k hk hn)⟩
theorem RdEnd.new_ {p g : Nat} {s : ByteArray} {a c : Int} {w w' : World} (h : RdEnd p s a c w w') (hp : p < w.heap.size) (hg : w.heap.size ≤ g) (i : Nat) (u : Value) : RdEnd p s a c w (w'.setCell ⟨g, i, none⟩ u) :=
  ⟨h.rd.set_other (by omega) i u, h.bes.new_ hg i u⟩
theorem RdEnd.new4 {p g : Nat} {s : ByteArray} {a c : Int} {w w' : World} (h : RdEnd p s a c w w') (hp : p < w.heap.size) (hg : w.heap.size ≤ g) (u0 u1 u2 u3 : Value) :
    RdEnd p s a c w ((((w'.setCell ⟨g, 0, none⟩ u0).setCell ⟨g, 1, none⟩ u1).setCell ⟨g, 2, none⟩ u2).setCell ⟨g, 3, none⟩ u3) :=
  (((h.new_ hp hg 0 u0).new_ hp hg 1 u1).new_ hp hg 2 u2).new_ hp hg 3 u3

set_option maxRecDepth 100000 in
set_option maxHeartbeats 1000000 in
theorem number_any {p : Nat} {s : ByteArray} {a c n d : Int} {w : World} (h : RdA w p s a c) :
    Calls Tryz.prog 37 #[.pointer (some ⟨p, 0, none⟩), .int .i64 n, .int .i64 d] w fun e w' => e = .returned (.tuple #[(TV.mk 0 n ByteArray.empty none 0 []).val, .nilIface]) ∧ RdEnd p s a c w w' := by
  unfold TV.val TV.row TV.kind TV.num TV.txt TV.at_ TV.cap TV.kids
  go_enter Tryz.func37, Tryz.ntmps37
  go_wp2_with fail
  exact bodyPost_ret (v := .tuple #[.agg #[.int .i64 0, .int .i64 n, .string _, .slice none 0 0], .nilIface]) (by simp [results, Tryz.results37, go_sem]; rfl) rfl ⟨rfl, (RdEnd.refl h).ext (ext_new _ _)⟩

set_option maxRecDepth 100000 in
set_option maxHeartbeats 1000000 in
theorem bytes_long {p : Nat} {s : ByteArray} {a c n d : Int} {w : World} (h : RdA w p s a c) (hn : 600 < n) :
    Calls Tryz.prog 38 #[.pointer (some ⟨p, 0, none⟩), .int .i64 n, .int .i64 d] w fun e w' => e = .returned (.tuple #[(TV.mk 0 0 ByteArray.empty none 0 []).val, WrV 40]) ∧ RdEnd p s a c w w' := by
  unfold TV.val TV.row TV.kind TV.num TV.txt TV.at_ TV.cap TV.kids WrV
  go_enter Tryz.func38, Tryz.ntmps38
  go_wp2_with fail
  exact bodyPost_ret (v := .tuple #[.agg #[.int .i64 0, .int .i64 0, .string _, .slice none 0 0], .iface _ _]) (by simp [results, Tryz.results38, go_sem]; rfl) rfl ⟨rfl, (RdEnd.refl h).ext (ext_new _ _)⟩

set_option maxRecDepth 100000 in
set_option maxHeartbeats 1000000 in
theorem bytes_no {p : Nat} {s : ByteArray} {a c n d e : Int} {w : World} {t : ByteArray} {A : Nat → Addr} {aN aW aS : Addr} (h : RdA w p s a c) (hI : HIp p w A aN aW aS) (hs : s.size ≤ 9223372036854775807) (hn0 : 0 ≤ n) (hn : n ≤ 600)
    (hD : cutV s a n = (t, e)) (he : e ≠ 0) :
    Calls Tryz.prog 38 #[.pointer (some ⟨p, 0, none⟩), .int .i64 n, .int .i64 d] w fun e' w' => e' = .returned (.tuple #[(TV.mk 0 0 ByteArray.empty none 0 []).val, WrV e]) ∧ RdEnd p s a c w w' := by
  unfold TV.val TV.row TV.kind TV.num TV.txt TV.at_ TV.cap TV.kids WrV
  have i1 : ¬ (600 : Int) < n := by omega
  have e0 : (e == 0) = false := beq_eq_false_iff_ne.2 he
  have hC := fun W hW => Cut_any s a n W aN aW aS hW hs (by omega) (by omega)
  rw [hD] at hC
  dsimp only at hC
  go_enter Tryz.func38, Tryz.ntmps38
  go_wp2_with fail
  have hJ := hI.ext (ext_new w (.cells #[.int .i64 0, .int .i64 0, .string ⟨#[]⟩, .slice none 0 0] 24))
  have q := h.alloc (.cells #[.int .i64 0, .int .i64 0, .string ⟨#[]⟩, .slice none 0 0] 24)
  have hb := (RdEnd.refl h).ext (ext_new w (.cells #[.int .i64 0, .int .i64 0, .string ⟨#[]⟩, .slice none 0 0] 24))
  have k := Blk.new_ w 24 #[.int .i64 0, .int .i64 0, .string ⟨#[]⟩, .slice none 0 0]
  have hgs : p < w.heap.size := h.lt
  have hge : w.heap.size < (w.alloc (.cells #[.int .i64 0, .int .i64 0, .string ⟨#[]⟩, .slice none 0 0] 24)).heap.size := by simp
  generalize HW : w.alloc (.cells #[.int .i64 0, .int .i64 0, .string ⟨#[]⟩, .slice none 0 0] 24) = w1 at *
  obtain ⟨x0, x1, x2, y0, y1, y2⟩ := q.c3
  go_region_held3 (fun W : World => W.cell? ⟨p, 0, none⟩ = some (.string s) ∧ W.cell? ⟨p, 1, none⟩ = some (.int .i64 a)) (first | exact ⟨x0, x1⟩ | exact ⟨(q.below ((Below.refl _ _).drew.trans hb2)).c3.1, (q.below ((Below.refl _ _).drew.trans hb2)).c3.2.1⟩) ((go_at_call 58; (with_reducible refine (hC _ (hJ.ext (Below.refl _ _).drew).inv.nums).mono ?_); rintro e w2 ⟨rfl, hb2⟩))
  have b2 : Below w1.heap.size w1 w2 := (Below.refl _ _).drew.trans hb2
  have q2 := q.below b2
  have b3 := hb.ext b2
  have k2 := k.below b2
  obtain ⟨z0, z1, z2, z3, v0, v1, v2, v3⟩ := k2.c4
  clear x0 x1 x2 y0 y1 y2
  go_wp2_with fail
  exact bodyPost_ret (v := _) (ret_item (pt := 6) (u := 7) (by kernel_rfl) rfl (blk_set4 k2 _ _ _ _)) rfl ⟨rfl, b3.new4 hgs (Nat.le_refl _) _ _ _ _⟩

set_option maxRecDepth 100000 in
set_option maxHeartbeats 1000000 in
theorem bytes_go {p : Nat} {s : ByteArray} {a c n d : Int} {w : World} {t : ByteArray} {A : Nat → Addr} {aN aW aS : Addr} (h : RdA w p s a c) (hI : HIp p w A aN aW aS) (hs : s.size ≤ 9223372036854775807) (hn0 : 0 ≤ n) (hn : n ≤ 600)
    (hD : cutV s a n = (t, 0)) (ha0 : -9223372036854775808 ≤ a + n) (ha : a + n ≤ 9223372036854775807) :
    Calls Tryz.prog 38 #[.pointer (some ⟨p, 0, none⟩), .int .i64 n, .int .i64 d] w fun e' w' => e' = .returned (.tuple #[(TV.mk 2 0 t none 0 []).val, .nilIface]) ∧ RdEnd p s (a + n) c w w' := by
  unfold TV.val TV.row TV.kind TV.num TV.txt TV.at_ TV.cap TV.kids
  have i1 : ¬ (600 : Int) < n := by omega
  have hC := fun W hW => Cut_any s a n W aN aW aS hW hs (by omega) (by omega)
  rw [hD] at hC
  dsimp only at hC
  go_enter Tryz.func38, Tryz.ntmps38
  go_wp2_with fail
  have hJ := hI.ext (ext_new w (.cells #[.int .i64 0, .int .i64 0, .string ⟨#[]⟩, .slice none 0 0] 24))
  have q := h.alloc (.cells #[.int .i64 0, .int .i64 0, .string ⟨#[]⟩, .slice none 0 0] 24)
  have hb := (RdEnd.refl h).ext (ext_new w (.cells #[.int .i64 0, .int .i64 0, .string ⟨#[]⟩, .slice none 0 0] 24))
  have k := Blk.new_ w 24 #[.int .i64 0, .int .i64 0, .string ⟨#[]⟩, .slice none 0 0]
  have hgs : p < w.heap.size := h.lt
  have hge : w.heap.size < (w.alloc (.cells #[.int .i64 0, .int .i64 0, .string ⟨#[]⟩, .slice none 0 0] 24)).heap.size := by simp
  generalize HW : w.alloc (.cells #[.int .i64 0, .int .i64 0, .string ⟨#[]⟩, .slice none 0 0] 24) = w1 at *
  obtain ⟨x0, x1, x2, y0, y1, y2⟩ := q.c3
  go_region_held3 (fun W : World => W.cell? ⟨p, 0, none⟩ = some (.string s) ∧ W.cell? ⟨p, 1, none⟩ = some (.int .i64 a)) (first | exact ⟨x0, x1⟩ | exact ⟨(q.below ((Below.refl _ _).drew.trans hb2)).c3.1, (q.below ((Below.refl _ _).drew.trans hb2)).c3.2.1⟩) ((go_at_call 58; (with_reducible refine (hC _ (hJ.ext (Below.refl _ _).drew).inv.nums).mono ?_); rintro e w2 ⟨rfl, hb2⟩))
  have b2 : Below w1.heap.size w1 w2 := (Below.refl _ _).drew.trans hb2
  have q2 := q.below b2
  have b3 := hb.ext b2
  have k2 := k.below b2
  clear x0 x1 x2 y0 y1 y2
  have q3 := q2.set_ 1 (.int .i64 (a + n))
  simp only [List.setIfInBounds_toArray, List.set_cons_succ, List.set_cons_zero] at q3
  have b4 : RdEnd p s (a + n) c w (w2.setCell ⟨p, 1, none⟩ (.int .i64 (a + n))) := ⟨q3, b3.bes.set_ 1 _⟩
  have k3 := k2.set_other (show w.heap.size ≠ p by omega) 1 (.int .i64 (a + n))
  obtain ⟨x0, x1, x2, y0, y1, y2⟩ := q2.c3
  obtain ⟨z0, z1, z2, z3, v0, v1, v2, v3⟩ := k3.c4
  go_wp2_with fail
  exact bodyPost_ret (v := _) (ret_item (pt := 6) (u := 7) (by kernel_rfl) rfl (blk_set4 k3 _ _ _ _)) rfl ⟨rfl, b4.new4 hgs (Nat.le_refl _) _ _ _ _⟩

end Go.Proofs.YtmoghgmbpkpcfaaGreatDoor

namespace Go.Proofs.YtmoghgmbpkpcfaaGreatDoor
open Go.RowKit Go.Shelf

set_option maxRecDepth 100000 in
set_option maxHeartbeats 1000000 in
theorem words_no {p : Nat} {s : ByteArray} {a c n d e : Int} {w : World} (h : RdA w p s a c)
    (hC : ∀ W, RdA W p s a c → Besides p w W → Calls Tryz.prog 38 #[.pointer (some ⟨p, 0, none⟩), .int .i64 n, .int .i64 d] W fun e' w' => e' = .returned (.tuple #[(TV.mk 0 0 ByteArray.empty none 0 []).val, WrV e]) ∧ RdEnd p s a c W w') :
    Calls Tryz.prog 39 #[.pointer (some ⟨p, 0, none⟩), .int .i64 n, .int .i64 d] w fun e' w' => e' = .returned (.tuple #[(TV.mk 3 0 ByteArray.empty none 0 []).val, WrV e]) ∧ RdEnd p s a c w w' := by
  unfold TV.val TV.row TV.kind TV.num TV.txt TV.at_ TV.cap TV.kids WrV at *
  go_enter Tryz.func39, Tryz.ntmps39
  go_wp2_with fail
  have q := h.alloc (.cells #[.int .i64 0, .int .i64 0, .string ⟨#[]⟩, .slice none 0 0] 24)
  have hb := (RdEnd.refl h).ext (ext_new w (.cells #[.int .i64 0, .int .i64 0, .string ⟨#[]⟩, .slice none 0 0] 24))
  have k := Blk.new_ w 24 #[.int .i64 0, .int .i64 0, .string ⟨#[]⟩, .slice none 0 0]
  have hgs : p < w.heap.size := h.lt
  have hC1 := hC _ q hb.bes
  generalize HW : w.alloc (.cells #[.int .i64 0, .int .i64 0, .string ⟨#[]⟩, .slice none 0 0] 24) = w1 at *
  refine hC1.mono ?_
  rintro e' w2 ⟨rfl, r2⟩
  have hw1 : w.heap.size < w1.heap.size := by rw [← HW]; simp
  have k2 : Blk w2 w.heap.size _ _ := k.kept (r2.bes.block _ hw1 (by omega))
  have r3 := hb.trans r2
  have hgl := k2.lt
  have hpl := r3.rd.lt
  generalize hg : w.heap.size = g at *
  obtain ⟨z0, z1, z2, z3, v0, v1, v2, v3⟩ := k2.c4
  have n1 : ¬ g = w2.heap.size := by omega
  have n2 : ¬ w2.heap.size = g := by omega
  go_wp2_with fail
  exact bodyPost_ret (v := _) (ret_item (pt := 6) (u := 7) (by kernel_rfl) rfl ((blk_set4 k2 _ _ _ _).alloc _)) rfl ⟨rfl, (r3.new4 (by omega) (by omega) _ _ _ _).ext (ext_new _ _)⟩

set_option maxRecDepth 100000 in
set_option maxHeartbeats 1000000 in
theorem words_go {p : Nat} {s : ByteArray} {a a' c n d : Int} {t : ByteArray} {w : World} (h : RdA w p s a c) (hx : textB t.data.toList = true)
    (hC : ∀ W, RdA W p s a c → Besides p w W → Calls Tryz.prog 38 #[.pointer (some ⟨p, 0, none⟩), .int .i64 n, .int .i64 d] W fun e' w' => e' = .returned (.tuple #[(TV.mk 2 0 t none 0 []).val, .nilIface]) ∧ RdEnd p s a' c W w') :
    Calls Tryz.prog 39 #[.pointer (some ⟨p, 0, none⟩), .int .i64 n, .int .i64 d] w fun e' w' => e' = .returned (.tuple #[(TV.mk 3 0 t none 0 []).val, .nilIface]) ∧ RdEnd p s a' c w w' := by
  unfold TV.val TV.row TV.kind TV.num TV.txt TV.at_ TV.cap TV.kids at *
  go_enter Tryz.func39, Tryz.ntmps39
  go_wp2_with fail
  have q := h.alloc (.cells #[.int .i64 0, .int .i64 0, .string ⟨#[]⟩, .slice none 0 0] 24)
  have hb := (RdEnd.refl h).ext (ext_new w (.cells #[.int .i64 0, .int .i64 0, .string ⟨#[]⟩, .slice none 0 0] 24))
  have k := Blk.new_ w 24 #[.int .i64 0, .int .i64 0, .string ⟨#[]⟩, .slice none 0 0]
  have hgs : p < w.heap.size := h.lt
  have hC1 := hC _ q hb.bes
  generalize HW : w.alloc (.cells #[.int .i64 0, .int .i64 0, .string ⟨#[]⟩, .slice none 0 0] 24) = w1 at *
  refine hC1.mono ?_
  rintro e' w2 ⟨rfl, r2⟩
  have hw1 : w.heap.size < w1.heap.size := by rw [← HW]; simp
  have k2 : Blk w2 w.heap.size _ _ := k.kept (r2.bes.block _ hw1 (by omega))
  have r3 := hb.trans r2
  have hgl := k2.lt
  have hpl := r3.rd.lt
  generalize hg : w.heap.size = g at *
  obtain ⟨z0, z1, z2, z3, v0, v1, v2, v3⟩ := k2.c4
  have n1 : ¬ g = w2.heap.size := by omega
  have n2 : ¬ w2.heap.size = g := by omega
  have hT := fun W => isText_any t W
  rw [hx] at hT
  go_wp2_with fail
  refine (hT _).mono ?_
  rintro e' w3 ⟨rfl, hb3⟩
  have kx := (Blk.new_ w2 24 #[.int .i64 2, .int .i64 0, .string t, .slice none 0 0]).below hb3
  have k4 := (k2.alloc _).below hb3
  have r4 := (r3.ext (ext_new _ _)).ext hb3
  clear z0 z1 z2 z3 v0 v1 v2 v3
  obtain ⟨z0, z1, z2, z3, v0, v1, v2, v3⟩ := k4.c4
  obtain ⟨x0, x1, x2, x3, y0, y1, y2, y3⟩ := kx.c4
  generalize hg2 : w2.heap.size = g2 at *
  go_wp2_with fail
  exact bodyPost_ret (v := _) (ret_item (pt := 6) (u := 7) (by kernel_rfl) rfl (blk_set4 (k4.set_other n1 0 _) _ _ _ _)) rfl ⟨rfl, (r4.new_ (by omega) (by omega) _ _).new4 (by omega) (by omega) _ _ _ _⟩

set_option maxRecDepth 100000 in
set_option maxHeartbeats 1000000 in
theorem words_form {p : Nat} {s : ByteArray} {a a' c n d : Int} {t : ByteArray} {w : World} (h : RdA w p s a c) (hx : textB t.data.toList = false)
    (hC : ∀ W, RdA W p s a c → Besides p w W → Calls Tryz.prog 38 #[.pointer (some ⟨p, 0, none⟩), .int .i64 n, .int .i64 d] W fun e' w' => e' = .returned (.tuple #[(TV.mk 2 0 t none 0 []).val, .nilIface]) ∧ RdEnd p s a' c W w') :
    Calls Tryz.prog 39 #[.pointer (some ⟨p, 0, none⟩), .int .i64 n, .int .i64 d] w fun e' w' => e' = .returned (.tuple #[(TV.mk 3 0 t none 0 []).val, WrV 20]) ∧ RdEnd p s a' c w w' := by
  unfold TV.val TV.row TV.kind TV.num TV.txt TV.at_ TV.cap TV.kids WrV at *
  go_enter Tryz.func39, Tryz.ntmps39
  go_wp2_with fail
  have q := h.alloc (.cells #[.int .i64 0, .int .i64 0, .string ⟨#[]⟩, .slice none 0 0] 24)
  have hb := (RdEnd.refl h).ext (ext_new w (.cells #[.int .i64 0, .int .i64 0, .string ⟨#[]⟩, .slice none 0 0] 24))
  have k := Blk.new_ w 24 #[.int .i64 0, .int .i64 0, .string ⟨#[]⟩, .slice none 0 0]
  have hgs : p < w.heap.size := h.lt
  have hC1 := hC _ q hb.bes
  generalize HW : w.alloc (.cells #[.int .i64 0, .int .i64 0, .string ⟨#[]⟩, .slice none 0 0] 24) = w1 at *
  refine hC1.mono ?_
  rintro e' w2 ⟨rfl, r2⟩
  have hw1 : w.heap.size < w1.heap.size := by rw [← HW]; simp
  have k2 : Blk w2 w.heap.size _ _ := k.kept (r2.bes.block _ hw1 (by omega))
  have r3 := hb.trans r2
  have hgl := k2.lt
  have hpl := r3.rd.lt
  generalize hg : w.heap.size = g at *
  obtain ⟨z0, z1, z2, z3, v0, v1, v2, v3⟩ := k2.c4
  have n1 : ¬ g = w2.heap.size := by omega
  have n2 : ¬ w2.heap.size = g := by omega
  have hT := fun W => isText_any t W
  rw [hx] at hT
  go_wp2_with fail
  refine (hT _).mono ?_
  rintro e' w3 ⟨rfl, hb3⟩
  have kx := (Blk.new_ w2 24 #[.int .i64 2, .int .i64 0, .string t, .slice none 0 0]).below hb3
  have k4 := (k2.alloc _).below hb3
  have r4 := (r3.ext (ext_new _ _)).ext hb3
  clear z0 z1 z2 z3 v0 v1 v2 v3
  obtain ⟨z0, z1, z2, z3, v0, v1, v2, v3⟩ := k4.c4
  obtain ⟨x0, x1, x2, x3, y0, y1, y2, y3⟩ := kx.c4
  generalize hg2 : w2.heap.size = g2 at *
  go_wp2_with fail
  exact bodyPost_ret (v := _) (ret_item (pt := 6) (u := 7) (by kernel_rfl) rfl (blk_set4 (k4.set_other n1 0 _) _ _ _ _)) rfl ⟨rfl, (r4.new_ (by omega) (by omega) _ _).new4 (by omega) (by omega) _ _ _ _⟩

end Go.Proofs.YtmoghgmbpkpcfaaGreatDoor

namespace Go.Proofs.YtmoghgmbpkpcfaaGreatDoor
open Go.RowKit Go.Shelf

theorem alloc_set (w : World) (o o' : Obj) : ({ w.alloc o with heap := (w.alloc o).heap.setIfInBounds w.heap.size o' } : World) = w.alloc o' := by
  have e : (w.heap.push o).setIfInBounds w.heap.size o' = w.heap.push o' := by
    apply Array.ext
    · simp
    · intro i h1 h2
      simp only [Array.size_setIfInBounds, Array.size_push] at h1
      rw [Array.getElem_setIfInBounds]
      · by_cases hi : w.heap.size = i
        · subst hi; simp
        · rw [if_neg hi, Array.getElem_push_lt (by omega), Array.getElem_push_lt (by omega)]
      all_goals simpa using h1
  unfold World.alloc
  dsimp only
  rw [e]
theorem mapAt (w : World) (es : Array MapEntry) (clk : Nat) : (w.alloc (.map es clk)).heap[w.heap.size]? = some (.map es clk) := (MapKept.heap_alloc w _).1
/-- A new key in a map that was just made. -/
theorem upd_new (w : World) (es : Array MapEntry) (clk : Nat) (k : Int) (v : Value) (hf : Instr.findNow (.int .i64) (.int .i64 k) es.toList 0 = some none) :
    (Instr.mapUpdate 83 (.map (some w.heap.size)) (.int .i64 k) v).run Tryz.prog (w.alloc (.map es clk)) = .ok () (w.alloc (.map (es.push { key := .int .i64 k, val := v, born := clk }) (clk + 1))) := by
  have hu := Tryz.underlying83
  have hi := Tryz.underlying3
  have hc : ∀ e W, (Instr.checkKey e 10000 3 (.int .i64 k)).run Tryz.prog W = .ok () W := fun e W => MapKept.run_checkKey hi (show MapKept.IsKey (.int .i64) (.int .i64 k) from rfl) e 9999
  simp [Instr.mapUpdate, run_underlying hu, MapKept.run_getObj_map (mapAt w es clk), hc, Instr.findKey, run_underlying hi, hf, MapKept.run_setObj_map _ (mapAt w es clk), Result.andThen]
  exact alloc_set w _ _
/-- A key's value. -/
theorem look_hit (w : World) (es : Array MapEntry) (clk : Nat) (k : Int) (i : Nat) (v : Value) (hf : Instr.findNow (.int .i64) (.int .i64 k) es.toList 0 = some (some (i, v))) :
    (Instr.lookup 83 (.map (some w.heap.size)) (.int .i64 k) false).run Tryz.prog (w.alloc (.map es clk)) = .ok v (w.alloc (.map es clk)) := by
  have hu := Tryz.underlying83
  have hi := Tryz.underlying3
  have hc : ∀ e W, (Instr.checkKey e 10000 3 (.int .i64 k)).run Tryz.prog W = .ok () W := fun e W => MapKept.run_checkKey hi (show MapKept.IsKey (.int .i64) (.int .i64 k) from rfl) e 9999
  simp [Instr.lookup, run_underlying hu, MapKept.run_getObj_map (mapAt w es clk), hc, Instr.findKey, run_underlying hi, hf, Result.andThen]

/-- An item's lists lie at a place or above it. -/
inductive Over (L : Nat) : TV → Prop
  | mk {k n : Int} {s : ByteArray} {a : Option Addr} {c : Nat} {l : List TV} (ha : ∀ ad, a = some ad → 0 < l.length → L ≤ ad.block) (hk : ∀ x ∈ l, Over L x) : Over L (.mk k n s a c l)
theorem Over.mono {L L' : Nat} {t : TV} (h : Over L t) (hL : L' ≤ L) : Over L' t := by
  induction h with
  | mk ha hk ih => exact .mk (fun ad e hp => Nat.le_trans hL (ha ad e hp)) ih
theorem ItAt.kept {L D D' : Nat} {W W' : World} {t : TV} (h : ItAt D W t) (ho : Over L t) (hb : ∀ k, L ≤ k → k < D → W'.heap[k]? = W.heap[k]?) (hD : D ≤ D') : ItAt D' W' t := by
  induction h with
  | mk hr hk ih =>
    cases ho with
    | mk ha ho2 =>
      refine .mk (fun hp => ?_) (fun x hx => ih x hx (ho2 x hx))
      obtain ⟨ad, h1, h2, h3⟩ := hr hp
      refine ⟨ad, h1, by omega, fun i hi => ?_⟩
      have hc : ∀ k o, k = ad.block → W'.cell? ⟨k, o, none⟩ = W.cell? ⟨k, o, none⟩ := fun k o e => by
        unfold World.cell?
        rw [hb k (by rw [e]; exact ha ad h1 hp) (by rw [e]; exact h2)]
      have hc0 : W'.cell? (ad.add (i * 4)) = W.cell? (ad.add (i * 4)) := by
        unfold World.cell?
        rw [ad_blk, hb ad.block (ha ad h1 hp) h2]
      obtain ⟨g1, g2, g3, g4⟩ := h3 i hi
      exact ⟨hc0.trans g1, (hc _ _ (ad_blk _ _)).trans g2, (hc _ _ (ad_blk _ _)).trans g3, (hc _ _ (ad_blk _ _)).trans g4⟩
/-- What a reader's function leaves. -/
def ItG (f p : Nat) (s : ByteArray) (r : RR) (t : TV) (er : Value) (w w' : World) : Prop :=
  match r with
  | .bad e => er = WrV e ∧ ∃ a c, RdEnd p s a c w w'
  | .ok c a x => er = .nilIface ∧ t.item = x ∧ RdEnd p s (a : Int) (c : Int) w w' ∧ ItAt w'.heap.size w' t ∧ Over w.heap.size t ∧ Fits f t
def ItR (f p : Nat) (s : ByteArray) (r : RR) (w : World) (e : Ending) (w' : World) : Prop :=
  ∃ (t : TV) (er : Value), e = .returned (.tuple #[.agg #[.int .i64 t.kind, .int .i64 t.num, .string t.txt, .slice t.at_ t.kids.length t.cap], er]) ∧ ItG f p s r t er w w'
theorem ItG.rd {f p : Nat} {s : ByteArray} {r : RR} {t : TV} {er : Value} {w w' : World} (h : ItG f p s r t er w w') : ∃ a c, RdEnd p s a c w w' := by
  cases r with
  | bad e => exact h.2
  | ok c a x => exact ⟨_, _, h.2.2.1⟩
/-- The result goes into a cell that was made before the call. -/
theorem ItG.turn {f p g : Nat} {s : ByteArray} {r : RR} {t : TV} {er : Value} {w W w' : World} {a c : Int} (h : ItG f p s r t er W w') (r0 : RdEnd p s a c w W) (hp : p < w.heap.size) (h1 : w.heap.size ≤ g) (h2 : g < W.heap.size) (u0 u1 u2 u3 : Value) :
    ItG f p s r t er w ((((w'.setCell ⟨g, 0, none⟩ u0).setCell ⟨g, 1, none⟩ u1).setCell ⟨g, 2, none⟩ u2).setCell ⟨g, 3, none⟩ u3) := by
  cases r with
  | bad e =>
    obtain ⟨k1, a', c', k2⟩ := h
    exact ⟨k1, a', c', (r0.trans k2).new4 hp h1 _ _ _ _⟩
  | ok c a x =>
    obtain ⟨k1, k2, k3, k4, k5, k6⟩ := h
    refine ⟨k1, k2, (r0.trans k3).new4 hp h1 _ _ _ _, k4.kept k5 (fun k hk hd => ?_) (by simp), k5.mono r0.bes.size, k6⟩
    rw [Below.heap_setCell _ _ _ _ (by simp; omega), Below.heap_setCell _ _ _ _ (by simp; omega), Below.heap_setCell _ _ _ _ (by simp; omega), Below.heap_setCell _ _ _ _ (by simp; omega)]

theorem upd_all (w : World) (p : Nat) :
    (Instr.mapUpdate 83 (.map (some w.heap.size)) (.int .i64 0) (.func (.func 37) #[.pointer (some ⟨p, 0, none⟩)] #[])).run Tryz.prog (w.alloc (.map #[] 0)) = .ok () (w.alloc (.map #[{ key := .int .i64 0, val := (.func (.func 37) #[.pointer (some ⟨p, 0, none⟩)] #[]), born := 0 }] 1)) ∧
    (Instr.mapUpdate 83 (.map (some w.heap.size)) (.int .i64 2) (.func (.func 38) #[.pointer (some ⟨p, 0, none⟩)] #[])).run Tryz.prog (w.alloc (.map #[{ key := .int .i64 0, val := (.func (.func 37) #[.pointer (some ⟨p, 0, none⟩)] #[]), born := 0 }] 1)) = .ok () (w.alloc (.map #[{ key := .int .i64 0, val := (.func (.func 37) #[.pointer (some ⟨p, 0, none⟩)] #[]), born := 0 }, { key := .int .i64 2, val := (.func (.func 38) #[.pointer (some ⟨p, 0, none⟩)] #[]), born := 1 }] 2)) ∧
    (Instr.mapUpdate 83 (.map (some w.heap.size)) (.int .i64 3) (.func (.func 39) #[.pointer (some ⟨p, 0, none⟩)] #[])).run Tryz.prog (w.alloc (.map #[{ key := .int .i64 0, val := (.func (.func 37) #[.pointer (some ⟨p, 0, none⟩)] #[]), born := 0 }, { key := .int .i64 2, val := (.func (.func 38) #[.pointer (some ⟨p, 0, none⟩)] #[]), born := 1 }] 2)) = .ok () (w.alloc (.map #[{ key := .int .i64 0, val := (.func (.func 37) #[.pointer (some ⟨p, 0, none⟩)] #[]), born := 0 }, { key := .int .i64 2, val := (.func (.func 38) #[.pointer (some ⟨p, 0, none⟩)] #[]), born := 1 }, { key := .int .i64 3, val := (.func (.func 39) #[.pointer (some ⟨p, 0, none⟩)] #[]), born := 2 }] 3)) ∧
    (Instr.mapUpdate 83 (.map (some w.heap.size)) (.int .i64 4) (.func (.func 40) #[.pointer (some ⟨p, 0, none⟩)] #[])).run Tryz.prog (w.alloc (.map #[{ key := .int .i64 0, val := (.func (.func 37) #[.pointer (some ⟨p, 0, none⟩)] #[]), born := 0 }, { key := .int .i64 2, val := (.func (.func 38) #[.pointer (some ⟨p, 0, none⟩)] #[]), born := 1 }, { key := .int .i64 3, val := (.func (.func 39) #[.pointer (some ⟨p, 0, none⟩)] #[]), born := 2 }] 3)) = .ok () (w.alloc (.map #[{ key := .int .i64 0, val := (.func (.func 37) #[.pointer (some ⟨p, 0, none⟩)] #[]), born := 0 }, { key := .int .i64 2, val := (.func (.func 38) #[.pointer (some ⟨p, 0, none⟩)] #[]), born := 1 }, { key := .int .i64 3, val := (.func (.func 39) #[.pointer (some ⟨p, 0, none⟩)] #[]), born := 2 }, { key := .int .i64 4, val := (.func (.func 40) #[.pointer (some ⟨p, 0, none⟩)] #[]), born := 3 }] 4)) :=
  ⟨upd_new w _ 0 0 _ (by rfl), upd_new w _ 1 2 _ (by rfl), upd_new w _ 2 3 _ (by rfl), upd_new w _ 3 4 _ (by rfl)⟩

set_option maxRecDepth 100000 in
set_option maxHeartbeats 1000000 in
theorem item_0 {f p : Nat} {s : ByteArray} {a c x n d : Int} {w : World} {r : RR} (h : RdA w p s a c)
    (hB : ∀ W, RdA W p s a c → Besides p w W → Calls Tryz.prog 36 #[.pointer (some ⟨p, 0, none⟩), .int .i64 d] W fun e' w' => e' = .returned (.tuple #[.int .i64 0, .int .i64 n, .nilIface]) ∧ RdEnd p s x (c + 1) W w')
    (hC : ∀ W, RdEnd p s x (c + 1) w W → Calls Tryz.prog 37 #[.pointer (some ⟨p, 0, none⟩), .int .i64 n, .int .i64 d] W (ItR f p s r W)) :
    Calls Tryz.prog 23 #[.pointer (some ⟨p, 0, none⟩), .int .i64 d] w (ItR f p s r w) := by
  have hmm := @run_makeMap Tryz.prog
  go_enter Tryz.func23, Tryz.ntmps23
  go_wp2_with fail
  have q := h.alloc (.cells #[.int .i64 0, .int .i64 0, .string ⟨#[]⟩, .slice none 0 0] 24)
  have hb := (RdEnd.refl h).ext (ext_new w (.cells #[.int .i64 0, .int .i64 0, .string ⟨#[]⟩, .slice none 0 0] 24))
  have k := Blk.new_ w 24 #[.int .i64 0, .int .i64 0, .string ⟨#[]⟩, .slice none 0 0]
  have hgs : p < w.heap.size := h.lt
  have hB1 := hB _ q hb.bes
  generalize HW : w.alloc (.cells #[.int .i64 0, .int .i64 0, .string ⟨#[]⟩, .slice none 0 0] 24) = w1 at *
  refine hB1.mono ?_
  rintro e' w2 ⟨rfl, r2⟩
  have hw1 : w.heap.size < w1.heap.size := by rw [← HW]; simp
  have k2 : Blk w2 w.heap.size _ _ := k.kept (r2.bes.block _ hw1 (by omega))
  have r3 := hb.trans r2
  have hgl := k2.lt
  obtain ⟨u1, u2, u3, u4⟩ := upd_all w2 p
  have ul := look_hit w2 #[{ key := .int .i64 0, val := (.func (.func 37) #[.pointer (some ⟨p, 0, none⟩)] #[]), born := 0 }, { key := .int .i64 2, val := (.func (.func 38) #[.pointer (some ⟨p, 0, none⟩)] #[]), born := 1 }, { key := .int .i64 3, val := (.func (.func 39) #[.pointer (some ⟨p, 0, none⟩)] #[]), born := 2 }, { key := .int .i64 4, val := (.func (.func 40) #[.pointer (some ⟨p, 0, none⟩)] #[]), born := 3 }] 4 0 0 (.func (.func 37) #[.pointer (some ⟨p, 0, none⟩)] #[]) (by rfl)
  have r4 := r3.ext (ext_new w2 (.map #[{ key := .int .i64 0, val := (.func (.func 37) #[.pointer (some ⟨p, 0, none⟩)] #[]), born := 0 }, { key := .int .i64 2, val := (.func (.func 38) #[.pointer (some ⟨p, 0, none⟩)] #[]), born := 1 }, { key := .int .i64 3, val := (.func (.func 39) #[.pointer (some ⟨p, 0, none⟩)] #[]), born := 2 }, { key := .int .i64 4, val := (.func (.func 40) #[.pointer (some ⟨p, 0, none⟩)] #[]), born := 3 }] 4))
  have k4 := k2.alloc (.map #[{ key := .int .i64 0, val := (.func (.func 37) #[.pointer (some ⟨p, 0, none⟩)] #[]), born := 0 }, { key := .int .i64 2, val := (.func (.func 38) #[.pointer (some ⟨p, 0, none⟩)] #[]), born := 1 }, { key := .int .i64 3, val := (.func (.func 39) #[.pointer (some ⟨p, 0, none⟩)] #[]), born := 2 }, { key := .int .i64 4, val := (.func (.func 40) #[.pointer (some ⟨p, 0, none⟩)] #[]), born := 3 }] 4)
  have hC4 := hC _ r4
  go_wp2_with fail
  refine hC4.mono ?_
  rintro e' w3 ⟨t, er, rfl, G⟩
  obtain ⟨a5, c5, r5⟩ := G.rd
  have k5 := k4.kept (r5.bes.block _ k4.lt (by omega))
  have hgl4 := k4.lt
  clear k2 k k4 hC4 u1 u2 u3 u4 ul
  obtain ⟨z0, z1, z2, z3, v0, v1, v2, v3⟩ := k5.c4
  go_wp2_with fail
  exact bodyPost_ret (v := _) (ret_item (pt := 4) (u := 5) (by kernel_rfl) rfl (blk_set4 k5 _ _ _ _)) rfl ⟨t, er, rfl, G.turn r4 hgs (Nat.le_refl _) hgl4 _ _ _ _⟩

set_option maxRecDepth 100000 in
set_option maxHeartbeats 1000000 in
theorem item_2 {f p : Nat} {s : ByteArray} {a c x n d : Int} {w : World} {r : RR} (h : RdA w p s a c)
    (hB : ∀ W, RdA W p s a c → Besides p w W → Calls Tryz.prog 36 #[.pointer (some ⟨p, 0, none⟩), .int .i64 d] W fun e' w' => e' = .returned (.tuple #[.int .i64 2, .int .i64 n, .nilIface]) ∧ RdEnd p s x (c + 1) W w')
    (hC : ∀ W, RdEnd p s x (c + 1) w W → Calls Tryz.prog 38 #[.pointer (some ⟨p, 0, none⟩), .int .i64 n, .int .i64 d] W (ItR f p s r W)) :
    Calls Tryz.prog 23 #[.pointer (some ⟨p, 0, none⟩), .int .i64 d] w (ItR f p s r w) := by
  have hmm := @run_makeMap Tryz.prog
  go_enter Tryz.func23, Tryz.ntmps23
  go_wp2_with fail
  have q := h.alloc (.cells #[.int .i64 0, .int .i64 0, .string ⟨#[]⟩, .slice none 0 0] 24)
  have hb := (RdEnd.refl h).ext (ext_new w (.cells #[.int .i64 0, .int .i64 0, .string ⟨#[]⟩, .slice none 0 0] 24))
  have k := Blk.new_ w 24 #[.int .i64 0, .int .i64 0, .string ⟨#[]⟩, .slice none 0 0]
  have hgs : p < w.heap.size := h.lt
  have hB1 := hB _ q hb.bes
  generalize HW : w.alloc (.cells #[.int .i64 0, .int .i64 0, .string ⟨#[]⟩, .slice none 0 0] 24) = w1 at *
  refine hB1.mono ?_
  rintro e' w2 ⟨rfl, r2⟩
  have hw1 : w.heap.size < w1.heap.size := by rw [← HW]; simp
  have k2 : Blk w2 w.heap.size _ _ := k.kept (r2.bes.block _ hw1 (by omega))
  have r3 := hb.trans r2
  have hgl := k2.lt
  obtain ⟨u1, u2, u3, u4⟩ := upd_all w2 p
  have ul := look_hit w2 #[{ key := .int .i64 0, val := (.func (.func 37) #[.pointer (some ⟨p, 0, none⟩)] #[]), born := 0 }, { key := .int .i64 2, val := (.func (.func 38) #[.pointer (some ⟨p, 0, none⟩)] #[]), born := 1 }, { key := .int .i64 3, val := (.func (.func 39) #[.pointer (some ⟨p, 0, none⟩)] #[]), born := 2 }, { key := .int .i64 4, val := (.func (.func 40) #[.pointer (some ⟨p, 0, none⟩)] #[]), born := 3 }] 4 2 1 (.func (.func 38) #[.pointer (some ⟨p, 0, none⟩)] #[]) (by rfl)
  have r4 := r3.ext (ext_new w2 (.map #[{ key := .int .i64 0, val := (.func (.func 37) #[.pointer (some ⟨p, 0, none⟩)] #[]), born := 0 }, { key := .int .i64 2, val := (.func (.func 38) #[.pointer (some ⟨p, 0, none⟩)] #[]), born := 1 }, { key := .int .i64 3, val := (.func (.func 39) #[.pointer (some ⟨p, 0, none⟩)] #[]), born := 2 }, { key := .int .i64 4, val := (.func (.func 40) #[.pointer (some ⟨p, 0, none⟩)] #[]), born := 3 }] 4))
  have k4 := k2.alloc (.map #[{ key := .int .i64 0, val := (.func (.func 37) #[.pointer (some ⟨p, 0, none⟩)] #[]), born := 0 }, { key := .int .i64 2, val := (.func (.func 38) #[.pointer (some ⟨p, 0, none⟩)] #[]), born := 1 }, { key := .int .i64 3, val := (.func (.func 39) #[.pointer (some ⟨p, 0, none⟩)] #[]), born := 2 }, { key := .int .i64 4, val := (.func (.func 40) #[.pointer (some ⟨p, 0, none⟩)] #[]), born := 3 }] 4)
  have hC4 := hC _ r4
  go_wp2_with fail
  refine hC4.mono ?_
  rintro e' w3 ⟨t, er, rfl, G⟩
  obtain ⟨a5, c5, r5⟩ := G.rd
  have k5 := k4.kept (r5.bes.block _ k4.lt (by omega))
  have hgl4 := k4.lt
  clear k2 k k4 hC4 u1 u2 u3 u4 ul
  obtain ⟨z0, z1, z2, z3, v0, v1, v2, v3⟩ := k5.c4
  go_wp2_with fail
  exact bodyPost_ret (v := _) (ret_item (pt := 4) (u := 5) (by kernel_rfl) rfl (blk_set4 k5 _ _ _ _)) rfl ⟨t, er, rfl, G.turn r4 hgs (Nat.le_refl _) hgl4 _ _ _ _⟩

set_option maxRecDepth 100000 in
set_option maxHeartbeats 1000000 in
theorem item_3 {f p : Nat} {s : ByteArray} {a c x n d : Int} {w : World} {r : RR} (h : RdA w p s a c)
    (hB : ∀ W, RdA W p s a c → Besides p w W → Calls Tryz.prog 36 #[.pointer (some ⟨p, 0, none⟩), .int .i64 d] W fun e' w' => e' = .returned (.tuple #[.int .i64 3, .int .i64 n, .nilIface]) ∧ RdEnd p s x (c + 1) W w')
    (hC : ∀ W, RdEnd p s x (c + 1) w W → Calls Tryz.prog 39 #[.pointer (some ⟨p, 0, none⟩), .int .i64 n, .int .i64 d] W (ItR f p s r W)) :
    Calls Tryz.prog 23 #[.pointer (some ⟨p, 0, none⟩), .int .i64 d] w (ItR f p s r w) := by
  have hmm := @run_makeMap Tryz.prog
  go_enter Tryz.func23, Tryz.ntmps23
  go_wp2_with fail
  have q := h.alloc (.cells #[.int .i64 0, .int .i64 0, .string ⟨#[]⟩, .slice none 0 0] 24)
  have hb := (RdEnd.refl h).ext (ext_new w (.cells #[.int .i64 0, .int .i64 0, .string ⟨#[]⟩, .slice none 0 0] 24))
  have k := Blk.new_ w 24 #[.int .i64 0, .int .i64 0, .string ⟨#[]⟩, .slice none 0 0]
  have hgs : p < w.heap.size := h.lt
  have hB1 := hB _ q hb.bes
  generalize HW : w.alloc (.cells #[.int .i64 0, .int .i64 0, .string ⟨#[]⟩, .slice none 0 0] 24) = w1 at *
  refine hB1.mono ?_
  rintro e' w2 ⟨rfl, r2⟩
  have hw1 : w.heap.size < w1.heap.size := by rw [← HW]; simp
  have k2 : Blk w2 w.heap.size _ _ := k.kept (r2.bes.block _ hw1 (by omega))
  have r3 := hb.trans r2
  have hgl := k2.lt
  obtain ⟨u1, u2, u3, u4⟩ := upd_all w2 p
  have ul := look_hit w2 #[{ key := .int .i64 0, val := (.func (.func 37) #[.pointer (some ⟨p, 0, none⟩)] #[]), born := 0 }, { key := .int .i64 2, val := (.func (.func 38) #[.pointer (some ⟨p, 0, none⟩)] #[]), born := 1 }, { key := .int .i64 3, val := (.func (.func 39) #[.pointer (some ⟨p, 0, none⟩)] #[]), born := 2 }, { key := .int .i64 4, val := (.func (.func 40) #[.pointer (some ⟨p, 0, none⟩)] #[]), born := 3 }] 4 3 2 (.func (.func 39) #[.pointer (some ⟨p, 0, none⟩)] #[]) (by rfl)
  have r4 := r3.ext (ext_new w2 (.map #[{ key := .int .i64 0, val := (.func (.func 37) #[.pointer (some ⟨p, 0, none⟩)] #[]), born := 0 }, { key := .int .i64 2, val := (.func (.func 38) #[.pointer (some ⟨p, 0, none⟩)] #[]), born := 1 }, { key := .int .i64 3, val := (.func (.func 39) #[.pointer (some ⟨p, 0, none⟩)] #[]), born := 2 }, { key := .int .i64 4, val := (.func (.func 40) #[.pointer (some ⟨p, 0, none⟩)] #[]), born := 3 }] 4))
  have k4 := k2.alloc (.map #[{ key := .int .i64 0, val := (.func (.func 37) #[.pointer (some ⟨p, 0, none⟩)] #[]), born := 0 }, { key := .int .i64 2, val := (.func (.func 38) #[.pointer (some ⟨p, 0, none⟩)] #[]), born := 1 }, { key := .int .i64 3, val := (.func (.func 39) #[.pointer (some ⟨p, 0, none⟩)] #[]), born := 2 }, { key := .int .i64 4, val := (.func (.func 40) #[.pointer (some ⟨p, 0, none⟩)] #[]), born := 3 }] 4)
  have hC4 := hC _ r4
  go_wp2_with fail
  refine hC4.mono ?_
  rintro e' w3 ⟨t, er, rfl, G⟩
  obtain ⟨a5, c5, r5⟩ := G.rd
  have k5 := k4.kept (r5.bes.block _ k4.lt (by omega))
  have hgl4 := k4.lt
  clear k2 k k4 hC4 u1 u2 u3 u4 ul
  obtain ⟨z0, z1, z2, z3, v0, v1, v2, v3⟩ := k5.c4
  go_wp2_with fail
  exact bodyPost_ret (v := _) (ret_item (pt := 4) (u := 5) (by kernel_rfl) rfl (blk_set4 k5 _ _ _ _)) rfl ⟨t, er, rfl, G.turn r4 hgs (Nat.le_refl _) hgl4 _ _ _ _⟩

set_option maxRecDepth 100000 in
set_option maxHeartbeats 1000000 in
theorem item_4 {f p : Nat} {s : ByteArray} {a c x n d : Int} {w : World} {r : RR} (h : RdA w p s a c)
    (hB : ∀ W, RdA W p s a c → Besides p w W → Calls Tryz.prog 36 #[.pointer (some ⟨p, 0, none⟩), .int .i64 d] W fun e' w' => e' = .returned (.tuple #[.int .i64 4, .int .i64 n, .nilIface]) ∧ RdEnd p s x (c + 1) W w')
    (hC : ∀ W, RdEnd p s x (c + 1) w W → Calls Tryz.prog 40 #[.pointer (some ⟨p, 0, none⟩), .int .i64 n, .int .i64 d] W (ItR f p s r W)) :
    Calls Tryz.prog 23 #[.pointer (some ⟨p, 0, none⟩), .int .i64 d] w (ItR f p s r w) := by
  have hmm := @run_makeMap Tryz.prog
  go_enter Tryz.func23, Tryz.ntmps23
  go_wp2_with fail
  have q := h.alloc (.cells #[.int .i64 0, .int .i64 0, .string ⟨#[]⟩, .slice none 0 0] 24)
  have hb := (RdEnd.refl h).ext (ext_new w (.cells #[.int .i64 0, .int .i64 0, .string ⟨#[]⟩, .slice none 0 0] 24))
  have k := Blk.new_ w 24 #[.int .i64 0, .int .i64 0, .string ⟨#[]⟩, .slice none 0 0]
  have hgs : p < w.heap.size := h.lt
  have hB1 := hB _ q hb.bes
  generalize HW : w.alloc (.cells #[.int .i64 0, .int .i64 0, .string ⟨#[]⟩, .slice none 0 0] 24) = w1 at *
  refine hB1.mono ?_
  rintro e' w2 ⟨rfl, r2⟩
  have hw1 : w.heap.size < w1.heap.size := by rw [← HW]; simp
  have k2 : Blk w2 w.heap.size _ _ := k.kept (r2.bes.block _ hw1 (by omega))
  have r3 := hb.trans r2
  have hgl := k2.lt
  obtain ⟨u1, u2, u3, u4⟩ := upd_all w2 p
  have ul := look_hit w2 #[{ key := .int .i64 0, val := (.func (.func 37) #[.pointer (some ⟨p, 0, none⟩)] #[]), born := 0 }, { key := .int .i64 2, val := (.func (.func 38) #[.pointer (some ⟨p, 0, none⟩)] #[]), born := 1 }, { key := .int .i64 3, val := (.func (.func 39) #[.pointer (some ⟨p, 0, none⟩)] #[]), born := 2 }, { key := .int .i64 4, val := (.func (.func 40) #[.pointer (some ⟨p, 0, none⟩)] #[]), born := 3 }] 4 4 3 (.func (.func 40) #[.pointer (some ⟨p, 0, none⟩)] #[]) (by rfl)
  have r4 := r3.ext (ext_new w2 (.map #[{ key := .int .i64 0, val := (.func (.func 37) #[.pointer (some ⟨p, 0, none⟩)] #[]), born := 0 }, { key := .int .i64 2, val := (.func (.func 38) #[.pointer (some ⟨p, 0, none⟩)] #[]), born := 1 }, { key := .int .i64 3, val := (.func (.func 39) #[.pointer (some ⟨p, 0, none⟩)] #[]), born := 2 }, { key := .int .i64 4, val := (.func (.func 40) #[.pointer (some ⟨p, 0, none⟩)] #[]), born := 3 }] 4))
  have k4 := k2.alloc (.map #[{ key := .int .i64 0, val := (.func (.func 37) #[.pointer (some ⟨p, 0, none⟩)] #[]), born := 0 }, { key := .int .i64 2, val := (.func (.func 38) #[.pointer (some ⟨p, 0, none⟩)] #[]), born := 1 }, { key := .int .i64 3, val := (.func (.func 39) #[.pointer (some ⟨p, 0, none⟩)] #[]), born := 2 }, { key := .int .i64 4, val := (.func (.func 40) #[.pointer (some ⟨p, 0, none⟩)] #[]), born := 3 }] 4)
  have hC4 := hC _ r4
  go_wp2_with fail
  refine hC4.mono ?_
  rintro e' w3 ⟨t, er, rfl, G⟩
  obtain ⟨a5, c5, r5⟩ := G.rd
  have k5 := k4.kept (r5.bes.block _ k4.lt (by omega))
  have hgl4 := k4.lt
  clear k2 k k4 hC4 u1 u2 u3 u4 ul
  obtain ⟨z0, z1, z2, z3, v0, v1, v2, v3⟩ := k5.c4
  go_wp2_with fail
  exact bodyPost_ret (v := _) (ret_item (pt := 4) (u := 5) (by kernel_rfl) rfl (blk_set4 k5 _ _ _ _)) rfl ⟨t, er, rfl, G.turn r4 hgs (Nat.le_refl _) hgl4 _ _ _ _⟩

end Go.Proofs.YtmoghgmbpkpcfaaGreatDoor

namespace Go.Proofs.YtmoghgmbpkpcfaaGreatDoor
open Go.RowKit Go.Shelf

set_option maxRecDepth 100000 in
set_option maxHeartbeats 1000000 in
theorem item_no {f p : Nat} {s : ByteArray} {a c d e : Int} {w : World} (h : RdA w p s a c)
    (hB : ∀ W, RdA W p s a c → Besides p w W → Calls Tryz.prog 36 #[.pointer (some ⟨p, 0, none⟩), .int .i64 d] W fun e' w' => e' = .returned (.tuple #[.int .i64 0, .int .i64 0, WrV e]) ∧ RdEnd p s a (c + 1) W w') :
    Calls Tryz.prog 23 #[.pointer (some ⟨p, 0, none⟩), .int .i64 d] w (ItR f p s (.bad e) w) := by
  unfold WrV at hB
  go_enter Tryz.func23, Tryz.ntmps23
  go_wp2_with fail
  have q := h.alloc (.cells #[.int .i64 0, .int .i64 0, .string ⟨#[]⟩, .slice none 0 0] 24)
  have hb := (RdEnd.refl h).ext (ext_new w (.cells #[.int .i64 0, .int .i64 0, .string ⟨#[]⟩, .slice none 0 0] 24))
  have k := Blk.new_ w 24 #[.int .i64 0, .int .i64 0, .string ⟨#[]⟩, .slice none 0 0]
  have hgs : p < w.heap.size := h.lt
  have hB1 := hB _ q hb.bes
  generalize HW : w.alloc (.cells #[.int .i64 0, .int .i64 0, .string ⟨#[]⟩, .slice none 0 0] 24) = w1 at *
  refine hB1.mono ?_
  rintro e' w2 ⟨rfl, r2⟩
  have hw1 : w.heap.size < w1.heap.size := by rw [← HW]; simp
  have k2 : Blk w2 w.heap.size _ _ := k.kept (r2.bes.block _ hw1 (by omega))
  have r3 := hb.trans r2
  obtain ⟨z0, z1, z2, z3, v0, v1, v2, v3⟩ := k2.c4
  go_wp2_with fail
  exact bodyPost_ret (v := _) (ret_item (pt := 4) (u := 5) (by kernel_rfl) rfl (blk_set4 k2 _ _ _ _)) rfl ⟨TV.mk 0 0 ByteArray.empty none 0 [], _, rfl, rfl, _, _, r3.new4 hgs (Nat.le_refl _) _ _ _ _⟩

end Go.Proofs.YtmoghgmbpkpcfaaGreatDoor
