/-
  Package signs: what only gathers. Conditions: as the theorems' own hypotheses say.
-/
import Derived.Test.YtinflolpcemnhaaDoorSignsB
namespace Go.Proofs.YtinflolpcemnhaaDoor
open Go.RowKit
attribute [local go_sem] Oper.semAt_some

theorem boxed_at {W : World} {B : Nat} {v : Value} {t : TypeId} (h : B = W.heap.size) : Boxed (W.alloc (.cells #[v] t)) B t v := by
  rw [h]; exact Boxed.new _ _ _
theorem boxed_below {W W' : World} {B : Nat} {t : TypeId} {v : Value} (h : Boxed W B t v) (hb : Below W.heap.size W W') : Boxed W' B t v := (hb.block B h.lt).trans h

/-- The flags gathered, one by one. -/
def gath (l : List Nat) : Int := l.foldl (fun x k => bits .or .i64 x ((2 ^ k : Nat) : Int)) 0
theorem gath_snoc (l : List Nat) (k : Nat) : gath (l ++ [k]) = bits .or .i64 (gath l) ((2 ^ k : Nat) : Int) := by simp [gath]

theorem each_any (s all : Int) (w : World) : Calls Tryd.prog 36 #[.agg #[.int .i64 s], .int .i64 all] w
    fun e w' => e = .returned (.func (.func 38) #[] #[.pointer (some ⟨w.heap.size + 1, 0, none⟩), .pointer (some ⟨w.heap.size, 0, none⟩)]) ∧
      Below w.heap.size w w' ∧ w'.heap.size = w.heap.size + 2 ∧ w'.cell? ⟨w.heap.size + 1, 0, none⟩ = some (.int .i64 all) ∧ w'.cell? ⟨w.heap.size, 0, none⟩ = some (.int .i64 s) := by
  go_enter Tryd.func36, Tryd.ntmps36
  go_wp2
  go_ret
  refine ⟨rfl, ext_alloc (ext_new _ _) _, ?_, ?_, ?_⟩
  · simp
  · simp
  · simp

theorem only_any (s : Int) (a m : Nat) (ha : a < 2 ^ m) (hm : ∀ k, k < m → 2 ^ k ≤ a) (hm40 : a ≤ 1099511627775) (w : World) :
    Calls Tryd.prog 29 #[.agg #[.int .i64 s], .int .i64 (a : Int)] w (Ret (.int .i64 (gath (flagsOf s a m))) w) := by
  refine callsIn_wide.1 (callsIn_of_wp_marks (n := 5) Tryd.func29 rfl trivial ?_ rfl)
  simp only [Tryd.ntmps29, List.size_toArray, List.length_cons, List.length_nil, Nat.reduceAdd, Nat.reduceSub, Array.replicate_succ, Array.replicate_zero, List.push_toArray, List.append_toArray, List.nil_append, List.cons_append]
  refine wpIn_wide.2 ?_
  go_wp2_with fail
  have q1 : Boxed ((w.alloc (.cells #[.int .i64 s] 33)).alloc (.cells #[.int .i64 0] 3)) (w.heap.size + 1) 3 (.int .i64 0) := boxed_at (by simp)
  have q2 : Below w.heap.size w ((w.alloc (.cells #[.int .i64 s] 33)).alloc (.cells #[.int .i64 0] 3)) := ext_alloc (ext_new _ _) _
  have q3 : ((w.alloc (.cells #[.int .i64 s] 33)).alloc (.cells #[.int .i64 0] 3)).heap.size = w.heap.size + 2 := by simp
  generalize ((w.alloc (.cells #[.int .i64 s] 33)).alloc (.cells #[.int .i64 0] 3)) = W0 at q1 q2 q3
  refine (each_any s a W0).mono ?_
  rintro e W2 ⟨rfl, hb, hsz, ca, cs⟩
  have p1 : Boxed W2 (w.heap.size + 1) 3 (.int .i64 0) := boxed_below q1 hb
  have p2 := ext_trans q2 hb
  rw [q3] at hsz ca cs ⊢
  clear q1 q2 q3 hb
  go_wp2_with fail
  generalize hd : w.heap.size = d at p1 p2 hsz ca cs
  have HD := Lib.hid hd
  clear hd
  refine wpIn_wide.1 (wpIn_rangeM (n := 5) (gf := 38) (lb := #[.pointer (some ⟨d + 2 + 1, 0, none⟩), .pointer (some ⟨d + 2, 0, none⟩)]) rfl (by omega) rfl trivial (enters_of Tryd.func38 (by kernel_rfl) rfl)
    (each_seq s a m ha hm hm40 (d + 2) (d + 2 + 1) _) (fun _ => rfl) ?hSt (fun h k => ⟨k.1.trans h.1, k.2.1.trans h.2.1, Nat.le_trans h.2.2 k.2.2⟩) ?hKb ?hMb
    (fun pre W => Boxed W (d + 1) 3 (.int .i64 (gath pre)) ∧ Below d w W) (fun _ _ _ => False) ?hI (fun _ _ _ _ _ h _ _ => h) ?hIM (fun _ _ _ _ h _ => h) ⟨p1, p2⟩ ?hround ?hdone (fun _ _ _ _ h _ => h.elim))
  case hSt => intro o o'; exact ⟨cell_later (ext_alloc (ext_new _ _) _) ca, cell_later (ext_alloc (ext_new _ _) _) cs⟩
  case hKb =>
    intro W l o o' hl _ _
    exact ⟨World.putObj_heap_other (by omega), World.putObj_heap_other (by omega), by simp [World.putObj]⟩
  case hMb =>
    intro A B hAB l o hl ho _
    have : l < A.heap.size := (Array.getElem?_eq_some_iff.1 ho).1
    rw [hAB.block l this]
    exact ho
  case hI =>
    rintro pre A B row ⟨h1, h2⟩ hgr hr
    have hl := h1.lt
    refine ⟨h1.kept hgr ?_, h2.grown hgr (by omega) (fun r e => by have := (hr r e).1; omega)⟩
    intro e
    have := (hr _ e.symm).1
    omega
  case hIM =>
    rintro pre A B ⟨h1, h2⟩ hAB
    have hl := h1.lt
    exact ⟨boxed_below h1 hAB, h2.trans (hAB.mono (by omega))⟩
  case hround =>
    rintro l pre k W ⟨h1, h2⟩ ⟨hpre, hkm, hon⟩
    gi_wp2
    refine ⟨KeepsFrom.refl _ _, ⟨by first | rfl | trivial, by first | rfl | trivial, by first | exact Nat.le_refl _ | trivial⟩, ⟨h1, h2⟩, ?_⟩
    rintro Wb ⟨r1, r2⟩ hWb
    have c1 := r1.cell
    have f1 := r1.frozen
    have hsn := gath_snoc pre k
    have HSN := Lib.hid hsn
    clear hsn
    generalize gath pre = gp at r1 c1 HSN
    gi_wp2
    refine ⟨(KeepsOthers.setCell _ _ _).from _, ⟨Below.heap_setCell _ _ _ _ (by simp), Below.heap_setCell _ _ _ _ (by simp), by simp⟩, ?_⟩
    exact ⟨by rw [HSN.out]; exact r1.set _, r2.setCell (by simp; try omega) _⟩
  case hdone =>
    rintro xs W rfl ⟨r1, r2⟩ hDD
    have c1 := r1.cell
    go_wp2_with fail
    refine ⟨by simp, .inl ⟨_, _, rfl, run_takeDeferred hDD, ?_⟩⟩
    refine ⟨_, results_tmp rfl _ _ _, rfl, ?_⟩
    have hl := r1.lt
    rw [HD.out]
    exact r2.grown (grownBy_putObj' W _ _) (by omega) (fun k e => by cases e; omega)

end Go.Proofs.YtinflolpcemnhaaDoor
