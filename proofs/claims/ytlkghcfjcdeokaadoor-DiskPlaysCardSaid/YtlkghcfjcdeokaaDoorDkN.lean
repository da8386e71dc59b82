/-
  Package disk: Bytes. Conditions: errors.errorType holds the handle of the type error ('SInv'); nums' listed variables hold different errors ('NInv').
-/
import Derived.Test.YtlkghcfjcdeokaaDoorDkM
import Derived.Test.YtlkghcfjcdeokaaDoorDkE
import Derived.Test.YtlkghcfjcdeokaaDoorNumsK
namespace Go.Proofs.YtlkghcfjcdeokaaDoor
open Go.RowKit Go.Shelf
attribute [local go_sem] Oper.semAt_some

/-- A builder in block b, its row beyond. -/
abbrev IsBu (b : Nat) (bs : List Value) (w : World) : Prop := Lib.IsBuilder 76 5 b b bs w

theorem bu_other {b : Nat} {bs : List Value} {A B : World} {row : Option Nat} (h : IsBu b bs A) (hg : A.grownBy B row) (hr : ∀ r, row = some r → ∃ o : Obj, A.heap[r]? = some o ∧ o.isCells = false) : IsBu b bs B := by
  have key : ∀ p, Lib.BuilderAt 76 5 b b p bs A → Lib.BuilderAt 76 5 b b p bs B := by
    rintro p ⟨hB, v, hb, hown, hne⟩
    refine ⟨hB, v, ?_, own_other hown hg hr, hne⟩
    rw [hg.block b (Array.getElem?_eq_some_iff.1 hb).1 (fun e => ?_)]
    · exact hb
    · obtain ⟨o, ho, hc⟩ := hr b e.symm
      rw [hb] at ho
      cases ho
      cases hc
  exact h.imp (key _) (key _)
theorem bu_below {b : Nat} {bs : List Value} {A B : World} (h : IsBu b bs A) (hb : Below A.heap.size A B) : IsBu b bs B := by
  have key : ∀ p, Lib.BuilderAt 76 5 b b p bs A → Lib.BuilderAt 76 5 b b p bs B := by
    rintro p ⟨hB, v, hbk, hown, hne⟩
    exact ⟨hB, v, (hb.block b (Array.getElem?_eq_some_iff.1 hbk).1).trans hbk, own_below hown hb, hne⟩
  exact h.imp (key _) (key _)
theorem bu_new (w : World) : IsBu w.heap.size [] (w.alloc (.cells #[.pointer none, .slice none 0 0] 76)) :=
  .inl ⟨Nat.le_refl _, _, World.alloc_heap_new w _, own_nil, by simp [Value.ownBlock]⟩
theorem bu_lt {b : Nat} {bs : List Value} {w : World} (h : IsBu b bs w) : b < w.heap.size := by
  rcases h with h | h
  · exact h.lt
  · exact h.lt
theorem bu_cells {b : Nat} {bs : List Value} {w : World} (h : IsBu b bs w) : ∃ cs, w.heap[b]? = some (.cells cs 76 (0, 0)) := by
  rcases h with ⟨-, v, hb, -⟩ | ⟨-, v, hb, -⟩ <;> exact ⟨_, hb⟩
/-- What a write into a builder of the call's own leaves to a loop. -/
theorem keep_from {b B D : Nat} {bs : List Value} {w w' : World} (h : BKeep B b w w') (hb : IsBu b bs w) : KeepsFrom D w w' :=
  ⟨h.below.size, fun k o _ hk ho => h.block k o hk (fun e => by
    subst e
    obtain ⟨cs, hc⟩ := bu_cells hb
    rw [hc] at hk
    cases hk
    cases ho) (fun c fr e => by subst e; cases ho)⟩
theorem keep_sto {b B g n x : Nat} {w w' : World} (h : BKeep B b w w') (hs : StoB w x g n) (hx : x ≠ b) : StoB w' x g n :=
  h.block x _ hs hx (fun c fr e => by injection e with _ e _; exact absurd e (by decide))
theorem cellsB_app (a b : List UInt8) : cellsB (a ++ b) = cellsB a ++ cellsB b := by simp [cellsB]
theorem flat_snoc (pre : List (List UInt8)) (x : List UInt8) : cellsB (pre ++ [x]).flatten = cellsB pre.flatten ++ cellsB x := by simp [cellsB]

set_option maxRecDepth 100000 in
set_option maxHeartbeats 4000000 in
theorem DBytes_wr {w : World} {p g : Nat} {d : DN} (at_ n : Int) (h : DAt w p g d) (hI : SInv w) (hd : d.down = true) :
    Calls Tryd.prog 21 #[.pointer (some ⟨p, 0, none⟩), .int .i64 at_, .int .i64 n] w (Ret (.tuple #[.string ByteArray.empty, .int .i64 180]) w) := by
  go_enter Tryd.func21, Tryd.ntmps21
  go_wp2_with fail
  refine (up_any h).mono ?_
  rintro y v1 ⟨u1, rfl, hr1, hb1⟩
  obtain ⟨a1, a2, a3, rfl, -⟩ := id hr1
  go_wp2_with fail
  refine (check_any p _ [(!d.down, 180)] _ (rules1 (by simp) (hr1.below (ext_new _ _))) (by simp)).mono ?_
  rw [show firstE [(!d.down, 180)] = WrV 180 by rw [hd]; rfl]
  unfold WrV
  rintro y v2 ⟨rfl, hb2⟩
  have hW := ext_trans (ext_alloc hb1 _) hb2
  have hT := tolds_wr ByteArray.empty 180 _ (hI.below hW)
  unfold WrV at hT
  go_wp2_with fail
  refine hT.mono ?_
  rintro y v4 ⟨rfl, hb4⟩
  go_wp2_with fail
  go_ret2
  exact ⟨rfl, ext_trans hW hb4⟩

set_option maxRecDepth 100000 in
set_option maxHeartbeats 4000000 in
theorem DBytes_ok {w : World} {p g : Nat} {d : DN} (at_ n : Int) (aN aW aS : Addr) (h : DAt w p g d) (hI : NInv w aN aW aS) (hd : d.down = false) (h0 : 0 < d.L.length) (hn1 : -9223372036854775808 ≤ n) (hn2 : n ≤ 9223372036854775807) :
    Calls Tryd.prog 21 #[.pointer (some ⟨p, 0, none⟩), .int .i64 at_, .int .i64 n] w (Ret (.tuple #[.string (cutV ⟨d.L.flatten.toArray⟩ at_ n).1, .int .i64 (cutV ⟨d.L.flatten.toArray⟩ at_ n).2]) w) := by
  obtain ⟨i0, hi0, hz0, -, -⟩ := info_parts infoSec
  refine callsIn_wide.1 (callsIn_of_wp_marks (n := 5) Tryd.func21 rfl trivial ?_ rfl)
  simp only [Tryd.ntmps21, List.size_toArray, List.length_cons, List.length_nil, Nat.reduceAdd, Nat.reduceSub, Array.replicate_succ, Array.replicate_zero, List.push_toArray, List.append_toArray, List.nil_append, List.cons_append]
  refine wpIn_wide.2 ?_
  go_wp2_with fail
  refine (up_any h).mono ?_
  rintro y v1 ⟨u1, rfl, hr1, hb1⟩
  obtain ⟨a1, a2, a3, rfl, -⟩ := id hr1
  go_wp2_with fail
  refine (check_any p _ [(!d.down, 180)] _ (rules1 (by simp) (hr1.below (ext_new _ _))) (by simp)).mono ?_
  rw [show firstE [(!d.down, 180)] = .nilIface by rw [hd]; rfl]
  rintro y v2 ⟨rfl, hb2⟩
  have hW := ext_trans (ext_alloc hb1 _) hb2
  clear hr1 hb1 hb2
  obtain ⟨c0, -⟩ := (h.below hW).disk.c5
  have hpl := (h.below hW).disk.lt
  go_wp2_with fail
  refine (all_any g d.L.length _).mono ?_
  rintro e w5 ⟨rfl, rfl⟩
  go_wp2_with fail
  obtain ⟨e, he⟩ : ∃ e, v2.heap.size = e := ⟨_, rfl⟩
  have hD2 := h.below hW
  have hgl := hD2.secs.lt
  have hbu := bu_new v2
  rw [he] at hpl hgl hbu ⊢
  have hwe : w.heap.size ≤ e := by rw [← he]; exact hW.size
  generalize hW5 : (v2.alloc (.cells #[.pointer none, .slice none 0 0] 76)).alloc (.cells #[.slice (some ⟨g, 0, none⟩) d.L.length d.L.length] 55) = W5
  have hW5s : W5.heap.size = e + 2 := by rw [← hW5]; simp [he]
  have p1 : StoB W5 (e + 1) g d.L.length := by rw [← hW5]; exact Blk.at_ (by simp [he])
  have p2 : Blk W5 g 70 (cellsB d.L.flatten).toArray := by rw [← hW5]; exact (hD2.secs.alloc _).alloc _
  have p3 : IsBu e [] W5 := by rw [← hW5]; exact bu_below hbu (ext_new _ _)
  have p4 : Below w.heap.size w W5 := by rw [← hW5]; exact (hW.alloc (by omega) _).alloc (by simp; omega) _
  have hlen : d.L.flatten.length ≤ 16384 := by have := flat_length h.fit.sec; have := h.len; omega
  have hne : d.L.flatten ≠ [] := by
    intro q
    have := flat_length h.fit.sec
    rw [q] at this
    simp at this
    omega
  clear hW5 hbu hD2 c0
  refine wpIn_wide.1 (wpIn_rangeX (n := 5) (gf := 47) (lb := #[.pointer (some ⟨e + 1, 0, none⟩)]) rfl (by omega) rfl trivial (enters_of Tryd.func47 (by kernel_rfl) rfl)
    (all_seq d.L h.fit.sec h.len (e + 1) g e _ hgl) (fun _ => rfl) ?hSt ?hSe (fun h k => ⟨h.1.trans k.1, k.2.trans h.2⟩) ?hKb ?hMb
    (fun pre W => IsBu e (cellsB pre.flatten) W ∧ Below w.heap.size w W ∧ e + 2 ≤ W.heap.size ∧ StoB W (e + 1) g d.L.length) (fun _ _ _ => False) ?hI (fun _ _ _ _ _ h _ _ => h) ?hIM (fun _ _ _ _ h _ => h) ⟨p3, p4, by omega, p1⟩ ?hround ?hdone (fun _ _ _ _ h _ => h.elim))
  case hSt => exact fun o o' => ⟨(p1.alloc _).alloc _, (p2.alloc _).alloc _⟩
  case hSe => exact fun xs W l o o' _ _ _ h => h
  case hKb =>
    intro W l o o' hl ho _
    have hlt := (Array.getElem?_eq_some_iff.1 ho).1
    exact ⟨(Below.refl e W).grown (grownBy_putObj' W l _) (by omega) (fun k q => by cases q; omega), World.putObj_heap_other (by omega)⟩
  case hMb =>
    rintro A B hM l o hl ho _
    exact (hM.block l (Array.getElem?_eq_some_iff.1 ho).1).trans ho
  case hI =>
    rintro pre A B row ⟨b1, b2, b3, b4⟩ hgr hr
    have := hgr.size
    exact ⟨bu_other b1 hgr (fun r q => (hr r q).2), b2.grown hgr (by omega) (fun r q => by have := (hr r q).1; omega), by omega, b4.kept (hgr.block _ b4.lt (fun q => by have := (hr _ q.symm).1; omega))⟩
  case hIM =>
    rintro pre A B ⟨b1, b2, b3, b4⟩ hM
    have := hM.size
    exact ⟨bu_below b1 hM, b2.trans (hM.mono (by omega)), by omega, b4.below hM⟩
  case hround =>
    rintro l pre x W ⟨b1, b2, b3, b4⟩ ⟨t, ht⟩ hlW
    have hx64 : x.length = 64 := h.fit.sec x (by rw [ht]; simp)
    have hfl : pre.flatten.length + 64 ≤ 16384 := by
      have := congrArg (fun l : List (List UInt8) => l.flatten.length) ht
      simp only [List.flatten_append, List.flatten_cons, List.length_append] at this
      omega
    have hsz : (Tryd.prog.info? 70).map (·.size) = some (cellsB x).length := by rw [cellsB_length, hx64]; kernel_rfl
    have hc64 : (cellsB x).toArray.size = 64 := by rw [List.size_toArray, cellsB_length, hx64]
    have hone := cellsB_one x
    have honeA := all_oneCell_toArray hone
    have hsn := flat_snoc pre x
    have HSN := Lib.hid hsn
    have HSZ := Lib.hid hsz
    have H64 := Lib.hid hc64
    have HONE := Lib.hid honeA
    have HO := Lib.hid hone
    have HT := Lib.hid ht
    clear hsn hsz hc64 honeA hone ht
    unfold secE
    simp only [List.zip_toArray, List.zip_cons_cons, List.zip_nil_right, List.foldl_toArray, List.foldl_cons, List.foldl_nil, List.setIfInBounds_toArray, List.set_cons_succ, List.set_cons_zero]
    gi_wp2_with (first
      | refine listIn_new_row rfl 70 rfl i0 _ hi0 hz0 ?_
      | refine listIn_store_new rfl 70 (.tmp 10) (.tmp 27) rfl _ (cellsB x).toArray rfl rfl (HSZ.out.trans (by rw [List.size_toArray])) (by rw [H64.out]; rfl) HONE.out ?_)
    refine ⟨KeepsFrom.of_grownBy (World.grownBy_alloc W _ none) (fun j hj => by cases hj), ⟨(Below.refl e W).alloc (by omega) _, Below.heap_alloc _ _ _ (by omega)⟩, ⟨bu_below b1 (ext_new _ _), b2.alloc (by omega) _, by simp; omega, b4.alloc _⟩, ?_⟩
    rintro Wb ⟨c1, c2, c3, c4⟩ hWb
    have bx : Blk Wb W.heap.size 70 (cellsB x).toArray := (hWb _ (by omega)).trans (World.alloc_heap_new W _)
    have hbl := bx.lt
    have hr : Wb.rangeAt W.heap.size 0 (cellsB x) := fun j v hv => by
      rw [bx.cell, Nat.zero_add, List.getElem?_toArray]; exact hv
    have HR := Lib.hid hr
    clear hWb b1 b2 b4 hr bx
    gi_wp2
    refine ⟨trivial, (CallsIn.inRound l (callsIn_wide.2 (bwrite_any e e (cellsB pre.flatten) W.heap.size 0 64 64 (cellsB x) Wb c1 (by rw [cellsB_length]; exact hx64) HR.out (by omega) hbl HO.out (by rw [cellsB_length]; omega) (by omega)))).mono ?_⟩
    rintro y W3 ⟨rfl, k1, k2⟩
    have k3 := keep_from (D := W5.heap.size) k2 c1
    have k4 := keep_sto k2 c4 (by omega)
    have k5 : IsBu e (cellsB (pre ++ [x]).flatten) W3 := .inr (by rw [HSN.out]; exact k1)
    gi_wp2
    exact ⟨k3, ⟨k2.below, k4.trans c4.symm⟩, k5, c2.trans (k2.below.mono hwe), by have := k2.below.size; omega, k4⟩
  case hdone =>
    rintro xs W hxs ⟨b1, b2, b3, b4⟩ hD
    have hxs : xs = d.L := hxs
    subst hxs
    go_wp2_with fail
    refine (bstring_any e e d.L.flatten _ b1 hne).mono ?_
    rintro y W6 ⟨rfl, k1, k2⟩
    have k3 := b2.trans (k1.mono hwe)
    have k4 := k2.same _ _ hD rfl
    go_wp2_with fail
    refine (Cut_any ⟨d.L.flatten.toArray⟩ at_ n W6 aN aW aS (hI.below k3) (by show d.L.flatten.toArray.size ≤ _; rw [List.size_toArray]; omega) hn1 hn2).mono ?_
    rintro y W7 ⟨rfl, k5⟩
    have hD2 : W7.heap[W5.heap.size]? = some (.deferred (some [])) := (k5.block _ (Array.getElem?_eq_some_iff.1 k4).1).trans k4
    have k6 := k3.trans (k5.mono k3.size)
    rw [hW5s] at hD2
    generalize cutV ⟨d.L.flatten.toArray⟩ at_ n = q at *
    go_wp2_with fail
    refine ⟨by simp, .inl ⟨_, _, rfl, run_takeDeferred hD2, ?_⟩⟩
    exact ⟨_, results_tmp2 rfl _ _ _, rfl, k6.grown (grownBy_putObj' W7 (e + 2) _) k6.size (fun k q => by cases q; omega)⟩

end Go.Proofs.YtlkghcfjcdeokaaDoor
