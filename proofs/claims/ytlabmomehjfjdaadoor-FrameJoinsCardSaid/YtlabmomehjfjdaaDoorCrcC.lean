/-
  Package crc: a byte's part (part, part$1). Conditions: as the theorems' own hypotheses say.
-/
import Derived.Test.YtlabmomehjfjdaaDoorCrcB
namespace Go.Proofs.YtlabmomehjfjdaaDoor
open Go.RowKit
attribute [local go_sem] Oper.semAt_some

theorem part16_make (w : World) :
    Calls Tryd.prog 53 #[.int .u16 33800] w fun e w' => e = .returned (.func (.func 63) #[] #[.pointer (some ⟨w.heap.size, 0, none⟩)]) ∧ w.alloc (.cells #[.int .u16 33800] 93) = w' := by
  go_enter Tryd.func53, Tryd.ntmps53
  go_wp2
  go_ret
  exact ⟨rfl, rfl⟩

set_option maxHeartbeats 1000000 in
theorem part16_any (b : Nat) (hb : b < 256) (Bp : Nat) (w : World) (hp : Boxed w Bp 93 (.int .u16 33800)) :
    Calls Tryd.prog 63 #[.int .i64 (b : Int), .pointer (some ⟨Bp, 0, none⟩)] w (Ret (.int .u32 ((partN (putN false) b : Nat) : Int)) w) := by
  have cp := hp.cell
  have hq : stepsN (putN false) 8 b < 65536 := stepsN_lt (w := 16) 8 (putN_lt false) (show b < 2 ^ 16 by omega)
  refine callsIn_wide.1 (callsIn_of_wp_marks (n := 5) Tryd.func63 rfl trivial ?_ rfl)
  simp only [Tryd.ntmps63, List.size_toArray, List.length_cons, List.length_nil, Nat.reduceAdd, Nat.reduceSub, Array.replicate_succ, Array.replicate_zero, List.push_toArray, List.append_toArray, List.nil_append, List.cons_append]
  refine wpIn_wide.2 ?_
  go_wp2_with fail
  refine (bits16_any ⟨w.heap.size, 0, none⟩ 8 _).mono ?_
  rintro e w5 ⟨rfl, rfl⟩
  go_wp2_with fail
  obtain ⟨d, hd⟩ : ∃ d, w.heap.size = d := ⟨_, rfl⟩
  have hpl := hp.lt
  rw [hd]
  have q1 : Blk (w.alloc (.cells #[.int .u16 (b : Int), .int .u16 33800] 107)) d 107 #[.int .u16 (b : Int), .int .u16 (((putN false : Nat)) : Int)] := by rw [← hd]; exact World.alloc_heap_new w _
  generalize hW5 : ((w.alloc (.cells #[.int .u16 (b : Int), .int .u16 33800] 107)).alloc (.cells #[.pointer (some ⟨d, 0, none⟩)] 105)).alloc (.cells #[.int .i64 8] 3) = W5
  have hW5s : W5.heap.size = d + 3 := by rw [← hW5]; simp [hd]
  have p1 : Blk W5 d 107 #[.int .u16 (b : Int), .int .u16 ((putN false : Nat) : Int)] := by rw [← hW5]; exact (q1.alloc _).alloc _
  have p2 : Boxed W5 (d + 1) 105 (.pointer (some ⟨d, 0, none⟩)) := by rw [← hW5]; exact (boxed_at (by simp [hd])).alloc _
  have p3 : Boxed W5 (d + 1 + 1) 3 (.int .i64 ((8 : Nat) : Int)) := by rw [← hW5]; exact boxed_at (by simp [hd])
  have p7 : Below d w W5 := by
    rw [← hW5]
    exact (((Below.refl _ w).alloc (by omega) _).alloc (by simp; omega) _).alloc (by simp; omega) _
  clear hW5 q1
  refine wpIn_wide.1 (wpIn_rangeW (n := 5) (gf := 68) (lb := #[.pointer (some ⟨d + 1 + 1, 0, none⟩), .pointer (some ⟨d + 1, 0, none⟩)]) rfl (by omega) rfl trivial (enters_of Tryd.func68 (by kernel_rfl) rfl)
    (bits16_seq b (putN false) 8 (by omega) (putN_lt false) (by omega) (d + 1 + 1) (d + 1) d _) (fun _ => rfl) ?hSt ?hSe (fun h k => ⟨k.1.trans h.1, k.2.trans h.2⟩) ?hKb ?hMb
    (fun _ W => Below d w W) (fun _ _ _ => False) ?hI (fun _ _ _ _ _ h _ _ => h) ?hIM (fun _ _ _ _ h _ => h) p7 ?hround ?hdone (fun _ _ _ _ h _ => h.elim))
  case hSt => intro o o'; exact ⟨(p3.alloc _).alloc _, (p2.alloc _).alloc _, (p1.alloc _).alloc _, by omega, by omega⟩
  case hSe =>
    intro xs W l o o' hl _ _ hs
    exact ⟨hs.1, Blk.kept hs.2 (World.putObj_heap_other (by omega))⟩
  case hKb =>
    intro W l o o' hl _ _
    exact ⟨World.putObj_heap_other (by omega), World.putObj_heap_other (by omega)⟩
  case hMb =>
    rintro A B (rfl | ⟨v, rfl⟩) l o hl ho _
    · exact ho
    · rw [Below.heap_setCell _ _ _ _ (by simp; omega)]
      exact ho
  case hI =>
    intro pre A B row h hgr hr
    exact h.grown hgr (by have := h.size; omega) (fun r e => by have := (hr r e).1; omega)
  case hIM =>
    rintro pre A B h (rfl | ⟨v, rfl⟩)
    · exact h.drew
    · exact h.setCell (by simp) _
  case hround =>
    rintro l pre x W hIW hx
    gi_wp2
    refine ⟨KeepsFrom.refl _ _, (by first | trivial | exact ⟨rfl, rfl⟩), hIW, ?_⟩
    intro Wb hIb _
    gi_wp2
    exact ⟨KeepsFrom.refl _ _, ⟨rfl, rfl⟩, hIb⟩
  case hdone =>
    rintro xs W ⟨hxs, hbk⟩ hIW hD
    have c0 := hbk.cell 0
    simp only [List.getElem?_toArray, List.getElem?_cons_zero] at c0
    have hv : ((stepsN (putN false) 8 b : Nat) : Int) = ((partN (putN false) b : Nat) : Int) := rfl
    rw [hv] at c0
    have hq' : partN (putN false) b < 65536 := hq
    clear hv hq hbk
    generalize hz : partN (putN false) b = z at c0 hq'
    have HZ := Lib.hid hz
    clear hz
    go_wp2_with fail
    refine ⟨by simp, .inl ⟨_, _, rfl, run_takeDeferred hD, ?_⟩⟩
    refine ⟨_, results_tmp rfl _ _ _, by rw [HZ.out]; rfl, ?_⟩
    rw [hW5s, hd]
    exact hIW.grown (grownBy_putObj' W (d + 3) _) (by have := hIW.size; omega) (fun k e => by cases e; omega)

theorem part32_make (w : World) :
    Calls Tryd.prog 54 #[.int .u32 2197175160] w fun e w' => e = .returned (.func (.func 65) #[] #[.pointer (some ⟨w.heap.size, 0, none⟩)]) ∧ w.alloc (.cells #[.int .u32 2197175160] 77) = w' := by
  go_enter Tryd.func54, Tryd.ntmps54
  go_wp2
  go_ret
  exact ⟨rfl, rfl⟩

set_option maxHeartbeats 1000000 in
theorem part32_any (b : Nat) (hb : b < 256) (Bp : Nat) (w : World) (hp : Boxed w Bp 77 (.int .u32 2197175160)) :
    Calls Tryd.prog 65 #[.int .i64 (b : Int), .pointer (some ⟨Bp, 0, none⟩)] w (Ret (.int .u32 ((partN (putN true) b : Nat) : Int)) w) := by
  have cp := hp.cell
  have hq : stepsN (putN true) 8 b < 4294967296 := stepsN_lt (w := 32) 8 (putN_lt true) (show b < 2 ^ 32 by omega)
  refine callsIn_wide.1 (callsIn_of_wp_marks (n := 5) Tryd.func65 rfl trivial ?_ rfl)
  simp only [Tryd.ntmps65, List.size_toArray, List.length_cons, List.length_nil, Nat.reduceAdd, Nat.reduceSub, Array.replicate_succ, Array.replicate_zero, List.push_toArray, List.append_toArray, List.nil_append, List.cons_append]
  refine wpIn_wide.2 ?_
  go_wp2_with fail
  refine (bits32_any ⟨w.heap.size, 0, none⟩ 8 _).mono ?_
  rintro e w5 ⟨rfl, rfl⟩
  go_wp2_with fail
  obtain ⟨d, hd⟩ : ∃ d, w.heap.size = d := ⟨_, rfl⟩
  have hpl := hp.lt
  rw [hd]
  have q1 : Blk (w.alloc (.cells #[.int .u32 (b : Int), .int .u32 2197175160] 113)) d 113 #[.int .u32 (b : Int), .int .u32 (((putN true : Nat)) : Int)] := by rw [← hd]; exact World.alloc_heap_new w _
  generalize hW5 : ((w.alloc (.cells #[.int .u32 (b : Int), .int .u32 2197175160] 113)).alloc (.cells #[.pointer (some ⟨d, 0, none⟩)] 111)).alloc (.cells #[.int .i64 8] 3) = W5
  have hW5s : W5.heap.size = d + 3 := by rw [← hW5]; simp [hd]
  have p1 : Blk W5 d 113 #[.int .u32 (b : Int), .int .u32 ((putN true : Nat) : Int)] := by rw [← hW5]; exact (q1.alloc _).alloc _
  have p2 : Boxed W5 (d + 1) 111 (.pointer (some ⟨d, 0, none⟩)) := by rw [← hW5]; exact (boxed_at (by simp [hd])).alloc _
  have p3 : Boxed W5 (d + 1 + 1) 3 (.int .i64 ((8 : Nat) : Int)) := by rw [← hW5]; exact boxed_at (by simp [hd])
  have p7 : Below d w W5 := by
    rw [← hW5]
    exact (((Below.refl _ w).alloc (by omega) _).alloc (by simp; omega) _).alloc (by simp; omega) _
  clear hW5 q1
  refine wpIn_wide.1 (wpIn_rangeW (n := 5) (gf := 69) (lb := #[.pointer (some ⟨d + 1 + 1, 0, none⟩), .pointer (some ⟨d + 1, 0, none⟩)]) rfl (by omega) rfl trivial (enters_of Tryd.func69 (by kernel_rfl) rfl)
    (bits32_seq b (putN true) 8 (by omega) (putN_lt true) (by omega) (d + 1 + 1) (d + 1) d _) (fun _ => rfl) ?hSt ?hSe (fun h k => ⟨k.1.trans h.1, k.2.trans h.2⟩) ?hKb ?hMb
    (fun _ W => Below d w W) (fun _ _ _ => False) ?hI (fun _ _ _ _ _ h _ _ => h) ?hIM (fun _ _ _ _ h _ => h) p7 ?hround ?hdone (fun _ _ _ _ h _ => h.elim))
  case hSt => intro o o'; exact ⟨(p3.alloc _).alloc _, (p2.alloc _).alloc _, (p1.alloc _).alloc _, by omega, by omega⟩
  case hSe =>
    intro xs W l o o' hl _ _ hs
    exact ⟨hs.1, Blk.kept hs.2 (World.putObj_heap_other (by omega))⟩
  case hKb =>
    intro W l o o' hl _ _
    exact ⟨World.putObj_heap_other (by omega), World.putObj_heap_other (by omega)⟩
  case hMb =>
    rintro A B (rfl | ⟨v, rfl⟩) l o hl ho _
    · exact ho
    · rw [Below.heap_setCell _ _ _ _ (by simp; omega)]
      exact ho
  case hI =>
    intro pre A B row h hgr hr
    exact h.grown hgr (by have := h.size; omega) (fun r e => by have := (hr r e).1; omega)
  case hIM =>
    rintro pre A B h (rfl | ⟨v, rfl⟩)
    · exact h.drew
    · exact h.setCell (by simp) _
  case hround =>
    rintro l pre x W hIW hx
    gi_wp2
    refine ⟨KeepsFrom.refl _ _, (by first | trivial | exact ⟨rfl, rfl⟩), hIW, ?_⟩
    intro Wb hIb _
    gi_wp2
    exact ⟨KeepsFrom.refl _ _, ⟨rfl, rfl⟩, hIb⟩
  case hdone =>
    rintro xs W ⟨hxs, hbk⟩ hIW hD
    have c0 := hbk.cell 0
    simp only [List.getElem?_toArray, List.getElem?_cons_zero] at c0
    have hv : ((stepsN (putN true) 8 b : Nat) : Int) = ((partN (putN true) b : Nat) : Int) := rfl
    rw [hv] at c0
    have hq' : partN (putN true) b < 4294967296 := hq
    clear hv hq hbk
    generalize hz : partN (putN true) b = z at c0 hq'
    have HZ := Lib.hid hz
    clear hz
    go_wp2_with fail
    refine ⟨by simp, .inl ⟨_, _, rfl, run_takeDeferred hD, ?_⟩⟩
    refine ⟨_, results_tmp rfl _ _ _, by rw [HZ.out]; rfl, ?_⟩
    rw [hW5s, hd]
    exact hIW.grown (grownBy_putObj' W (d + 3) _) (by have := hIW.size; omega) (fun k e => by cases e; omega)

end Go.Proofs.YtlabmomehjfjdaaDoor
