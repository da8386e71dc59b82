/-
  Package head: a head's bytes (encoded). Conditions: the listed variables hold what 'HInv' says. Package head: Encode and Size over all inputs. Conditions: the listed variables hold what 'HInv' says.
-/
import Derived.Test.YtmoghgmbpkpcfaaGreatDoorMgI
import Derived.Test.YtmoghgmbpkpcfaaGreatDoorMgB
namespace Go.Proofs.YtmoghgmbpkpcfaaGreatDoor
open Go.RowKit Go.Shelf
attribute [local go_sem] Oper.semAt_some

theorem HInv.rooms {w : World} {A : Nat → Addr} {aN aW aS : Addr} (h : HInv w A aN aW aS) : RoomsAt w := by
  intro k v hk
  match k, hk with
  | 0, hk => injection hk with hk; subst hk; exact h.r0
  | 1, hk => injection hk with hk; subst hk; exact h.r1
  | 2, hk => injection hk with hk; subst hk; exact h.r2
  | 3, hk => injection hk with hk; subst hk; exact h.r3
  | 4, hk => injection hk with hk; subst hk; exact h.r4
  | 5, hk => injection hk with hk; subst hk; exact h.r5
  | 6, hk => injection hk with hk; subst hk; exact h.r6
  | 7, hk => injection hk with hk; subst hk; exact h.r7
  | 8, hk => injection hk with hk; subst hk; exact h.r8
  | 9, hk => injection hk with hk; subst hk; exact h.r9
  | 10, hk => injection hk with hk; subst hk; exact h.r10
  | 11, hk => injection hk with hk; subst hk; exact h.r11
  | 12, hk => injection hk with hk; subst hk; exact h.r12
  | 13, hk => injection hk with hk; subst hk; exact h.r13
  | 14, hk => injection hk with hk; subst hk; exact h.r14
theorem RoomsAt.alloc {w : World} (h : RoomsAt w) (o : Obj) : RoomsAt (w.alloc o) := fun k v hk => (World.cell?_alloc_lt _ _ _ (cell_lt (h k v hk))).trans (h k v hk)

/-- The first room that fits. -/
theorem first_fit {n x : Nat} (hn : n ≤ 281474976710655) (hx : x < 5) (hf : n < roomM x) (h : fitsL n x = []) : roomW x = wOf n ∧ ((x = 0 ∧ n < 24 ∧ moreOf n = n) ∨ (x ≠ 0 ∧ moreOf n = roomX x ∧ 1 ≤ roomW x ∧ roomW x ≤ 8)) := by
  have hno : ∀ i, i < x → ¬ n < roomM i := fun i hi hlt => by
    have : i ∈ fitsL n x := by rw [fitsL, List.mem_filter]; exact ⟨List.mem_range.2 hi, by simpa using hlt⟩
    rw [h] at this; cases this
  match x, hx with
  | 0, _ => have : n < 24 := hf; exact ⟨by simp [roomW, wOf, this], .inl ⟨rfl, this, by simp [moreOf, this]⟩⟩
  | 1, _ =>
    have a : n < 256 := hf
    have b : ¬ n < 24 := hno 0 (by omega)
    exact ⟨by simp [roomW, wOf, a, b], .inr ⟨by omega, by simp [roomX, moreOf, a, b], by decide, by decide⟩⟩
  | 2, _ =>
    have a : n < 65536 := hf
    have b : ¬ n < 256 := hno 1 (by omega)
    have c : ¬ n < 24 := hno 0 (by omega)
    exact ⟨by simp [roomW, wOf, a, b, c], .inr ⟨by omega, by simp [roomX, moreOf, a, b, c], by decide, by decide⟩⟩
  | 3, _ =>
    have a : n < 4294967296 := hf
    have b : ¬ n < 65536 := hno 2 (by omega)
    have c : ¬ n < 256 := hno 1 (by omega)
    have d : ¬ n < 24 := hno 0 (by omega)
    exact ⟨by simp [roomW, wOf, a, b, c, d], .inr ⟨by omega, by simp [roomX, moreOf, a, b, c, d], by decide, by decide⟩⟩
  | 4, _ =>
    have b : ¬ n < 4294967296 := hno 3 (by omega)
    have a : ¬ n < 65536 := hno 2 (by omega)
    have c : ¬ n < 256 := hno 1 (by omega)
    have d : ¬ n < 24 := hno 0 (by omega)
    exact ⟨by simp [roomW, wOf, a, b, c, d], .inr ⟨by omega, by simp [roomX, moreOf, a, b, c, d], by decide, by decide⟩⟩
theorem fitsL_five {n : Nat} (hn : n ≤ 281474976710655) : fitsL n 5 ≠ [] := fun h => by
  have : 4 ∈ fitsL n 5 := by rw [fitsL, List.mem_filter]; exact ⟨List.mem_range.2 (by omega), by simp [roomM]; omega⟩
  rw [h] at this; cases this
theorem or_first {m x : Nat} (hm : m ≤ 4) (hx : x ≤ 31) : bits .or .u8 ((m : Int) * 32) (x : Int) = ((32 * m + x : Nat) : Int) := by
  rw [show (m : Int) * 32 = ((32 * m : Nat) : Int) by omega, u8_or_nat _ _ (by omega) (by omega), nat_join5 _ _ (by omega) (by omega)]
/-- The text of one byte. -/
theorem convB (W : World) (g y : Nat) (hy : y < 256) (h : Blk W g 5 #[.int .u8 (y : Int)]) : (convert 40 9 (.slice (some ⟨g, 0, none⟩) 1 1)).run Tryz.prog W = .ok (.string ⟨#[UInt8.ofNat y]⟩) W := by
  refine run_convert_bytes_back (P := Tryz.prog) _ 40 9 5 ⟨g, 0, none⟩ 1 [UInt8.ofNat y] Tryz.underlying40 Tryz.underlying5 Tryz.underlying9 (fun j hj => ?_)
  simp at hj
  subst hj
  rw [addr_add]
  have : (UInt8.ofNat y).toNat = y := UInt8.toNat_ofNat_of_lt' (by show _ < 256; omega)
  simp [this, h.cell 0]

set_option maxRecDepth 100000 in
set_option maxHeartbeats 2000000 in
theorem encoded_ok (m n : Nat) (w : World) (A : Nat → Addr) (aN aW aS : Addr) (h : HInv w A aN aW aS) (hm : majB (m : Int) = true) (hm4 : m ≤ 4) (hn : n ≤ 281474976710655) :
    Calls Tryz.prog 33 #[.int .i64 (m : Int), .int .i64 (n : Int)] w (Ret (.agg #[.string ⟨(headL m n).toArray⟩, .nilIface]) w) := by
  have HM := Lib.hid hm
  have HN := Lib.hid (show okNum (n : Int) = true from okNum_iff.2 ⟨by omega, by omega⟩)
  clear hm
  refine callsIn_wide.1 (callsIn_of_wp_marks (n := 5) Tryz.func33 rfl trivial ?_ rfl)
  simp only [Tryz.ntmps33, List.size_toArray, List.length_cons, List.length_nil, Nat.reduceAdd, Nat.reduceSub, Array.replicate_succ, Array.replicate_zero, List.push_toArray, List.append_toArray, List.nil_append, List.cons_append]
  refine wpIn_wide.2 ?_
  go_wp2_with fail
  refine (isMajor_any (m : Int) _).mono ?_
  rintro e w1 ⟨rfl, hb1⟩
  rw [HM.out]
  have hb0 : Below w.heap.size w w1 := ext_trans (ext_alloc (ext_new w _) _) hb1
  have hB : Blk w1 (w.heap.size + 1) 77 #[.string ByteArray.empty, .nilIface] := (Blk.at_ (by simp)).below hb1
  have hC : Blk w1 w.heap.size 3 #[.int .i64 (n : Int)] := ((Blk.new_ w _ _).alloc _).below hb1
  have d0 := hC.cell 0
  simp only [List.getElem?_toArray, List.getElem?_cons_zero, List.getElem?_cons_succ] at d0
  have hsz := hB.lt
  have d1 : (w1.alloc (.cells #[.int .u8 ((m : Int) * 32)] 5)).cell? ⟨w.heap.size, 0, none⟩ = some (.int .i64 (n : Int)) := (World.cell?_alloc_lt _ _ _ hC.lt).trans d0
  go_wp2_with fail
  refine (Right_any (n : Int) _).mono ?_
  rintro e w2 ⟨rfl, rfl⟩
  rw [HN.out]
  go_wp2_with fail
  refine (fits_any (n : Int) _).mono ?_
  rintro e w2 ⟨rfl, rfl⟩
  go_wp2_with fail
  obtain ⟨d, hd⟩ : ∃ d, w.heap.size = d := ⟨_, rfl⟩
  obtain ⟨e, he⟩ : ∃ e, w1.heap.size = e := ⟨_, rfl⟩
  rw [hd] at hb0 hB hC hsz ⊢
  rw [he] at hsz ⊢
  clear d0 d1 hb1
  have q1 : Blk (w1.alloc (.cells #[.int .u8 ((m : Int) * 32)] 5)) e 5 #[.int .u8 ((m : Int) * 32)] := Blk.at_ he.symm
  generalize hW0 : (w1.alloc (.cells #[.int .u8 ((m : Int) * 32)] 5)).alloc (.cells #[.int .i64 (n : Int)] 3) = W0
  have hW0s : W0.heap.size = e + 2 := by rw [← hW0]; simp [he]
  have p1 : Blk W0 d 3 #[.int .i64 (n : Int)] := by rw [← hW0]; exact (hC.alloc _).alloc _
  have p2 : Blk W0 (d + 1) 77 #[.string ByteArray.empty, .nilIface] := by rw [← hW0]; exact (hB.alloc _).alloc _
  have p3 : Blk W0 e 5 #[.int .u8 ((m : Int) * 32)] := by rw [← hW0]; exact q1.alloc _
  have p4 : Boxed W0 (e + 1) 3 (.int .i64 (n : Int)) := by rw [← hW0]; exact boxed_at (by simp [he])
  have p7 : Below d w W0 := by rw [← hW0]; exact (hb0.alloc (by omega) _).alloc (by simp; omega) _
  clear hW0 q1 hB hC hb0
  have hKB : ∀ {W W' : World} {g : Nat} {t : TypeId} {cs : Array Value} {row : Option Nat}, Blk W g t cs → W.grownBy W' row → (∀ r, row = some r → r ≠ g) → Blk W' g t cs := fun {W W' g t cs row} hb hgr hr => by
    have := hb.lt
    exact hb.kept (hgr.block g this (fun e => hr g e.symm rfl))
  refine wpIn_wide.1 (wpIn_rangeN (n := 5) (gf := 69) (lb := #[.pointer (some ⟨e + 1, 0, none⟩)]) rfl (by omega) rfl trivial (enters_of Tryz.func69 (by kernel_rfl) rfl)
    (fits_seq n (by omega) (e + 1) _) (fun _ => rfl) ?hSt (fun h k => k.trans h) ?hKb ?hMb
    (fun pre W => pre = [] ∧ Below d w W ∧ Blk W d 3 #[.int .i64 (n : Int)] ∧ Blk W (d + 1) 77 #[.string ByteArray.empty, .nilIface] ∧ Blk W e 5 #[.int .u8 ((m : Int) * 32)] ∧ e + 1 < W.heap.size)
    (fun c _ W => c = .ret ∧ Below d w W ∧ Blk W (d + 1) 77 #[.string ⟨(headL m n).toArray⟩, .nilIface]) ?hI ?hIx ?hIM ?hIxM ⟨rfl, p7, p1, p2, p3, by omega⟩ ?hround ?hdone ?hstop)
  case hSt => intro o o'; exact ⟨(p4.alloc _).alloc _, ((h.below (hd ▸ p7)).rooms.alloc _).alloc _⟩
  case hKb =>
    intro W l o o' hl _ _
    exact World.putObj_heap_other (by omega)
  case hMb =>
    rintro A B ⟨o, rfl⟩ l o' hl ho _
    exact (Below.heap_alloc _ _ _ (Array.getElem?_eq_some_iff.1 ho).1).trans ho
  case hI =>
    rintro pre A B row ⟨a1, a2, a3, a4, a5, a6⟩ hgr hr
    have hd1 := p2.lt
    have hne : ∀ g, g < W0.heap.size → ∀ r, row = some r → r ≠ g := fun g hg r er => by have := (hr r er).1; omega
    exact ⟨a1, a2.grown hgr (by have := a2.size; omega) (fun r e => by have := (hr r e).1; omega), hKB a3 hgr (hne _ (by omega)), hKB a4 hgr (hne _ hd1), hKB a5 hgr (hne _ (by omega)), by have := hgr.size; omega⟩
  case hIx =>
    rintro c pre A B row ⟨a1, a2, a4⟩ hgr hr
    have hd1 := p2.lt
    have hne : ∀ g, g < W0.heap.size → ∀ r, row = some r → r ≠ g := fun g hg r er => by have := (hr r er).1; omega
    exact ⟨a1, a2.grown hgr (by have := a2.size; omega) (fun r e => by have := (hr r e).1; omega), hKB a4 hgr (hne _ hd1)⟩
  case hIM =>
    rintro pre A B ⟨a1, a2, a3, a4, a5, a6⟩ ⟨o, rfl⟩
    exact ⟨a1, a2.alloc (Nat.le_trans (by omega) (Nat.le_of_lt a6)) _, a3.alloc _, a4.alloc _, a5.alloc _, by simp; omega⟩
  case hIxM =>
    rintro c pre A B ⟨a1, a2, a4⟩ ⟨o, rfl⟩
    exact ⟨a1, a2.alloc (Nat.le_trans (by omega) (Nat.le_of_lt a4.lt)) _, a4.alloc _⟩
  case hround =>
    rintro l pre x W ⟨rfl, a2, a3, a4, a5, a6⟩ ⟨hx5, hxn, hxp⟩ hlW
    have hff := first_fit hn hx5 hxn hxp.symm
    have FF := Lib.hid hff
    clear hff hxn hxp
    unfold roomV
    gi_wp2
    have hd1 := p2.lt
    refine ⟨KeepsFrom.of_grownBy (World.grownBy_alloc W _ none) (fun j hj => by cases hj), Below.heap_alloc _ _ _ (by omega), ⟨trivial, a2.alloc (Nat.le_trans (by omega) (Nat.le_of_lt a6)) _, a3.alloc _, a4.alloc _, a5.alloc _, by simp; omega⟩, ?_⟩
    rintro Wb ⟨-, b2, b3, b4, b5, b6⟩ hWb
    have bx : Blk Wb W.heap.size 98 #[.int .i64 (roomW x : Int), .int .i64 (roomM x : Int), .int .i64 (roomX x : Int)] := (hWb _ (by omega)).trans (World.alloc_heap_new W _)
    clear hWb
    have x0 := bx.cell 0
    have x2 := bx.cell 2
    have n0 := b3.cell 0
    have f0 := b5.cell 0
    have z0 := b4.frozen 0
    have z1 := b4.frozen 1
    have y0 := b4.cell 0
    have y1 := b4.cell 1
    simp only [List.getElem?_toArray, List.getElem?_cons_zero, List.getElem?_cons_succ] at x0 x2 n0 f0 y0 y1
    have e1 := bx.lt
    have e2 := b3.lt
    have e3 := b5.lt
    have e4 := b4.lt
    rcases FF.out with ⟨k1, ⟨rfl, k2, k3⟩ | ⟨k2, k3, k4, k5⟩⟩
    · rw [show ((roomW 0 : Nat) : Int) = 0 from rfl] at x0
      have hor := or_first (m := m) (x := n) hm4 (by omega)
      have hL : headL m n = [UInt8.ofNat (32 * m + n)] := by rw [headL, k3, ← k1]; rfl
      have hcv := convB (Wb.alloc (.cells #[.int .u8 ((32 * m + n : Nat) : Int)] 5)) Wb.heap.size (32 * m + n) (by omega) (Blk.new_ _ _ _)
      rw [hL]
      clear hL k1 k3 FF
      generalize 32 * m + n = y at hor hcv ⊢
      gi_wp2
      exact ⟨(((KeepsOthers.setCell _ _ _).from _).trans ((KeepsOthers.setCell _ _ _).from _)).trans (KeepsFrom.of_grownBy (World.grownBy_alloc _ _ none) (fun j hj => by cases hj)),
        rfl, ((b2.setCell (by simp) _).setCell (by simp) _).alloc (by simp; omega) _, ((b4.set_ 0 _).set_ 1 _).alloc _⟩
    · rw [k1] at x0 k4 k5
      have hor := or_first (m := m) (x := roomX x) hm4 (by rw [← k3]; have := moreOf_le n; omega)
      rw [← k3] at hor x2
      have hL : (⟨(headL m n).toArray⟩ : ByteArray) = ⟨#[UInt8.ofNat (32 * m + moreOf n)]⟩ ++ ⟨(digits (wOf n) n).toArray⟩ := by
        apply ByteArray.ext; rw [ByteArray.data_append]; simp [headL]
      have hmo := moreOf_le n
      have hwf := wOf_fits hn (by omega)
      have hby : bytesV (n : Int) (wOf n : Int) = (⟨(digits (wOf n) n).toArray⟩, 0) := by
        have := bytesV_ok (n := (n : Int)) (wd := (wOf n : Int)) (okWidth_iff.2 ⟨by omega, by omega⟩) (by simp only [fits, HN.out, Bool.true_and, Int.toNat_natCast, decide_eq_true_eq]; exact hwf)
        rw [this]; simp
      clear k1 k3 FF hwf
      rw [hL]
      clear hL
      have hdl : (⟨(digits (wOf n) n).toArray⟩ : ByteArray).size = wOf n := by show (digits (wOf n) n).toArray.size = _; simp [digits_length]
      generalize (⟨(digits (wOf n) n).toArray⟩ : ByteArray) = ds at hby hdl
      generalize wOf n = q at *
      generalize moreOf n = mo at *
      have hne : ¬ ((q : Int) = 0) := by omega
      gi_wp2
      refine ⟨trivial, (CallsIn.inRound l (callsIn_wide.2 (Bytes_any (n : Int) (q : Int) Wb aN aW aS (h.below (hd ▸ b2)).nums))).mono ?_⟩
      rintro e' W2 ⟨rfl, hb2⟩
      rw [hby]
      have b2 := b2.trans (hb2.mono (by omega))
      have hsz2 := hb2.size
      have x2 : W2.cell? ⟨W.heap.size, 2, none⟩ = some (.int .i64 (mo : Int)) := (World.cell?_of_block (hb2.block _ e1)).trans x2
      have f0 : W2.cell? ⟨e, 0, none⟩ = some (.int .u8 ((m : Int) * 32)) := (World.cell?_of_block (hb2.block _ e3)).trans f0
      have b4 := b4.below hb2
      have z0 := b4.frozen 0
      have z1 := b4.frozen 1
      have y0 := b4.cell 0
      have y1 := b4.cell 1
      simp only [List.getElem?_toArray, List.getElem?_cons_zero, List.getElem?_cons_succ] at y0 y1
      have e4 := b4.lt
      have hcv := convB (W2.alloc (.cells #[.int .u8 ((32 * m + mo : Nat) : Int)] 5)) W2.heap.size (32 * m + mo) (by omega) (Blk.new_ _ _ _)
      generalize hy : 32 * m + mo = y at hor hcv ⊢
      have HY := Lib.hid hy
      clear hy
      have hcat : ¬ (9223372036854775807 < 1 + ds.size) := by omega
      gi_wp2
      rw [HY.out]
      have hk2 : KeepsFrom W0.heap.size Wb W2 := ⟨hb2.size, fun k o _ hk _ => (hb2.block k (Array.getElem?_eq_some_iff.1 hk).1).trans hk⟩
      exact ⟨((hk2.trans ((KeepsOthers.setCell _ _ _).from _)).trans ((KeepsOthers.setCell _ _ _).from _)).trans (KeepsFrom.of_grownBy (World.grownBy_alloc _ _ none) (fun j hj => by cases hj)),
        rfl, ((b2.setCell (by simp) _).setCell (by simp) _).alloc (by simp; omega) _, ((b4.set_ 0 _).set_ 1 _).alloc _⟩
  case hdone =>
    rintro xs W hxs ⟨rfl, _⟩ hD
    exact absurd hxs.symm (fitsL_five hn)
  case hstop =>
    rintro c pre W _ ⟨rfl, a2, a4⟩ hD
    have a5 : Blk (W.putObj (e + 2) (.deferred none)) (d + 1) 77 #[.string ⟨(headL m n).toArray⟩, .nilIface] := a4.kept (World.putObj_heap_other (by have := p2.lt; omega))
    have c0 := a5.cell 0
    have c1 := a5.cell 1
    simp only [List.getElem?_toArray, List.getElem?_cons_zero, List.getElem?_cons_succ] at c0 c1
    generalize (⟨(headL m n).toArray⟩ : ByteArray) = sv at c0 ⊢
    rw [hW0s] at hD ⊢
    gi_wp2
    refine ⟨by simp, .inl ⟨_, _, rfl, run_takeDeferred hD, ?_⟩⟩
    refine ⟨_, (by simp [results, Tryz.results33, go_sem, c0, c1]), rfl, ?_⟩
    rw [hd]
    exact a2.grown (grownBy_putObj' W (e + 2) _) (by have := a2.size; omega) (fun k e => by cases e; omega)

end Go.Proofs.YtmoghgmbpkpcfaaGreatDoor

namespace Go.Proofs.YtmoghgmbpkpcfaaGreatDoor
open Go.RowKit

/-- What Encode tells. -/
def encV (m n : Int) : ByteArray × Int := if majB m then (if okNum n then (⟨(headL m.toNat n.toNat).toArray⟩, 0) else (ByteArray.empty, 10)) else (ByteArray.empty, 2)
/-- What Size tells. -/
def sizeV (n : Int) : Int × Int := if okNum n then ((1 + wOf n.toNat : Nat), 0) else (0, 10)
theorem encV_major {m n : Int} (h : majB m = false) : encV m n = (ByteArray.empty, 2) := by rw [encV, h]; rfl
theorem encV_num {m n : Int} (h : majB m = true) (k : okNum n = false) : encV m n = (ByteArray.empty, 10) := by rw [encV, h, k]; rfl
theorem encV_ok {m n : Int} (h : majB m = true) (k : okNum n = true) : encV m n = (⟨(headL m.toNat n.toNat).toArray⟩, 0) := by rw [encV, if_pos h, if_pos k]
theorem majB_iff {m : Int} : majB m = true ↔ m = 0 ∨ m = 2 ∨ m = 3 ∨ m = 4 := by simp [majB, or_assoc]

theorem Encode_any (m n : Int) (w : World) (A : Nat → Addr) (aN aW aS : Addr) (h : HInv w A aN aW aS) :
    Calls Tryz.prog 19 #[.int .i64 m, .int .i64 n] w (Ret (.tuple #[.string (encV m n).1, .int .i64 (encV m n).2]) w) := by
  rcases bool_cases (majB m) with hm | hm
  · rw [encV_major hm]
    go_enter Tryz.func19, Tryz.ntmps19
    go_wp2_with fail
    refine (encoded_major m n _ A aN aW aS h hm).mono ?_
    rintro e w1 ⟨rfl, hb1⟩
    go_wp2_with fail
    refine (heitherS_0 _ _ A aN aW aS (h.below hb1)).mono ?_
    rintro e w2 ⟨rfl, hb2⟩
    go_wp2_with fail
    go_ret2
    exact ⟨rfl, ext_trans hb1 hb2⟩
  rcases bool_cases (okNum n) with hn | hn
  · rw [encV_num hm hn]
    go_enter Tryz.func19, Tryz.ntmps19
    go_wp2_with fail
    refine (encoded_num m n _ A aN aW aS h hm hn).mono ?_
    rintro e w1 ⟨rfl, hb1⟩
    go_wp2_with fail
    refine (heitherS_1 _ _ A aN aW aS (h.below hb1)).mono ?_
    rintro e w2 ⟨rfl, hb2⟩
    go_wp2_with fail
    go_ret2
    exact ⟨rfl, ext_trans hb1 hb2⟩
  · rw [encV_ok hm hn]
    obtain ⟨n0, n1⟩ := okNum_iff.1 hn
    have hm4 := majB_iff.1 hm
    obtain ⟨p, rfl⟩ := Int.eq_ofNat_of_zero_le n0
    obtain ⟨q, rfl⟩ := Int.eq_ofNat_of_zero_le (show 0 ≤ m by omega)
    rw [Int.toNat_natCast, Int.toNat_natCast]
    have hc := fun w' h' => encoded_ok q p w' A aN aW aS h' hm (by omega) (by omega)
    generalize (⟨(headL q p).toArray⟩ : ByteArray) = sv at hc ⊢
    go_enter Tryz.func19, Tryz.ntmps19
    go_wp2_with fail
    refine (hc _ h).mono ?_
    rintro e w1 ⟨rfl, hb1⟩
    go_wp2_with fail
    refine (heitherS_nil _ _ A aN aW aS (h.below hb1)).mono ?_
    rintro e w2 ⟨rfl, hb2⟩
    go_wp2_with fail
    go_ret2
    exact ⟨rfl, ext_trans hb1 hb2⟩

end Go.Proofs.YtmoghgmbpkpcfaaGreatDoor
