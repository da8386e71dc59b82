/-
  Package nums: the walks of its small functions (Right, width, within, first, either), each as a contract, and more of the kind. Conditions: as the theorems' own hypotheses say.
-/
import Derived.Test.YtmebjdbkngehiaaGreatDoorQgA
import Derived.Test.YtmebjdbkngehiaaGreatDoorQgC
import Derived.Test.YtmebjdbkngehiaaGreatDoorQgB
namespace Go.Proofs.YtmebjdbkngehiaaGreatDoor
open Go.RowKit
variable {n : Int}
structure NInv (w : World) (aN aW aS : Addr) : Prop where
 cN : w.cell? ⟨3, 0, none⟩ = some (ErrV aN)
 cW : w.cell? ⟨2, 0, none⟩ = some (ErrV aW)
 cS : w.cell? ⟨1, 0, none⟩ = some (ErrV aS)
 pN : Plain w aN
 pW : Plain w aW
 pS : Plain w aS
 nW : aN ≠ aW
 nS : aN ≠ aS
 wS : aW ≠ aS
theorem NInv.below {w w' : World} {aN aW aS : Addr} (h : NInv w aN aW aS) (hb : Below w.heap.size w w') : NInv w' aN aW aS :=
 ⟨cell_later hb h.cN, cell_later hb h.cW, cell_later hb h.cS, h.pN.below hb, h.pW.below hb, h.pS.below hb, h.nW, h.nS, h.wS⟩
def okNum (n : Int) : Bool := decide (0 ≤ n) && decide (n ≤ 281474976710655)
def okWidth (n : Int) : Bool := decide (1 ≤ n) && decide (n ≤ 8)
def okWithin (len at_ n : Int) : Bool := decide (0 ≤ at_) && decide (at_ ≤ len) && decide (0 ≤ n) && decide (n ≤ len - at_)
theorem Right_any (n : Int) (w : World) : Calls Tryz.prog 139 #[.int .i64 n] w (Pure (.bool (okNum n)) w) := by
 go_enter Tryz.func139, Tryz.ntmps139
 go_wp2
 ·go_ret
  exact ⟨by simp [okNum, *], rfl⟩
 ·go_ret
  exact ⟨by simp [okNum]; omega, rfl⟩
theorem width_any (n : Int) (w : World) (a : Addr) (hg : w.cell? ⟨2, 0, none⟩ = some (ErrV a)) :
  Calls Tryz.prog 157 #[.int .i64 n] w (Ret (.agg #[.bool (okWidth n), ErrV a]) w) := by
 have hz := cell_lt hg
 unfold ErrV at hg
 go_enter Tryz.func157, Tryz.ntmps157
 go_wp2
 ·exact bodyPost_ret (v := .agg #[.bool (decide (n ≤ 8)), ErrV a]) (by simp [ErrV, results, Tryz.results157, go_sem, *]) rfl ⟨by simp [okWidth, *], (Below.refl _ _).alloc (Nat.le_refl _) _⟩
 ·exact bodyPost_ret (v := .agg #[.bool false, ErrV a]) (by simp [ErrV, results, Tryz.results157, go_sem, *]) rfl ⟨by simp [okWidth]; omega, (Below.refl _ _).alloc (Nat.le_refl _) _⟩
theorem within_any (s : ByteArray) (at_ n : Int) (w : World) (a : Addr) (hg : w.cell? ⟨1, 0, none⟩ = some (ErrV a)) (hs : s.size ≤ 9223372036854775807) (hn1 : -9223372036854775808 ≤ n) (hn2 : n ≤ 9223372036854775807) :
  Calls Tryz.prog 117 #[.string s, .int .i64 at_, .int .i64 n] w (Ret (.agg #[.bool (okWithin s.size at_ n), ErrV a]) w) := by
 have hz := cell_lt hg
 unfold ErrV at hg
 go_enter Tryz.func117, Tryz.ntmps117
 go_wp2
 all_goals
  refine bodyPost_ret (v := .agg #[.bool (okWithin s.size at_ n), ErrV a]) ?_ rfl ⟨rfl, (Below.refl _ _).alloc (Nat.le_refl _) _⟩
  simp [ErrV, okWithin, results, Tryz.results117, go_sem, *]
  try omega
def PairsAt (w : World) (b : Nat) (xs : List (Bool × Addr)) : Prop :=
 ∀ i, (h : i < xs.length) → w.cell? ⟨b, i * 2, none⟩ = some (.bool xs[i].1) ∧ w.cell? ⟨b, i * 2 + 1, none⟩ = some (ErrV xs[i].2)
theorem first_any (xs : List (Bool × Addr)) (b : Nat) (w : World) (hx : PairsAt w b xs) (hl : xs.length ≤ 1000) (hb : b < w.heap.size) :
  Calls Tryz.prog 116 #[.slice (some ⟨b, 0, none⟩) xs.length xs.length] w (Ret (errOf (firstErr xs)) w) := by
 go_enter Tryz.func116, Tryz.ntmps116
 go_wp2
 go_loopw [2, 7] (fun _ i wr => ∃ k : Nat, k ≤ xs.length ∧ i = .int .i64 k ∧ (∀ j, (hj : j < k) → (h : j < xs.length) → xs[j].1 = true) ∧ Below w.heap.size w wr) (fun _ i _ => xs.length - (intOf i).toNat)
 case atStart => exact ⟨0, Nat.zero_le _, rfl, fun j hj => by omega, Below.refl _ _⟩
 case round =>
  obtain ⟨k, hk, rfl, hall, hbw⟩ := hrel
  have HA := Lib.hid hall
  clear hall
  by_cases hlt : k < xs.length
  ·have hc := hx k hlt
   obtain ⟨c0, c1⟩ := hc
   have d0 : wr.cell? ⟨b, k * 2, none⟩ = some (.bool xs[k].1) := (hbw.cell (p := ⟨b, k * 2, none⟩) hb).trans c0
   have d1 : wr.cell? ⟨b, k * 2 + 1, none⟩ = some (ErrV xs[k].2) := (hbw.cell (p := ⟨b, k * 2 + 1, none⟩) hb).trans c1
   have hs := hbw.size
   clear c0 c1
   unfold ErrV at d1
   generalize hbk : xs[k].1 = bk at d0
   have HBK := Lib.hid hbk
   clear hbk
   generalize hak : xs[k].2 = ak at d1
   have HAK := Lib.hid hak
   clear hak
   cases bk
   ·go_wp2
    go_ret
    refine ⟨?_, hbw.alloc hs _⟩
    rw [firstErr_at xs k hlt HA.out HBK.out, HAK.out]
    rfl
   ·go_wp2
    go_roundw
    case rel =>
     refine ⟨k + 1, by omega, by go_num, fun j hj h => ?_, hbw.alloc hs _⟩
     by_cases hjk : j = k
     ·subst hjk; exact HBK.out
     ·exact HA.out j (by omega) h
    case measure => simp [intOf]; omega
  ·go_wp2
   go_ret
   refine ⟨?_, hbw⟩
   rw [firstErr_all xs (fun i hi => HA.out i (by omega) hi)]
   rfl
theorem eithers_nil (v : ByteArray) (w : World) (aN aW aS : Addr) (h : NInv w aN aW aS) :
  Calls Tryz.prog 118 #[.string v, .nilIface] w (Pure (.tuple #[.string v, .int .i64 0]) w) := by
 have hN := h.cN
 have hW := h.cW
 have hS := h.cS
 go_enter Tryz.func118, Tryz.ntmps118
 go_wp2_with fail
 refine (is_nil aW _).mono ?_
 rintro e w' ⟨rfl, rfl⟩
 go_wp2_with fail
 refine (is_nil aN _).mono ?_
 rintro e w' ⟨rfl, rfl⟩
 go_wp2_with fail
 refine (is_nil aS _).mono ?_
 rintro e w' ⟨rfl, rfl⟩
 go_wp2_with fail
 go_ret2
 exact ⟨rfl, rfl⟩
theorem eithers_W (v : ByteArray) (w : World) (aN aW aS : Addr) (h : NInv w aN aW aS) :
  Calls Tryz.prog 118 #[.string v, ErrV aW] w (Pure (.tuple #[.string ByteArray.empty, .int .i64 2]) w) := by
 have hN := h.cN
 have hW := h.cW
 have hS := h.cS
 go_enter Tryz.func118, Tryz.ntmps118
 go_wp2_with fail
 refine (is_same aW _).mono ?_
 rintro e w' ⟨rfl, rfl⟩
 go_wp2_with fail
 go_ret2
 exact ⟨rfl, rfl⟩
theorem eithers_N (v : ByteArray) (w : World) (aN aW aS : Addr) (h : NInv w aN aW aS) :
  Calls Tryz.prog 118 #[.string v, ErrV aN] w (Pure (.tuple #[.string ByteArray.empty, .int .i64 10]) w) := by
 have hN := h.cN
 have hW := h.cW
 have hS := h.cS
 go_enter Tryz.func118, Tryz.ntmps118
 go_wp2_with fail
 refine (is_other aN aW _ h.nW h.pN h.pW).mono ?_
 rintro e w' ⟨rfl, rfl⟩
 go_wp2_with fail
 refine (is_same aN _).mono ?_
 rintro e w' ⟨rfl, rfl⟩
 go_wp2_with fail
 go_ret2
 exact ⟨rfl, rfl⟩
theorem eithers_S (v : ByteArray) (w : World) (aN aW aS : Addr) (h : NInv w aN aW aS) :
  Calls Tryz.prog 118 #[.string v, ErrV aS] w (Pure (.tuple #[.string ByteArray.empty, .int .i64 11]) w) := by
 have hN := h.cN
 have hW := h.cW
 have hS := h.cS
 go_enter Tryz.func118, Tryz.ntmps118
 go_wp2_with fail
 refine (is_other aS aW _ (Ne.symm h.wS) h.pS h.pW).mono ?_
 rintro e w' ⟨rfl, rfl⟩
 go_wp2_with fail
 refine (is_other aS aN _ (Ne.symm h.nS) h.pS h.pN).mono ?_
 rintro e w' ⟨rfl, rfl⟩
 go_wp2_with fail
 refine (is_same aS _).mono ?_
 rintro e w' ⟨rfl, rfl⟩
 go_wp2_with fail
 go_ret2
 exact ⟨rfl, rfl⟩
theorem eitheri_nil (v : Int) (w : World) (aN aW aS : Addr) (h : NInv w aN aW aS) :
  Calls Tryz.prog 185 #[.int .i64 v, .nilIface] w (Pure (.tuple #[.int .i64 v, .int .i64 0]) w) := by
 have hN := h.cN
 have hW := h.cW
 have hS := h.cS
 go_enter Tryz.func185, Tryz.ntmps185
 go_wp2_with fail
 refine (is_nil aW _).mono ?_
 rintro e w' ⟨rfl, rfl⟩
 go_wp2_with fail
 refine (is_nil aN _).mono ?_
 rintro e w' ⟨rfl, rfl⟩
 go_wp2_with fail
 refine (is_nil aS _).mono ?_
 rintro e w' ⟨rfl, rfl⟩
 go_wp2_with fail
 go_ret2
 exact ⟨rfl, rfl⟩
theorem eitheri_W (v : Int) (w : World) (aN aW aS : Addr) (h : NInv w aN aW aS) :
  Calls Tryz.prog 185 #[.int .i64 v, ErrV aW] w (Pure (.tuple #[.int .i64 0, .int .i64 2]) w) := by
 have hN := h.cN
 have hW := h.cW
 have hS := h.cS
 go_enter Tryz.func185, Tryz.ntmps185
 go_wp2_with fail
 refine (is_same aW _).mono ?_
 rintro e w' ⟨rfl, rfl⟩
 go_wp2_with fail
 go_ret2
 exact ⟨rfl, rfl⟩
theorem eitheri_N (v : Int) (w : World) (aN aW aS : Addr) (h : NInv w aN aW aS) :
  Calls Tryz.prog 185 #[.int .i64 v, ErrV aN] w (Pure (.tuple #[.int .i64 0, .int .i64 10]) w) := by
 have hN := h.cN
 have hW := h.cW
 have hS := h.cS
 go_enter Tryz.func185, Tryz.ntmps185
 go_wp2_with fail
 refine (is_other aN aW _ h.nW h.pN h.pW).mono ?_
 rintro e w' ⟨rfl, rfl⟩
 go_wp2_with fail
 refine (is_same aN _).mono ?_
 rintro e w' ⟨rfl, rfl⟩
 go_wp2_with fail
 go_ret2
 exact ⟨rfl, rfl⟩
theorem eitheri_S (v : Int) (w : World) (aN aW aS : Addr) (h : NInv w aN aW aS) :
  Calls Tryz.prog 185 #[.int .i64 v, ErrV aS] w (Pure (.tuple #[.int .i64 0, .int .i64 11]) w) := by
 have hN := h.cN
 have hW := h.cW
 have hS := h.cS
 go_enter Tryz.func185, Tryz.ntmps185
 go_wp2_with fail
 refine (is_other aS aW _ (Ne.symm h.wS) h.pS h.pW).mono ?_
 rintro e w' ⟨rfl, rfl⟩
 go_wp2_with fail
 refine (is_other aS aN _ (Ne.symm h.nS) h.pS h.pN).mono ?_
 rintro e w' ⟨rfl, rfl⟩
 go_wp2_with fail
 refine (is_same aS _).mono ?_
 rintro e w' ⟨rfl, rfl⟩
 go_wp2_with fail
 go_ret2
 exact ⟨rfl, rfl⟩
theorem first1_new (b : Bool) (a : Addr) (w : World) :
  Calls Tryz.prog 116 #[.slice (some ⟨w.heap.size, 0, none⟩) 1 1] (w.alloc (.cells #[.bool b, ErrV a] 181)) (Ret (errOf (firstErr [(b, a)])) (w.alloc (.cells #[.bool b, ErrV a] 181))) := by
 refine first_any [(b, a)] w.heap.size _ ?_ (by simp) (by simp)
 intro i hi
 simp at hi
 subst hi
 simp
theorem first2_new (b b' : Bool) (a a' : Addr) (w : World) :
  Calls Tryz.prog 116 #[.slice (some ⟨w.heap.size, 0, none⟩) 2 2] (w.alloc (.cells #[.bool b, ErrV a, .bool b', ErrV a'] 181)) (Ret (errOf (firstErr [(b, a), (b', a')])) (w.alloc (.cells #[.bool b, ErrV a, .bool b', ErrV a'] 181))) := by
 refine first_any [(b, a), (b', a')] w.heap.size _ ?_ (by simp) (by simp)
 intro i hi
 simp at hi
 rcases i with _ | _ | i
 ·simp
 ·simp
 ·omega
theorem okWithin_iff {len a : Int} : okWithin len a n = true ↔ 0 ≤ a ∧ a ≤ len ∧ 0 ≤ n ∧ n ≤ len - a := by simp [okWithin]; omega
theorem Cut_no (s : ByteArray) (at_ n : Int) (w : World) (aN aW aS : Addr) (hI : NInv w aN aW aS) (hs : s.size ≤ 9223372036854775807) (hn1 : -9223372036854775808 ≤ n) (hn2 : n ≤ 9223372036854775807) (hk : okWithin s.size at_ n = false) :
  Calls Tryz.prog 75 #[.string s, .int .i64 at_, .int .i64 n] w (Ret (.tuple #[.string ByteArray.empty, .int .i64 11]) w) := by
 have HK := Lib.hid hk
 clear hk
 go_enter Tryz.func75, Tryz.ntmps75
 go_wp2_with fail
 refine (within_any s at_ n _ aS hI.cS hs hn1 hn2).mono ?_
 rintro e w1 ⟨rfl, hb1⟩
 rw [HK.out]
 go_wp2_with fail
 refine (first1_new _ _ _).mono ?_
 rintro e w2 ⟨rfl, hb2⟩
 simp only [firstErr, errOf, ErrV, Bool.false_eq_true, if_false]
 go_wp2_with fail
 have hb := ext_trans (ext_alloc hb1 _) hb2
 refine (eithers_S ByteArray.empty _ aN aW aS (hI.below hb)).mono ?_
 rintro e w3 ⟨rfl, rfl⟩
 go_wp2_with fail
 go_ret2
 exact ⟨rfl, hb⟩
theorem Cut_ok (s : ByteArray) (at_ n : Int) (w : World) (aN aW aS : Addr) (hI : NInv w aN aW aS) (hs : s.size ≤ 9223372036854775807) (hk : okWithin s.size at_ n = true) :
  Calls Tryz.prog 75 #[.string s, .int .i64 at_, .int .i64 n] w (Ret (.tuple #[.string (s.extract at_.toNat (at_ + n).toNat), .int .i64 0]) w) := by
 obtain ⟨k1, k2, k3, k4⟩ := okWithin_iff.1 hk
 have HK := Lib.hid hk
 clear hk
 go_enter Tryz.func75, Tryz.ntmps75
 go_wp2_with fail
 refine (within_any s at_ n _ aS hI.cS hs (by omega) (by omega)).mono ?_
 rintro e w1 ⟨rfl, hb1⟩
 rw [HK.out]
 go_wp2_with fail
 refine (first1_new _ _ _).mono ?_
 rintro e w2 ⟨rfl, hb2⟩
 simp only [firstErr, errOf, if_true]
 go_wp2_with fail
 have hb := ext_trans (ext_alloc hb1 _) hb2
 refine (eithers_nil _ _ aN aW aS (hI.below hb)).mono ?_
 rintro e w3 ⟨rfl, rfl⟩
 go_wp2_with fail
 go_ret2
 exact ⟨rfl, hb⟩
theorem Rest_no (s : ByteArray) (at_ : Int) (w : World) (aN aW aS : Addr) (hI : NInv w aN aW aS) (hs : s.size ≤ 9223372036854775807) (hk : okWithin s.size at_ 0 = false) :
  Calls Tryz.prog 174 #[.string s, .int .i64 at_] w (Ret (.tuple #[.string ByteArray.empty, .int .i64 11]) w) := by
 have HK := Lib.hid hk
 clear hk
 go_enter Tryz.func174, Tryz.ntmps174
 go_wp2_with fail
 refine (within_any s at_ 0 _ aS hI.cS hs (by omega) (by omega)).mono ?_
 rintro e w1 ⟨rfl, hb1⟩
 rw [HK.out]
 go_wp2_with fail
 refine (first1_new _ _ _).mono ?_
 rintro e w2 ⟨rfl, hb2⟩
 simp only [firstErr, errOf, ErrV, Bool.false_eq_true, if_false]
 go_wp2_with fail
 have hb := ext_trans (ext_alloc hb1 _) hb2
 refine (eithers_S ByteArray.empty _ aN aW aS (hI.below hb)).mono ?_
 rintro e w3 ⟨rfl, rfl⟩
 go_wp2_with fail
 go_ret2
 exact ⟨rfl, hb⟩
theorem Rest_ok (s : ByteArray) (at_ : Int) (w : World) (aN aW aS : Addr) (hI : NInv w aN aW aS) (hs : s.size ≤ 9223372036854775807) (hk : okWithin s.size at_ 0 = true) :
  Calls Tryz.prog 174 #[.string s, .int .i64 at_] w (Ret (.tuple #[.string (s.extract at_.toNat s.size), .int .i64 0]) w) := by
 obtain ⟨k1, k2, k3, k4⟩ := okWithin_iff.1 hk
 have HK := Lib.hid hk
 clear hk
 go_enter Tryz.func174, Tryz.ntmps174
 go_wp2_with fail
 refine (within_any s at_ 0 _ aS hI.cS hs (by omega) (by omega)).mono ?_
 rintro e w1 ⟨rfl, hb1⟩
 rw [HK.out]
 go_wp2_with fail
 refine (first1_new _ _ _).mono ?_
 rintro e w2 ⟨rfl, hb2⟩
 simp only [firstErr, errOf, if_true]
 go_wp2_with fail
 have hb := ext_trans (ext_alloc hb1 _) hb2
 refine (eithers_nil _ _ aN aW aS (hI.below hb)).mono ?_
 rintro e w3 ⟨rfl, rfl⟩
 go_wp2_with fail
 go_ret2
 exact ⟨rfl, hb⟩
theorem okWidth_iff : okWidth n = true ↔ 1 ≤ n ∧ n ≤ 8 := by simp [okWidth]
theorem Take_width (s : ByteArray) (at_ n : Int) (w : World) (aN aW aS : Addr) (hI : NInv w aN aW aS) (hs : s.size ≤ 9223372036854775807) (hn1 : -9223372036854775808 ≤ n) (hn2 : n ≤ 9223372036854775807) (hk : okWidth n = false) :
  Calls Tryz.prog 173 #[.string s, .int .i64 at_, .int .i64 n] w (Ret (.tuple #[.int .i64 0, .int .i64 2]) w) := by
 have HK := Lib.hid hk
 clear hk
 go_enter Tryz.func173, Tryz.ntmps173
 go_wp2_with fail
 refine (width_any n _ aW hI.cW).mono ?_
 rintro e w1 ⟨rfl, hb1⟩
 rw [HK.out]
 have hI1 := hI.below hb1
 go_wp2_with fail
 refine (within_any s at_ n _ aS hI1.cS hs hn1 hn2).mono ?_
 rintro e w2 ⟨rfl, hb2⟩
 go_wp2_with fail
 refine (first2_new _ _ _ _ _).mono ?_
 rintro e w3 ⟨rfl, hb3⟩
 simp only [firstErr, errOf, ErrV, Bool.false_eq_true, if_false]
 go_wp2_with fail
 have hb := ext_trans (ext_alloc (ext_trans hb1 hb2) _) hb3
 refine (eitheri_W 0 _ aN aW aS (hI.below hb)).mono ?_
 rintro e w4 ⟨rfl, rfl⟩
 go_wp2_with fail
 go_ret2
 exact ⟨rfl, hb⟩
theorem Take_short (s : ByteArray) (at_ n : Int) (w : World) (aN aW aS : Addr) (hI : NInv w aN aW aS) (hs : s.size ≤ 9223372036854775807) (hk : okWidth n = true) (hk' : okWithin s.size at_ n = false) :
  Calls Tryz.prog 173 #[.string s, .int .i64 at_, .int .i64 n] w (Ret (.tuple #[.int .i64 0, .int .i64 11]) w) := by
 obtain ⟨k1, k2⟩ := okWidth_iff.1 hk
 have HK := Lib.hid hk
 clear hk
 have HK' := Lib.hid hk'
 clear hk'
 go_enter Tryz.func173, Tryz.ntmps173
 go_wp2_with fail
 refine (width_any n _ aW hI.cW).mono ?_
 rintro e w1 ⟨rfl, hb1⟩
 rw [HK.out]
 have hI1 := hI.below hb1
 go_wp2_with fail
 refine (within_any s at_ n _ aS hI1.cS hs (by omega) (by omega)).mono ?_
 rintro e w2 ⟨rfl, hb2⟩
 rw [HK'.out]
 go_wp2_with fail
 refine (first2_new _ _ _ _ _).mono ?_
 rintro e w3 ⟨rfl, hb3⟩
 simp only [firstErr, errOf, ErrV, Bool.false_eq_true, if_false, if_true]
 go_wp2_with fail
 have hb := ext_trans (ext_alloc (ext_trans hb1 hb2) _) hb3
 refine (eitheri_S 0 _ aN aW aS (hI.below hb)).mono ?_
 rintro e w4 ⟨rfl, rfl⟩
 go_wp2_with fail
 go_ret2
 exact ⟨rfl, hb⟩
theorem take_succ_at (s : ByteArray) (p m k : Nat) (h : p + k < s.size) (hk : k < m) :
  ((s.data.toList.drop p).take m).take (k + 1) = ((s.data.toList.drop p).take m).take k ++ [s[p + k]] := by
 rw [List.take_take, List.take_take, Nat.min_eq_left (by omega), Nat.min_eq_left (by omega), List.take_succ_eq_append_getElem (by simp; omega)]
 simp
 rfl
theorem take_wrap (s : ByteArray) (p m k : Nat) (L : List UInt8) (hL : (s.data.toList.drop ((p : Int)).toNat).take ((m : Int)).toNat = L) (h : p + k < s.size) (hk : k < m) (hv : val (L.take k) ≤ 281474976710655) :
  wrap64 ((val (L.take k) : Int) * 256 + wrap64 (s[p + k].toNat : Int)) = ((val (L.take (k + 1)) : Nat) : Int) := by
 have h1 := take_succ_at s p m k h hk
 simp only [Int.toNat_natCast] at hL
 rw [hL] at h1
 rw [h1, val_snoc]
 have hb := s[p + k].toNat_lt
 rw [IntWalk.wrap64_in (s[p + k].toNat : Int) ⟨by omega, by omega⟩, IntWalk.wrap64_in _ ⟨by omega, by omega⟩]
 omega
def takeN (l : List UInt8) : Int := if val l ≤ 281474976710655 then (val l : Int) else 0
def takeE (l : List UInt8) : Int := if val l ≤ 281474976710655 then 0 else 10
theorem Take_ok (s : ByteArray) (at_ n : Int) (w : World) (aN aW aS : Addr) (hI : NInv w aN aW aS) (hs : s.size ≤ 9223372036854775807) (hk : okWidth n = true) (hk' : okWithin s.size at_ n = true) :
  Calls Tryz.prog 173 #[.string s, .int .i64 at_, .int .i64 n] w
   (Ret (.tuple #[.int .i64 (takeN ((s.data.toList.drop at_.toNat).take n.toNat)), .int .i64 (takeE ((s.data.toList.drop at_.toNat).take n.toNat))]) w) := by
 obtain ⟨k1, k2⟩ := okWidth_iff.1 hk
 obtain ⟨k3, k4, k5, k6⟩ := okWithin_iff.1 hk'
 obtain ⟨p, rfl⟩ := Int.eq_ofNat_of_zero_le k3
 obtain ⟨m, rfl⟩ := Int.eq_ofNat_of_zero_le k5
 have HK := Lib.hid hk
 clear hk
 have HK' := Lib.hid hk'
 clear hk'
 go_enter Tryz.func173, Tryz.ntmps173
 go_wp2_with fail
 refine (width_any m _ aW hI.cW).mono ?_
 rintro e w1 ⟨rfl, hb1⟩
 rw [HK.out]
 have hI1 := hI.below hb1
 go_wp2_with fail
 refine (within_any s p m _ aS hI1.cS hs (by omega) (by omega)).mono ?_
 rintro e w2 ⟨rfl, hb2⟩
 rw [HK'.out]
 go_wp2_with fail
 refine (first2_new _ _ _ _ _).mono ?_
 rintro e w3 ⟨rfl, hb3⟩
 simp only [firstErr, errOf, if_true]
 go_wp2_with fail
 have hb := ext_trans (ext_alloc (ext_trans hb1 hb2) _) hb3
 have hI3 := hI.below hb
 have hN := hI3.cN
 clear hI1 hb1 hb2 hb3
 generalize hL : (s.data.toList.drop ((p : Int)).toNat).take ((m : Int)).toNat = L
 have HL := Lib.hid hL
 clear hL
 go_loop [6, 7, 9, 10, 26] (fun _ _ v _ i => ∃ k : Nat, k ≤ m ∧ i = .int .i64 k ∧ v = .int .i64 (val (L.take k)) ∧ val (L.take k) ≤ 281474976710655) (fun _ _ _ _ i => m - (intOf i).toNat)
 case atStart => exact ⟨0, Nat.zero_le _, rfl, rfl, by simp [val, valFrom]⟩
 case round =>
  obtain ⟨k, hkm, rfl, rfl, hv⟩ := hrel
  by_cases hlt : k < m
  ·have hps : p + k < s.size := by omega
   have hw := take_wrap s p m k L HL.out hps hlt hv
   have HW := Lib.hid hw
   clear hw
   go_wp2_with fail
   rw [HW.out]
   refine (Right_any _ _).mono ?_
   rintro e w4 ⟨rfl, rfl⟩
   by_cases hle : val (L.take (k + 1)) ≤ 281474976710655
   ·have ho : okNum ((val (L.take (k + 1)) : Nat) : Int) = true := by simp [okNum]; omega
    rw [ho]
    clear ho
    go_wp2_with fail
    go_round
    case rel => exact ⟨k + 1, by omega, by go_num, rfl, hle⟩
    case measure => simp [intOf]; omega
   ·have ho : okNum ((val (L.take (k + 1)) : Nat) : Int) = false := by simp [okNum]; omega
    rw [ho]
    clear ho
    go_wp2_with fail
    refine (eitheri_N 0 _ aN aW aS hI3).mono ?_
    rintro e w5 ⟨rfl, rfl⟩
    go_wp2_with fail
    go_ret2
    have := val_take_le L (k + 1)
    exact ⟨by (try rw [HL.out]); rw [takeN, takeE, if_neg (by omega), if_neg (by omega)]; rfl, hb⟩
  ·obtain rfl : k = m := by omega
   have hLL : L.take k = L := List.take_of_length_le (by rw [← HL.out]; simp; omega)
   rw [hLL] at hv ⊢
   clear hLL
   go_wp2_with fail
   refine (eitheri_nil _ _ aN aW aS hI3).mono ?_
   rintro e w5 ⟨rfl, rfl⟩
   go_wp2_with fail
   go_ret2
   exact ⟨by (try rw [HL.out]); rw [takeN, takeE, if_pos hv, if_pos hv]; rfl, hb⟩
attribute [local go_sem] Oper.semAt_some
theorem boxed_kept {W W' : World} {B : Nat} {t : TypeId} {v : Value} (h : Boxed W B t v) (hb : W'.heap[B]? = W.heap[B]?) : Boxed W' B t v := hb.trans h
theorem bytes_seq (w n : Nat) (hw : w ≤ 8) (hn : n ≤ 9223372036854775807) (Bw Bn : Nat) (m : Nat) :
  SeqM Fence.wide m Tryz.prog 176 #[.pointer (some ⟨Bw, 0, none⟩), .pointer (some ⟨Bn, 0, none⟩)] (fun i : Nat => #[.int .i64 (i : Int), .int .u8 (((n / 256 ^ i : Nat) : Int) % 256)])
   (fun A B => B.heap[Bn]? = A.heap[Bn]?) (fun A B => ∃ v, B = A.setCell ⟨Bn, 0, none⟩ v) (fun pre i => i = pre.length ∧ i < w) (fun xs => xs.length = w) (fun _ => True)
   (fun W => Boxed W Bw 3 (.int .i64 (w : Int)) ∧ Boxed W Bn 3 (.int .i64 (n : Int))) := by
 rintro l J Jx W ⟨hbw, hbn⟩ hJ hJx hY h0
 have cw := hbw.cell
 clear hbw
 refine callsIn_of_wp Tryz.func176 rfl trivial ?_ rfl
 simp only [Tryz.ntmps176, List.size_toArray, List.length_cons, List.length_nil, Nat.reduceAdd, Nat.reduceSub, Array.replicate_succ, Array.replicate_zero, List.push_toArray, List.append_toArray, List.nil_append, List.cons_append]
 refine wpIn_scope (wpIn_seq (wpIn_label ?_))
 gi_wp2
 gi_loopw [6] (fun i wr => ∃ k : Nat, k ≤ w ∧ i = .int .i64 (k : Int) ∧ J (List.range k) wr ∧ Boxed wr Bn 3 (.int .i64 ((n / 256 ^ k : Nat) : Int))) (fun i _ => w - (intOf i).toNat)
 case atStart => exact ⟨0, Nat.zero_le _, rfl, h0, by simpa using hbn⟩
 case round =>
  obtain ⟨k, hk, rfl, hJk, hbk⟩ := hrel
  have cn := hbk.cell
  have fn := hbk.frozen
  have hnk : n / 256 ^ k ≤ 9223372036854775807 := Nat.le_trans (Nat.div_le_self _ _) hn
  by_cases hlt : k < w
  ·have hy0 := hY (List.range k) k wr hJk ⟨by simp, hlt⟩
   dsimp only at hy0
   have hnext : (n / 256 ^ k) / 256 = n / 256 ^ (k + 1) := by rw [Nat.div_div_eq_div_mul, Nat.pow_succ]
   have HN := Lib.hid hnext
   clear hnext
   generalize hq : n / 256 ^ k = q at hy0 hbk cn hnk HN
   have HQ := Lib.hid hq
   clear hq
   obtain ⟨fnn, tmps, assign, body, hy, hR⟩ := hy0
   gi_wp2
   refine ⟨fun hd => (by cases hd), hR.mono ?_⟩
   rintro e W3 (⟨rfl, hJ3, hk3⟩ | ⟨rfl, hJx3⟩)
   ·have hb3 := boxed_kept hbk hk3
    have cn3 := hb3.cell
    have fn3 := hb3.frozen
    gi_wp2
    go_roundw
    case rel =>
     refine ⟨k + 1, by omega, by go_num, ?_, ?_⟩
     ·rw [List.range_succ]
      exact hJ _ _ _ hJ3 ⟨_, rfl⟩
     ·have e2 : ((n / 256 ^ (k + 1) : Nat) : Int) = (q : Int) / 256 := by rw [← HN.out]; rfl
      rw [e2]
      exact hb3.set _
    case measure => simp [intOf]; omega
   ·gi_wp2
    simp only [Exit.noGoto]
    go_end0
    exact ⟨⟨_, rfl⟩, .inr ⟨_, trivial, hJx3⟩⟩
  ·gi_wp2
   simp only [Exit.noGoto]
   go_end0
   obtain rfl : k = w := by omega
   exact ⟨⟨_, rfl⟩, .inl ⟨List.range k, by simp, hJk⟩⟩
theorem lay_any (g Bo Bw : Nat) (w : Nat) (hw : w ≤ 8) (i : Nat) (hi : i < w) (b : Int) (W : World) (xs : List Value) (base : Nat)
  (hr : W.ownsRow base 5 1 (.slice (some ⟨g, 0, none⟩) w w) w xs) (hbo : Boxed W Bo 36 (.slice (some ⟨g, 0, none⟩) w w)) (hbw : Boxed W Bw 3 (.int .i64 (w : Int))) :
  Calls Tryz.prog 158 #[.int .i64 (i : Int), .int .u8 b, .pointer (some ⟨Bo, 0, none⟩), .pointer (some ⟨Bw, 0, none⟩)] W
   fun e W' => e = .returned (.tuple #[]) ∧ W' = W.setCell ⟨g, w - 1 - i, none⟩ (.int .u8 b) := by
 have c1 := hbo.cell
 have c2 := hbw.cell
 have hxl := hr.1
 have hc := hr.cellAt (w - 1 - i) (by omega)
 have hf := hr.frozenAt (w - 1 - i)
 rw [List.getElem?_eq_getElem (by omega)] at hc
 have e1 : ((w : Int) - 1 - (i : Int)).toNat = w - 1 - i := by omega
 have E1 := Lib.hid e1
 clear e1 hr hbo hbw
 go_enter Tryz.func158, Tryz.ntmps158
 go_wp2
 go_end0
 exact ⟨rfl, rfl⟩
end Go.Proofs.YtmebjdbkngehiaaGreatDoor
