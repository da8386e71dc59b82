/-
  Package sdnv: Encode, Size, List over all inputs. Conditions: errors.errorType holds the handle of the type error ('SInv').
-/
import Derived.Test.YtcahfdhfdigjaaaDoorSdE
namespace Go.Proofs.YtcahfdhfdigjaaaDoor
open Go.RowKit

/-- Many numbers' groups, and what is told. -/
def listV (xs : List Int) : ByteArray × Int := if xs.all okNum then (⟨(listL (xs.map Int.toNat)).toArray⟩, 0) else (ByteArray.empty, 10)
/-- A number's groups, and what is told. -/
def encV (n : Int) : ByteArray × Int := if okNum n then (⟨(sdL n.toNat).toArray⟩, 0) else (ByteArray.empty, 10)
theorem listV_one (n : Int) : listV [n] = encV n := by
  unfold listV encV
  simp [listL]
theorem allRes_cases (xs : List Int) : (xs.all okNum = true ∧ listV xs = (⟨(listL (xs.map Int.toNat)).toArray⟩, 0) ∧ allRes xs = .tuple #[.string ⟨(listL (xs.map Int.toNat)).toArray⟩, .nilIface]) ∨ (xs.all okNum = false ∧ listV xs = (ByteArray.empty, 10) ∧ allRes xs = .tuple #[.string ByteArray.empty, WrV 10]) := by
  rcases bool_cases (xs.all okNum) with h | h
  · exact .inr ⟨h, by rw [listV, if_neg (by rw [h]; decide)], by rw [allRes, if_neg (by rw [h]; decide)]⟩
  · exact .inl ⟨h, by rw [listV, if_pos h], by rw [allRes, if_pos h]⟩

theorem List_any (A : Option Addr) (c n : Nat) (xs : List Int) (w : World) (hI : SInv w) (hn : xs.length = n) (ha : RdI w A xs) (hl : n ≤ 10000) :
    Calls Tryd.prog 18 #[.slice A n c] w (Ret (.tuple #[.string (listV xs).1, .int .i64 (listV xs).2]) w) := by
  have HA := all_any A c n xs w hn ha hl
  rcases allRes_cases xs with ⟨-, h1, h2⟩ | ⟨-, h1, h2⟩
  · rw [h1]
    rw [h2] at HA
    clear h1 h2
    generalize (⟨(listL (xs.map Int.toNat)).toArray⟩ : ByteArray) = t at *
    have HA := Lib.hid HA
    go_enter Tryd.func18, Tryd.ntmps18
    go_wp2_with fail
    refine HA.out.mono ?_
    rintro e w1 ⟨rfl, hb1⟩
    go_wp2_with fail
    refine (tolds_nil t _).mono ?_
    rintro e w2 ⟨rfl, hb2⟩
    go_wp2_with fail
    go_ret2
    exact ⟨rfl, ext_trans hb1 hb2⟩
  · rw [h1]
    rw [h2] at HA
    clear h1 h2
    have HT := fun w' h' => tolds_wr ByteArray.empty 10 w' h'
    unfold WrV at HA HT
    have HA := Lib.hid HA
    go_enter Tryd.func18, Tryd.ntmps18
    go_wp2_with fail
    refine HA.out.mono ?_
    rintro e w1 ⟨rfl, hb1⟩
    go_wp2_with fail
    refine (HT _ (hI.below hb1)).mono ?_
    rintro e w2 ⟨rfl, hb2⟩
    go_wp2_with fail
    go_ret2
    exact ⟨rfl, ext_trans hb1 hb2⟩

theorem rdI_one (n : Int) (w : World) : RdI (w.alloc (.cells #[.int .i64 n] 3)) (some ⟨w.heap.size, 0, none⟩) [n] := fun _ =>
  ⟨⟨w.heap.size, 0, none⟩, rfl, by simp, fun i hi => by
    obtain rfl : i = 0 := by simp at hi; omega
    simp [Addr.add]⟩

theorem Encode_any (n : Int) (w : World) (hI : SInv w) :
    Calls Tryd.prog 13 #[.int .i64 n] w (Ret (.tuple #[.string (encV n).1, .int .i64 (encV n).2]) w) := by
  rw [← listV_one]
  have hw := ext_new w (.cells #[.int .i64 n] 3)
  have HA := all_any (some ⟨w.heap.size, 0, none⟩) 1 1 [n] _ rfl (rdI_one n w) (by omega)
  rcases allRes_cases [n] with ⟨-, h1, h2⟩ | ⟨-, h1, h2⟩
  · rw [h1]
    rw [h2] at HA
    clear h1 h2
    generalize (⟨(listL ([n].map Int.toNat)).toArray⟩ : ByteArray) = t at *
    have HA := Lib.hid HA
    go_enter Tryd.func13, Tryd.ntmps13
    go_wp2_with fail
    refine HA.out.mono ?_
    rintro e w1 ⟨rfl, hb1⟩
    go_wp2_with fail
    refine (tolds_nil t _).mono ?_
    rintro e w2 ⟨rfl, hb2⟩
    go_wp2_with fail
    go_ret2
    exact ⟨rfl, ext_trans (ext_trans hw hb1) hb2⟩
  · rw [h1]
    rw [h2] at HA
    clear h1 h2
    have HT := fun w' h' => tolds_wr ByteArray.empty 10 w' h'
    unfold WrV at HA HT
    have HA := Lib.hid HA
    go_enter Tryd.func13, Tryd.ntmps13
    go_wp2_with fail
    refine HA.out.mono ?_
    rintro e w1 ⟨rfl, hb1⟩
    go_wp2_with fail
    refine (HT _ ((hI.below hw).below hb1)).mono ?_
    rintro e w2 ⟨rfl, hb2⟩
    go_wp2_with fail
    go_ret2
    exact ⟨rfl, ext_trans (ext_trans hw hb1) hb2⟩

/-- How many groups, and what is told. -/
def sizeV (n : Int) : Int × Int := ((encV n).1.size, (encV n).2)
theorem Size_any (n : Int) (w : World) (hI : SInv w) :
    Calls Tryd.prog 22 #[.int .i64 n] w (Ret (.tuple #[.int .i64 (sizeV n).1, .int .i64 (sizeV n).2]) w) := by
  rw [sizeV, ← listV_one]
  have hw := ext_new w (.cells #[.int .i64 n] 3)
  have HA := all_any (some ⟨w.heap.size, 0, none⟩) 1 1 [n] _ rfl (rdI_one n w) (by omega)
  rcases allRes_cases [n] with ⟨-, h1, h2⟩ | ⟨-, h1, h2⟩
  · rw [h1]
    rw [h2] at HA
    clear h1 h2
    generalize (⟨(listL ([n].map Int.toNat)).toArray⟩ : ByteArray) = t at *
    have HA := Lib.hid HA
    go_enter Tryd.func22, Tryd.ntmps22
    go_wp2_with fail
    refine HA.out.mono ?_
    rintro e w1 ⟨rfl, hb1⟩
    go_wp2_with fail
    refine (toldi_nil (t.size : Int) _).mono ?_
    rintro e w2 ⟨rfl, hb2⟩
    go_wp2_with fail
    go_ret2
    exact ⟨rfl, ext_trans (ext_trans hw hb1) hb2⟩
  · rw [h1]
    rw [h2] at HA
    clear h1 h2
    have HT := fun w' h' => toldi_wr 0 10 w' h'
    unfold WrV at HA HT
    have HA := Lib.hid HA
    go_enter Tryd.func22, Tryd.ntmps22
    go_wp2_with fail
    refine HA.out.mono ?_
    rintro e w1 ⟨rfl, hb1⟩
    go_wp2_with fail
    refine (HT _ ((hI.below hw).below hb1)).mono ?_
    rintro e w2 ⟨rfl, hb2⟩
    go_wp2_with fail
    go_ret2
    exact ⟨rfl, ext_trans (ext_trans hw hb1) hb2⟩

end Go.Proofs.YtcahfdhfdigjaaaDoor
