/-
  Package head: Encode and Size over all inputs. Conditions: the listed variables hold what 'HInv' says.
-/
import Derived.Test.YtfkekdpppcidbaaDoorHeadD
namespace Go.Proofs.YtfkekdpppcidbaaDoor
open Go.RowKit

/-- What Encode tells. -/
def encV (m n : Int) : ByteArray × Int := if majB m then (if okNum n then (⟨(headL m.toNat n.toNat).toArray⟩, 0) else (ByteArray.empty, 10)) else (ByteArray.empty, 2)
/-- What Size tells. -/
def sizeV (n : Int) : Int × Int := if okNum n then ((1 + wOf n.toNat : Nat), 0) else (0, 10)
theorem encV_major {m n : Int} (h : majB m = false) : encV m n = (ByteArray.empty, 2) := by rw [encV, h]; rfl
theorem encV_num {m n : Int} (h : majB m = true) (k : okNum n = false) : encV m n = (ByteArray.empty, 10) := by rw [encV, h, k]; rfl
theorem encV_ok {m n : Int} (h : majB m = true) (k : okNum n = true) : encV m n = (⟨(headL m.toNat n.toNat).toArray⟩, 0) := by rw [encV, if_pos h, if_pos k]
theorem majB_iff {m : Int} : majB m = true ↔ m = 0 ∨ m = 2 ∨ m = 3 ∨ m = 4 := by simp [majB, or_assoc]

theorem Encode_any (m n : Int) (w : World) (A : Nat → Addr) (aN aW aS : Addr) (h : HInv w A aN aW aS) :
    Calls Tryd.prog 12 #[.int .i64 m, .int .i64 n] w (Ret (.tuple #[.string (encV m n).1, .int .i64 (encV m n).2]) w) := by
  rcases bool_cases (majB m) with hm | hm
  · rw [encV_major hm]
    go_enter Tryd.func12, Tryd.ntmps12
    go_wp2_with fail
    refine (encoded_major m n _ A aN aW aS h hm).mono ?_
    rintro e w1 ⟨rfl, hb1⟩
    go_wp2_with fail
    refine (heitherS_0 _ _ A aN aW aS (h.below hb1)).mono ?_
    rintro e w2 ⟨rfl, hb2⟩
    go_wp2_with fail
    go_ret2
    exact ⟨rfl, ext_trans hb1 hb2⟩
  rcases bool_cases (okNum n) with hn | hn
  · rw [encV_num hm hn]
    go_enter Tryd.func12, Tryd.ntmps12
    go_wp2_with fail
    refine (encoded_num m n _ A aN aW aS h hm hn).mono ?_
    rintro e w1 ⟨rfl, hb1⟩
    go_wp2_with fail
    refine (heitherS_1 _ _ A aN aW aS (h.below hb1)).mono ?_
    rintro e w2 ⟨rfl, hb2⟩
    go_wp2_with fail
    go_ret2
    exact ⟨rfl, ext_trans hb1 hb2⟩
  · rw [encV_ok hm hn]
    obtain ⟨n0, n1⟩ := okNum_iff.1 hn
    have hm4 := majB_iff.1 hm
    obtain ⟨p, rfl⟩ := Int.eq_ofNat_of_zero_le n0
    obtain ⟨q, rfl⟩ := Int.eq_ofNat_of_zero_le (show 0 ≤ m by omega)
    rw [Int.toNat_natCast, Int.toNat_natCast]
    have hc := fun w' h' => encoded_ok q p w' A aN aW aS h' hm (by omega) (by omega)
    generalize (⟨(headL q p).toArray⟩ : ByteArray) = sv at hc ⊢
    go_enter Tryd.func12, Tryd.ntmps12
    go_wp2_with fail
    refine (hc _ h).mono ?_
    rintro e w1 ⟨rfl, hb1⟩
    go_wp2_with fail
    refine (heitherS_nil _ _ A aN aW aS (h.below hb1)).mono ?_
    rintro e w2 ⟨rfl, hb2⟩
    go_wp2_with fail
    go_ret2
    exact ⟨rfl, ext_trans hb1 hb2⟩

theorem HSize_any (n : Int) (w : World) (A : Nat → Addr) (aN aW aS : Addr) (h : HInv w A aN aW aS) :
    Calls Tryd.prog 16 #[.int .i64 n] w (Ret (.tuple #[.int .i64 (sizeV n).1, .int .i64 (sizeV n).2]) w) := by
  rcases bool_cases (okNum n) with hn | hn
  · rw [sizeV, if_neg (by rw [hn]; decide)]
    have hc := fun w' h' => encoded_num 0 n w' A aN aW aS h' rfl hn
    have hd := fun v w' h' => heitherI_1 v w' A aN aW aS h'
    unfold ErrV at hc hd
    go_enter Tryd.func16, Tryd.ntmps16
    go_wp2_with fail
    refine (hc _ h).mono ?_
    rintro e w1 ⟨rfl, hb1⟩
    go_wp2_with fail
    refine (hd _ _ (h.below (ext_alloc hb1 _))).mono ?_
    rintro e w2 ⟨rfl, hb2⟩
    go_wp2_with fail
    go_ret2
    exact ⟨rfl, ext_trans (ext_alloc hb1 _) hb2⟩
  · rw [sizeV, if_pos hn]
    obtain ⟨n0, n1⟩ := okNum_iff.1 hn
    obtain ⟨p, rfl⟩ := Int.eq_ofNat_of_zero_le n0
    rw [Int.toNat_natCast]
    have hc := fun w' h' => encoded_ok 0 p w' A aN aW aS h' rfl (by omega) (by omega)
    have hl : (⟨(headL 0 p).toArray⟩ : ByteArray).size = 1 + wOf p := by show (headL 0 p).toArray.size = _; simp [headL_length]
    rw [← hl]
    clear hl
    generalize (⟨(headL 0 p).toArray⟩ : ByteArray) = sv at hc ⊢
    go_enter Tryd.func16, Tryd.ntmps16
    go_wp2_with fail
    refine (hc _ h).mono ?_
    rintro e w1 ⟨rfl, hb1⟩
    go_wp2_with fail
    refine (heitherI_nil _ _ A aN aW aS (h.below (ext_alloc hb1 _))).mono ?_
    rintro e w2 ⟨rfl, hb2⟩
    go_wp2_with fail
    go_ret2
    exact ⟨rfl, ext_trans (ext_alloc hb1 _) hb2⟩

end Go.Proofs.YtfkekdpppcidbaaDoor
