/-
  Package postriderlaw18: what all its laws begin with (shown). Conditions: errors.errorType holds the handle of the type error ('SInv'); nums' listed variables hold different errors ('NInv').
-/
import Derived.Test.YtlkghcfjcdeokaaDoorDkP
import Derived.Test.YtlkghcfjcdeokaaDoorDkJ
namespace Go.Proofs.YtlkghcfjcdeokaaDoor
open Go.RowKit Go.Shelf

def S1 : DN := ((DN.new 2).arm 2 3).1
def S2 : DN := (S1.write 0 (List.replicate 64 97)).1
def S3 : DN := (S2.write 1 (List.replicate 64 98)).1
def S4 : DN := S3.restart
theorem s1 : ((DN.new 2).arm 2 3).2 = 0 := by decide
theorem s2 : (S1.write 0 (List.replicate 64 97)).2 = 0 := by decide +kernel
theorem s3 : (S2.write 1 (List.replicate 64 98)).2 = 180 := by decide +kernel
theorem s3d : S3.down = true := by decide +kernel
theorem s4r : (S4.read 1).2 = 0 := by decide +kernel
theorem s4t : (⟨(S4.read 1).1.toArray⟩ : ByteArray).extract 0 4 = ⟨#[98, 98, 98, 0]⟩ := by decide +kernel
theorem s4z : (⟨(S4.read 1).1.toArray⟩ : ByteArray).size = 64 := by decide +kernel
theorem s4b : S4.bytes 127 2 = (ByteArray.empty, 11) := by decide +kernel
theorem s5 : S4.arm 0 0 = (S4, 2) := by rw [DN.arm, if_neg (by decide)]
theorem s4n : S4.n = 2 := by decide +kernel
theorem s4l : S4.L.length = 2 := by decide +kernel
/-- A sector of one byte, as a text. -/
def fullT (b : UInt8) : ByteArray := ⟨(List.replicate 64 b).toArray⟩
theorem full_t (b : UInt8) (n : Int) (hn : n = (b.toNat : Int)) (w : World) : Calls Tryd.prog 23 #[.int .u8 n] w (Ret (.string (fullT b)) w) := by rw [hn]; exact full_any b w
theorem full_list (b : UInt8) : (fullT b).data.toList = List.replicate 64 b := by simp [fullT]
theorem full_size (b : UInt8) : (fullT b).size = 64 := by show (List.replicate 64 b).toArray.size = 64; simp
theorem Play.of_new {k : Nat} {w : World} {e : Ending} {w' : World} (h : NewRes k w e w') (hk : 0 < k) : ∃ p g, e = .returned (.tuple #[.pointer (some ⟨p, 0, none⟩), .int .i64 0]) ∧ Play w p g (DN.new k) w' := by
  obtain ⟨p, g, he, h1, h2, h3, h4⟩ := h
  exact ⟨p, g, he, h3, h4, h1, h2, by show 0 < (List.replicate k _).length; rw [List.length_replicate]; exact hk⟩

set_option maxRecDepth 100000 in
set_option maxHeartbeats 2000000 in
theorem shown_any {w : World} {aN aW aS : Addr} (hI : DInv w aN aW aS) : Calls Tryd.prog 9 #[] w (Ret (.bool true) w) := by
  go_enter Tryd.func9, Tryd.ntmps9
  go_wp2_with fail
  refine (New_ok 2 _ (by decide) (by decide)).mono ?_
  intro e v1 hN
  obtain ⟨p, g, rfl, h1⟩ := Play.of_new hN (by decide)
  go_wp2_with fail
  refine (Arm_any 2 3 h1.disk (hI.below h1.bel).s (by decide)).mono ?_
  rintro e v2 ⟨rfl, q1, q2⟩
  have h2 := h1.but q1 rfl q2
  clear q1 q2
  rw [s1]
  change Play w p g S1 v2 at h2
  go_wp2_with fail
  refine (full_t 97 97 rfl _).mono ?_
  rintro e v3 ⟨rfl, q⟩
  have h3 := h2.below q
  go_wp2_with fail
  refine (Write_any 0 _ h3.disk (hI.below h3.bel).s (by decide)).mono ?_
  rw [full_list, s2]
  rintro e v4 ⟨rfl, q1, q2⟩
  have h4 := h3.but q1 (by decide +kernel) q2
  clear q q1 q2
  change Play w p g S2 v4 at h4
  go_wp2_with fail
  refine (full_t 98 98 rfl _).mono ?_
  rintro e v5 ⟨rfl, q⟩
  have h5 := h4.below q
  go_wp2_with fail
  refine (Write_any 1 _ h5.disk (hI.below h5.bel).s (by decide +kernel)).mono ?_
  rw [full_list, s3]
  rintro e v6 ⟨rfl, q1, q2⟩
  have h6 := h5.but q1 (by decide +kernel) q2
  clear q q1 q2
  change Play w p g S3 v6 at h6
  go_wp2_with fail
  refine (IsDown_any h6.disk).mono ?_
  rw [s3d]
  rintro e v7 ⟨rfl, rfl⟩
  go_wp2_with fail
  refine (Restart_any h6.disk).mono ?_
  rintro e v8 ⟨rfl, q1, q2⟩
  have h8 := h6.but q1 rfl q2
  clear q1 q2
  change Play w p g S4 v8 at h8
  go_wp2_with fail
  refine (Read_any 1 h8.disk (hI.below h8.bel).s).mono ?_
  rw [s4r]
  rintro e v9 ⟨rfl, q⟩
  have h9 := h8.below q
  go_wp2_with fail
  refine (DBytes_any 127 2 aN aW aS h9.disk (hI.below h9.bel) h9.pos (by decide) (by decide)).mono ?_
  rw [s4b]
  rintro e v10 ⟨rfl, q⟩
  have h10 := h9.below q
  go_wp2_with fail
  refine (Arm_any 0 0 h10.disk (hI.below h10.bel).s (by decide)).mono ?_
  rw [s5]
  rintro e v11 ⟨rfl, q1, q2⟩
  have h11 := h10.but q1 rfl q2
  have hz := s4z
  have ht := s4t
  have HW := Writes_any h11.disk
  have HS := Sectors_any h11.disk
  rw [s4n] at HW
  rw [s4l] at HS
  clear h1 h2 h3 h4 h5 h6 h8 h9 h10 q1 q2
  generalize (⟨(S4.read 1).1.toArray⟩ : ByteArray) = t at *
  go_wp2_with fail
  refine HW.mono ?_
  rintro e v12 ⟨rfl, rfl⟩
  go_wp2_with fail
  refine HS.mono ?_
  rintro e v13 ⟨rfl, rfl⟩
  go_wp2_with fail
  go_ret
  exact ⟨rfl, h11.bel⟩

end Go.Proofs.YtlkghcfjcdeokaaDoor
