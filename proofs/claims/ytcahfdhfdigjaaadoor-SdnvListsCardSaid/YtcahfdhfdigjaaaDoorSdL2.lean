/-
  Package postriderlaw02: the law SdnvLists. Conditions: errors.errorType holds the handle of the type error ('SInv').
-/
import Derived.Test.YtcahfdhfdigjaaaDoorSdP
import Derived.Test.YtcahfdhfdigjaaaDoorSdL1
namespace Go.Proofs.YtcahfdhfdigjaaaDoor
open Go.RowKit

set_option maxRecDepth 100000 in
theorem SdnvLists_law (A : Option Addr) (n c : Nat) (xs : List Int) (s : ByteArray) (w : World) (h : SInv w) (hc : n ≤ c) (hc2 : c ≤ 9223372036854775807) (h0 : A = none → n = 0 ∧ c = 0) (hx : xs.length = min n 30) (hr : RdI w A xs) (hs : s.size ≤ 9223372036854775807) :
    Calls Tryd.prog 8 #[.slice A n c, .string s] w (Ret (.bool true) w) := by
  have hz := cut100_size s
  have HF := fun w' => few_any A n c w' hc hc2 h0
  have HC := fun w' => scut_any s w' hs
  have L1 := fun w' h' r' => List_any A c (min n 30) xs w' h' hx r' (by omega)
  have L2 := fun w' r' => rList_any A c (min n 30) xs w' hx r' (by omega)
  have A1 := fun w' h' => All_any (cut100 s) w' h' (by omega)
  have A2 := fun w' => rAll_any (cut100 s) w' (by omega)
  have hln := all_len (cut100 s)
  generalize allV (cut100 s) = y at *
  generalize listV xs = x at *
  generalize cut100 s = s' at *
  generalize min n 30 = n' at *
  obtain ⟨l, g⟩ := y
  dsimp only at A1 A2 hln
  clear hx
  go_enter Tryd.func8, Tryd.ntmps8
  go_wp2_with fail
  refine (sshown_any _ h).mono ?_
  rintro e0 w1 ⟨rfl, hb1⟩
  go_wp2_with fail
  refine (HF _).mono ?_
  rintro e0 wp ⟨rfl, rfl⟩
  go_wp2_with fail
  refine (HC _).mono ?_
  rintro e0 wp ⟨rfl, rfl⟩
  go_wp2_with fail
  refine (L1 _ (h.below hb1) (hr.below hb1)).mono ?_
  rintro e0 w2 ⟨rfl, hb2'⟩
  have hb2 := ext_trans hb1 hb2'
  clear hb2' hb1
  go_wp2_with fail
  refine (L2 _ (hr.below hb2)).mono ?_
  rintro e0 w3 ⟨rfl, hb3'⟩
  have hb3 := ext_trans hb2 hb3'
  clear hb3' hb2
  go_wp2_with fail
  refine (A1 _ (h.below hb3)).mono ?_
  rintro e0 w4 ⟨V, rfl, hown, hb4'⟩
  have hb4 := ext_trans hb3 hb4'
  clear hb4' hb3
  obtain ⟨-, B, c1, rfl, hrB⟩ := rdI_own hown
  clear hown
  go_wp2_with fail
  refine (A2 _).mono ?_
  rintro e0 w5 ⟨V, rfl, hown, hb5'⟩
  have hrB := hrB.below hb5'
  have hb5 := ext_trans hb4 hb5'
  clear hb5' hb4
  obtain ⟨-, C, c2, rfl, hrC⟩ := rdI_own hown
  clear hown
  have hI := Ints_true B C c1 c2 l.length (l.map fun n : Nat => (n : Int)) w5 (by simp) hrB hrC (by omega)
  go_wp2_with fail
  refine hI.mono ?_
  rintro e0 w6 ⟨rfl, hb6'⟩
  have hb6 := ext_trans hb5 hb6'
  clear hb5 hb6'
  go_wp2_with fail
  go_ret
  exact ⟨rfl, hb6⟩

end Go.Proofs.YtcahfdhfdigjaaaDoor
