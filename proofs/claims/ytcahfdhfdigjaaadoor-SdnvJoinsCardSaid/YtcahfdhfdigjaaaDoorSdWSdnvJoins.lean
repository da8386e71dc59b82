/-
  The statement SdnvJoins of chapter 02: as its row, and as its card (tied to the text of the program). Conditions: those that the given statement names.
-/
import Derived.Test.YtcahfdhfdigjaaaDoorSdL8
import Derived.Test.YtcahfdhfdigjaaaDoorSdV
import Derived.Test.YtcahfdhfdigjaaaDoorRowK
import Derived.Test.YtcahfdhfdigjaaaDoorCards
import Derived.Test.YtcahfdhfdigjaaaDoorTie
import Derived.ChangeSame
import Derived.ChangeVars
import Derived.JoinedOf
import Derived.RowKit
import Derived.RowKitTokens
import Derived.LaidLaws
import Derived.LaidSub
import Derived.LaidMore
import Derived.ProofKit
import Derived.OpenShut
import Derived.Carry
import Derived.MakeChecks
import Derived.Stop.Joined
import Derived.Stop.LaidTwo
import Derived.SevenTiedAt
namespace Go.Proofs.YtcahfdhfdigjaaaDoor
open Go.ChangeShapes Go.WideShapes Go.ChangeAt Go.WideMaps Go.WideElems Go.RowKit

set_option maxRecDepth 100000 in
theorem sdnvJoins_lifted (os : Os) (started : os.Started) (H : Type) (enc : TypeId × Value → H) :
    ReturnsInHanded {} Tryd.checked os 5 .any (fun w args => (Rows.sdnvJoinsSpec.pre enc Tryd.prog Tryd.f5 [] false w args ∧ laidMetH Tryd.prog Rows.sdnvJoinsRow.laid w) ∧ sizedMet enc Tryd.prog Tryd.f5 (OpenSpec.ofChange Rows.sdnvJoinsSpec) false w args)
      (Rows.sdnvJoinsSpec.post enc Tryd.prog Tryd.f5 false true false false) := by
  refine returnsInHanded_of_change_and (C := Tryd.checked) (X := (fun w _ => laidMetH Tryd.prog Rows.sdnvJoinsRow.laid w)) (fun _ _ _ hh h => h.of_heap hh) own started (by kernel_rfl) Tryd.func5
    (ChangeSpec.witness_shaped (enc := enc) (C := Tryd.checked) (os := os) (X := (fun w _ => laidMetH Tryd.prog Rows.sdnvJoinsRow.laid w)) false (World.doorLaid Tryd.prog 400 os) #[.string ByteArray.empty, .string ByteArray.empty] 8 rfl (World.shaped_of_RefB (by kernel_rfl) (by kernel_rfl)) (by kernel_rfl) (by kernel_rfl) (by kernel_rfl) (door_met os _)) ?_
  intro W base args ds gs before hval0 hW _ _ hL hS
  have hval : ∀ (j : Nat) t v, Tryd.f5.params[j]? = some t → args[j]? = some v → Value.okWide Tryd.prog W .any base t v := hval0
  have hW' := hW
  obtain ⟨p, q, hA0, hV, rfl, hfz, hnd⟩ := hW
  have hA : DataW.TrodAll enc Tryd.prog W 0 (fun _ => true) true Tryd.f5.params.toList args.toList ds p := hA0
  have hlt : ∀ x ∈ p, x.block < W.heap.size := fun x hx => hW'.lt x (List.mem_append_left _ hx)
  obtain ⟨pp, hA', hlt'⟩ : ∃ pp, DataW.TrodAll enc Tryd.prog W 0 (fun _ => true) true Tryd.f5.params.toList args.toList ds pp ∧ ∀ x ∈ pp, x.block < W.heap.size := ⟨p, hA, hlt⟩
  rw [Tryd.params5] at hA hval
  obtain ⟨v0, v1, d0, d1, p0, p1, rfl, rfl, rfl, h0, h1⟩ := trodAll_two hA
  obtain ⟨rfl, rfl⟩ := trodVars_none hV
  obtain ⟨x0, rfl, rfl, rfl, hx0⟩ := Go.ChangeMaps.open_string Tryd.underlying9 (hval 0 _ _ rfl rfl) h0
  have hb0 := str_bounds hx0
  obtain ⟨x1, rfl, rfl, rfl, hx1⟩ := Go.ChangeMaps.open_string Tryd.underlying9 (hval 1 _ _ rfl rfl) h1
  have hb1 := str_bounds hx1
  obtain ⟨uu, hI⟩ := inv_of_laid hL
  have e1 : Rows.sdnvJoinsSpec.fn H ([.lit (.string x0.data.toList), .lit (.string x1.data.toList)] ++ []) = { results := [.lit (.bool true)], args := [.lit (.string x0.data.toList), .lit (.string x1.data.toList)] } := by first | rfl | simp [Rows.sdnvJoinsSpec]
  refine (SdnvJoins_law x0 x1 W  hI hb0 hb1).mono ?_
  rintro e W' ⟨rfl, hb⟩
  refine ⟨_, rfl, _, _, _, [], pp, [], hW', ?_, ?_, ?_, hb.frame _, fun h => by cases h⟩
  · rw [e1]; exact trodAll_mk1 (shut_bool Tryd.underlying4 true)
  · rw [e1]; exact trodAll_stays laidOut hb _ _ _ _ (by kernel_rfl) hA' hlt'
  · rw [e1]; rfl

theorem sdnvJoins_holds : Rows.SdnvJoinsSaid :=
  OpenClaim.holds_of_wide 5 Tryd.f5 rfl rfl rfl rfl rfl rfl rfl ⟨rfl, rfl, rfl, rfl, rfl⟩ rfl rfl rfl rfl rfl (by kernel_rfl) Tryd.func5 (by kernel_rfl)
    (of_decide_eq_true (by kernel_rfl)) (by unfold Func.isWrapper; first | (rw [if_pos (by decide +kernel)]; kernel_rfl) | (rw [if_neg (by decide +kernel)]; exact ⟨rfl, rfl⟩))
    (fun os started H enc _ => sdnvJoins_lifted os started H enc)

theorem sdnvJoins_card : Rows.SdnvJoinsCardSaid :=
  Claim7.holds_tied_plain_at .later [] [.handle] true (true, "7cd60fe2fa4c5670c0b290e8dbba46963e1b8f0c741429c7af656d17bc282e14") true
    sdnvJoins_holds (fun _ h => by cases h) (by kernel_rfl) (fun _ h => by cases h) sdnvJoins_row_tie rfl ⟨rfl, rfl⟩ (by kernel_rfl) rfl
    (fun f fn hf hfn => by
      obtain rfl : f = 5 := Option.some.inj ((show Tryd.prog.funcNamed "postrider/postriderlaw02.SdnvJoins" = some 5 by kernel_rfl).symm.trans hf) |>.symm
      obtain rfl : fn = Tryd.f5 := (Option.some.inj (Tryd.func5.symm.trans hfn)).symm
      exact ⟨by kernel_rfl, fun j t ht => by
        rw [Tryd.params5] at ht
        have hm : t ∈ [9, 9] := by simpa using Array.mem_of_getElem? ht
        have hall : ([9, 9].all fun u => !Tryd.prog.wantsStandIn u) = true := by kernel_rfl
        exact (show Tryd.prog.wantsStandIn t = false by simpa using List.all_eq_true.1 hall t hm)⟩)
    (by kernel_rfl)

end Go.Proofs.YtcahfdhfdigjaaaDoor
