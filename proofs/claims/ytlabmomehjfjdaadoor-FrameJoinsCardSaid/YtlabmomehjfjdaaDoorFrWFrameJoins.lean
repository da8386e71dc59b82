/-
  The statement FrameJoins of chapter 17: as its row, and as its card (tied to the text of the program). Conditions: those that the given statement names.
-/
import Derived.Test.YtlabmomehjfjdaaDoorFrL7
import Derived.Test.YtlabmomehjfjdaaDoorFrV
import Derived.Test.YtlabmomehjfjdaaDoorRowK
import Derived.Test.YtlabmomehjfjdaaDoorCards
import Derived.Test.YtlabmomehjfjdaaDoorTie
import Derived.ChangeSame
import Derived.ChangeVars
import Derived.JoinedOf
import Derived.RowKit
import Derived.RowKitTokens
import Derived.LaidLaws
import Derived.LaidSub
import Derived.LaidMore
import Derived.ProofKit
import Derived.OpenShut
import Derived.Carry
import Derived.MakeChecks
import Derived.Stop.Joined
import Derived.Stop.LaidTwo
import Derived.SevenTiedAt
namespace Go.Proofs.YtlabmomehjfjdaaDoor
open Go.ChangeShapes Go.WideShapes Go.ChangeAt Go.WideMaps Go.WideElems Go.RowKit

set_option maxRecDepth 100000 in
theorem frameJoins_lifted (os : Os) (started : os.Started) (H : Type) (enc : TypeId × Value → H) :
    ReturnsInHanded {} Tryd.checked os 9 .any (fun w args => (Rows.frameJoinsSpec.pre enc Tryd.prog Tryd.f9 [] false w args ∧ laidMetH Tryd.prog Rows.frameJoinsRow.laid w) ∧ sizedMet enc Tryd.prog Tryd.f9 (OpenSpec.ofChange Rows.frameJoinsSpec) false w args)
      (Rows.frameJoinsSpec.post enc Tryd.prog Tryd.f9 false true false false) := by
  refine returnsInHanded_of_change_and (C := Tryd.checked) (X := (fun w _ => laidMetH Tryd.prog Rows.frameJoinsRow.laid w)) (fun _ _ _ hh h => h.of_heap hh) own started (by kernel_rfl) Tryd.func9
    (ChangeSpec.witness_shaped (enc := enc) (C := Tryd.checked) (os := os) (X := (fun w _ => laidMetH Tryd.prog Rows.frameJoinsRow.laid w)) false (World.doorLaid Tryd.prog 400 os) #[.slice none 0 0, .slice none 0 0] 8 rfl (World.shaped_of_RefB (by kernel_rfl) (by kernel_rfl)) (by kernel_rfl) (by kernel_rfl) (by kernel_rfl) (door_met os _)) ?_
  intro W base args ds gs before hval0 hW _ _ hL hS
  have hval : ∀ (j : Nat) t v, Tryd.f9.params[j]? = some t → args[j]? = some v → Value.okWide Tryd.prog W .any base t v := hval0
  have hW' := hW
  obtain ⟨p, q, hA0, hV, rfl, hfz, hnd⟩ := hW
  have hA : DataW.TrodAll enc Tryd.prog W 0 (fun _ => true) true Tryd.f9.params.toList args.toList ds p := hA0
  have hlt : ∀ x ∈ p, x.block < W.heap.size := fun x hx => hW'.lt x (List.mem_append_left _ hx)
  obtain ⟨pp, hA', hlt'⟩ : ∃ pp, DataW.TrodAll enc Tryd.prog W 0 (fun _ => true) true Tryd.f9.params.toList args.toList ds pp ∧ ∀ x ∈ pp, x.block < W.heap.size := ⟨p, hA, hlt⟩
  rw [Tryd.params9] at hA hval
  obtain ⟨v0, v1, d0, d1, p0, p1, rfl, rfl, rfl, h0, h1⟩ := trodAll_two hA
  obtain ⟨rfl, rfl⟩ := trodVars_none hV
  obtain ⟨A0, n0, c0, rfl⟩ := okWide_slice Tryd.underlying25 (hval 0 _ _ rfl rfl)
  obtain ⟨T0, u00, u01, u02⟩ := open_recs h0 (min n0 10) (Nat.min_le_left _ _)
  obtain ⟨A1, n1, c1, rfl⟩ := okWide_slice Tryd.underlying25 (hval 1 _ _ rfl rfl)
  obtain ⟨T1, u10, u11, u12⟩ := open_recs h1 (min n1 10) (Nat.min_le_left _ _)
  obtain ⟨aA, aT, aN, aW, aS, hI⟩ := inv_of_laid hL
  have e1 : Rows.frameJoinsSpec.fn H ([d0, d1] ++ []) = { results := [.lit (.bool true)], args := [d0, d1] } := by first | rfl | simp [Rows.frameJoinsSpec]
  refine (FrameJoins_law A0 n0 c0 T0 A1 n1 c1 T1 W aA aT aN aW aS hI u00 u01 u02 u10 u11 u12).mono ?_
  rintro e W' ⟨rfl, hb⟩
  refine ⟨_, rfl, _, _, _, [], pp, [], hW', ?_, ?_, ?_, hb.frame _, fun h => by cases h⟩
  · rw [e1]; exact trodAll_mk1 (shut_bool Tryd.underlying4 true)
  · rw [e1]; exact trodAll_stays laidOut hb _ _ _ _ (by kernel_rfl) hA' hlt'
  · rw [e1]; rfl

theorem frameJoins_holds : Rows.FrameJoinsSaid :=
  OpenClaim.holds_of_wide 9 Tryd.f9 rfl rfl rfl rfl rfl rfl rfl ⟨rfl, rfl, rfl, rfl, rfl⟩ rfl rfl rfl rfl rfl (by kernel_rfl) Tryd.func9 (by kernel_rfl)
    (of_decide_eq_true (by kernel_rfl)) (by unfold Func.isWrapper; first | (rw [if_pos (by decide +kernel)]; kernel_rfl) | (rw [if_neg (by decide +kernel)]; exact ⟨rfl, rfl⟩))
    (fun os started H enc _ => frameJoins_lifted os started H enc)

theorem frameJoins_card : Rows.FrameJoinsCardSaid :=
  Claim7.holds_tied_plain_at .later [] [.sentinel, .sentinel, .sentinel, .sentinel, .sentinel, .data] true (true, "5f1c54779645a4f0965d4567a509dd52867650c98683e31dcab56930b4b7d1af") true
    frameJoins_holds (fun _ h => by cases h) (by kernel_rfl) (fun _ h => by cases h) frameJoins_row_tie rfl ⟨rfl, rfl⟩ (by kernel_rfl) rfl
    (fun f fn hf hfn => by
      obtain rfl : f = 9 := Option.some.inj ((show Tryd.prog.funcNamed "postrider/postriderlaw17.FrameJoins" = some 9 by kernel_rfl).symm.trans hf) |>.symm
      obtain rfl : fn = Tryd.f9 := (Option.some.inj (Tryd.func9.symm.trans hfn)).symm
      exact ⟨by kernel_rfl, fun j t ht => by
        rw [Tryd.params9] at ht
        have hm : t ∈ [25, 25] := by simpa using Array.mem_of_getElem? ht
        have hall : ([25, 25].all fun u => !Tryd.prog.wantsStandIn u) = true := by kernel_rfl
        exact (show Tryd.prog.wantsStandIn t = false by simpa using List.all_eq_true.1 hall t hm)⟩)
    (by kernel_rfl)

end Go.Proofs.YtlabmomehjfjdaaDoor
