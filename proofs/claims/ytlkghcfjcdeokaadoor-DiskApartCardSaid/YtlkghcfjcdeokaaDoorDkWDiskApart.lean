/-
  The statement DiskApart of chapter 18: as its row, and as its card (tied to the text of the program). Conditions: those that the given statement names.
-/
import Derived.Test.YtlkghcfjcdeokaaDoorDkR3
import Derived.Test.YtlkghcfjcdeokaaDoorDkV
import Derived.Test.YtlkghcfjcdeokaaDoorRowK
import Derived.Test.YtlkghcfjcdeokaaDoorCards
import Derived.Test.YtlkghcfjcdeokaaDoorTie
import Derived.ChangeSame
import Derived.ChangeVars
import Derived.JoinedOf
import Derived.RowKit
import Derived.RowKitTokens
import Derived.LaidLaws
import Derived.LaidSub
import Derived.LaidMore
import Derived.ProofKit
import Derived.OpenShut
import Derived.Carry
import Derived.MakeChecks
import Derived.Stop.Joined
import Derived.Stop.LaidTwo
import Derived.SevenTiedAt
namespace Go.Proofs.YtlkghcfjcdeokaaDoor
open Go.ChangeShapes Go.WideShapes Go.ChangeAt Go.WideMaps Go.WideElems Go.RowKit

set_option maxRecDepth 100000 in
theorem diskApart_lifted (os : Os) (started : os.Started) (H : Type) (enc : TypeId × Value → H) :
    ReturnsInHanded {} Tryd.checked os 4 .any (fun w args => (Rows.diskApartSpec.pre enc Tryd.prog Tryd.f4 [] false w args ∧ laidMetH Tryd.prog Rows.diskApartRow.laid w) ∧ sizedMet enc Tryd.prog Tryd.f4 (OpenSpec.ofChange Rows.diskApartSpec) false w args)
      (Rows.diskApartSpec.post enc Tryd.prog Tryd.f4 false true false false) := by
  refine returnsInHanded_of_change_and (C := Tryd.checked) (X := (fun w _ => laidMetH Tryd.prog Rows.diskApartRow.laid w)) (fun _ _ _ hh h => h.of_heap hh) own started (by kernel_rfl) Tryd.func4
    (ChangeSpec.witness_shaped (enc := enc) (C := Tryd.checked) (os := os) (X := (fun w _ => laidMetH Tryd.prog Rows.diskApartRow.laid w)) false (World.doorLaid Tryd.prog 400 os) #[.int .i64 0, .slice none 0 0, .int .i64 0, .string ByteArray.empty, .int .i64 0] 8 rfl (World.shaped_of_RefB (by kernel_rfl) (by kernel_rfl)) (by kernel_rfl) (by kernel_rfl) (by kernel_rfl) (door_met os _)) ?_
  intro W base args ds gs before hval0 hW _ _ hL hS
  have hval : ∀ (j : Nat) t v, Tryd.f4.params[j]? = some t → args[j]? = some v → Value.okWide Tryd.prog W .any base t v := hval0
  have hW' := hW
  obtain ⟨p, q, hA0, hV, rfl, hfz, hnd⟩ := hW
  have hA : DataW.TrodAll enc Tryd.prog W 0 (fun _ => true) true Tryd.f4.params.toList args.toList ds p := hA0
  have hlt : ∀ x ∈ p, x.block < W.heap.size := fun x hx => hW'.lt x (List.mem_append_left _ hx)
  obtain ⟨pp, hA', hlt'⟩ : ∃ pp, DataW.TrodAll enc Tryd.prog W 0 (fun _ => true) true Tryd.f4.params.toList args.toList ds pp ∧ ∀ x ∈ pp, x.block < W.heap.size := ⟨p, hA, hlt⟩
  rw [Tryd.params4] at hA hval
  obtain ⟨v0, v1, v2, v3, v4, d0, d1, d2, d3, d4, p0, p1, p2, p3, p4, rfl, rfl, rfl, h0, h1, h2, h3, h4⟩ := trodAll_five hA
  obtain ⟨rfl, rfl⟩ := trodVars_none hV
  obtain ⟨x0, rfl, rfl, rfl, hx0⟩ := open_int Tryd.underlying3 (hval 0 _ _ rfl rfl) h0
  have hb0 := i64_bounds hx0
  obtain ⟨A1, n1, c1, rfl⟩ := okWide_slice Tryd.underlying22 (hval 1 _ _ rfl rfl)
  obtain ⟨T1, u10, u11, u12⟩ := open_ops h1 (min n1 40) (Nat.min_le_left _ _)
  obtain ⟨x2, rfl, rfl, rfl, hx2⟩ := open_int Tryd.underlying3 (hval 2 _ _ rfl rfl) h2
  have hb2 := i64_bounds hx2
  obtain ⟨x3, rfl, rfl, rfl, hx3⟩ := Go.ChangeMaps.open_string Tryd.underlying9 (hval 3 _ _ rfl rfl) h3
  have hb3 := str_bounds hx3
  obtain ⟨x4, rfl, rfl, rfl, hx4⟩ := open_int Tryd.underlying3 (hval 4 _ _ rfl rfl) h4
  have hb4 := i64_bounds hx4
  obtain ⟨aN, aW, aS, hI⟩ := inv_of_laid hL
  have e1 : Rows.diskApartSpec.fn H ([.lit (.int .i64 x0), d1, .lit (.int .i64 x2), .lit (.string x3.data.toList), .lit (.int .i64 x4)] ++ []) = { results := [.lit (.bool true)], args := [.lit (.int .i64 x0), d1, .lit (.int .i64 x2), .lit (.string x3.data.toList), .lit (.int .i64 x4)] } := by first | rfl | simp [Rows.diskApartSpec]
  refine (DiskApart_any x0 A1 n1 c1 T1 x2 x3 x4 hb3 hI (ops_at u10 u11 u12)).mono ?_
  rintro e W' ⟨rfl, hb⟩
  refine ⟨_, rfl, _, _, _, [], pp, [], hW', ?_, ?_, ?_, hb.frame _, fun h => by cases h⟩
  · rw [e1]; exact trodAll_mk1 (shut_bool Tryd.underlying4 true)
  · rw [e1]; exact trodAll_stays laidOut hb _ _ _ _ (by kernel_rfl) hA' hlt'
  · rw [e1]; rfl

theorem diskApart_holds : Rows.DiskApartSaid :=
  OpenClaim.holds_of_wide 4 Tryd.f4 rfl rfl rfl rfl rfl rfl rfl ⟨rfl, rfl, rfl, rfl, rfl⟩ rfl rfl rfl rfl rfl (by kernel_rfl) Tryd.func4 (by kernel_rfl)
    (of_decide_eq_true (by kernel_rfl)) (by unfold Func.isWrapper; first | (rw [if_pos (by decide +kernel)]; kernel_rfl) | (rw [if_neg (by decide +kernel)]; exact ⟨rfl, rfl⟩))
    (fun os started H enc _ => diskApart_lifted os started H enc)

theorem diskApart_card : Rows.DiskApartCardSaid :=
  Claim7.holds_tied_plain_at .later [] [.handle, .sentinel, .sentinel, .sentinel] true (true, "73b3d7690105eb2df5315d10b3956f62cc0ba254103307a7d0b7d62391a2a9a9") true
    diskApart_holds (fun _ h => by cases h) (by kernel_rfl) (fun _ h => by cases h) diskApart_row_tie rfl ⟨rfl, rfl⟩ (by kernel_rfl) rfl
    (fun f fn hf hfn => by
      obtain rfl : f = 4 := Option.some.inj ((show Tryd.prog.funcNamed "postrider/postriderlaw18.DiskApart" = some 4 by kernel_rfl).symm.trans hf) |>.symm
      obtain rfl : fn = Tryd.f4 := (Option.some.inj (Tryd.func4.symm.trans hfn)).symm
      exact ⟨by kernel_rfl, fun j t ht => by
        rw [Tryd.params4] at ht
        have hm : t ∈ [3, 22, 3, 9, 3] := by simpa using Array.mem_of_getElem? ht
        have hall : ([3, 22, 3, 9, 3].all fun u => !Tryd.prog.wantsStandIn u) = true := by kernel_rfl
        exact (show Tryd.prog.wantsStandIn t = false by simpa using List.all_eq_true.1 hall t hm)⟩)
    (by kernel_rfl)

end Go.Proofs.YtlkghcfjcdeokaaDoor
