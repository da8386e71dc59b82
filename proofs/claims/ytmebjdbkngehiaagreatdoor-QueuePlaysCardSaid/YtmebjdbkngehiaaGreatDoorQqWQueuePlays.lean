/-
  The statement QueuePlays of chapter 19: as its row, and as its card (tied to the text of the program). Conditions: those that the given statement names.
-/
import Derived.Test.YtmebjdbkngehiaaGreatDoorQxU
import Derived.Test.YtmebjdbkngehiaaGreatDoorQhR
import Derived.Test.YtmebjdbkngehiaaGreatDoorQgA
import Derived.Test.YtmebjdbkngehiaaGreatDoorCards
import Derived.Test.YtmebjdbkngehiaaGreatDoorTie
import Derived.ChangeSame
import Derived.ChangeVars
import Derived.JoinedOf
import Derived.RowKit
import Derived.RowKitTokens
import Derived.LaidLaws
import Derived.LaidSub
import Derived.LaidMore
import Derived.ProofKit
import Derived.OpenShut
import Derived.Carry
import Derived.MakeChecks
import Derived.Stop.Joined
import Derived.Stop.LaidTwo
import Derived.SevenTiedAt
namespace Go.Proofs.YtmebjdbkngehiaaGreatDoor
open Go.ChangeShapes Go.WideShapes Go.ChangeAt Go.WideMaps Go.WideElems Go.RowKit
set_option maxRecDepth 100000 in
theorem queuePlays_lifted (os : Os) (started : os.Started) (H : Type) (enc : TypeId × Value → H) :
  ReturnsInHanded {} Tryz.checked os 12 .any (fun w args => (Rows.queuePlaysSpec.pre enc Tryz.prog Tryz.f12 [] false w args ∧ laidMetH Tryz.prog Rows.queuePlaysRow.laid w) ∧ sizedMet enc Tryz.prog Tryz.f12 (OpenSpec.ofChange Rows.queuePlaysSpec) false w args)
   (Rows.queuePlaysSpec.post enc Tryz.prog Tryz.f12 false true false false):=by
 refine returnsInHanded_of_change_and (C:=Tryz.checked) (X:=(fun w _ => laidMetH Tryz.prog Rows.queuePlaysRow.laid w)) (fun _ _ _ hh h => h.of_heap hh) own started (by kernel_rfl) Tryz.func12
  (ChangeSpec.witness_shaped (enc:=enc) (C:=Tryz.checked) (os:=os) (X:=(fun w _ => laidMetH Tryz.prog Rows.queuePlaysRow.laid w)) false (World.doorLaid Tryz.prog 400 os) #[.int .i64 0,.slice none 0 0] 8 rfl (World.shaped_of_RefB (by kernel_rfl) (by kernel_rfl)) (by kernel_rfl) (by kernel_rfl) (by kernel_rfl) (door_met os _)) ?_
 intro W base args ds gs before hval0 hW _ _ hL hS
 have hval : ∀ (j : Nat) t v,Tryz.f12.params[j]? = some t → args[j]? = some v → Value.okWide Tryz.prog W .any base t v:=hval0
 have hW':=hW
 obtain ⟨p,q,hA0,hV,rfl,hfz,hnd⟩:=hW
 have hA : DataW.TrodAll enc Tryz.prog W 0 (fun _ => true) true Tryz.f12.params.toList args.toList ds p:=hA0
 have hlt : ∀ x ∈ p,x.block < W.heap.size:=fun x hx => hW'.lt x (List.mem_append_left _ hx)
 obtain ⟨pp,hA',hlt'⟩ : ∃ pp,DataW.TrodAll enc Tryz.prog W 0 (fun _ => true) true Tryz.f12.params.toList args.toList ds pp ∧ ∀ x ∈ pp,x.block < W.heap.size:=⟨p,hA,hlt⟩
 rw [Tryz.params12] at hA hval
 obtain ⟨v0,v1,d0,d1,p0,p1,rfl,rfl,rfl,h0,h1⟩:=trodAll_two hA
 obtain ⟨rfl,rfl⟩:=trodVars_none hV
 obtain ⟨x0,rfl,rfl,rfl,hx0⟩:=open_int Tryz.underlying3 (hval 0 _ _ rfl rfl) h0
 have hb0:=i64_bounds hx0
 obtain ⟨A1,n1,c1,rfl⟩:=okWide_slice Tryz.underlying27 (hval 1 _ _ rfl rfl)
 obtain ⟨T1,u10,u11,u12⟩:=open_opcs h1 (min n1 30) (Nat.min_le_left _ _)
 obtain ⟨aA,aT,aN,aW,aS,hI⟩:=inv_of_laid hL
 have e1 : Rows.queuePlaysSpec.fn H ([.lit (.int .i64 x0),d1] ++ []) = { results:=[.lit (.bool true)],args:=[.lit (.int .i64 x0),d1] }:=by first | rfl | simp [Rows.queuePlaysSpec]
 refine (law_plays hI x0 A1 n1 c1 T1 ⟨u10,u11,u12⟩).mono ?_
 rintro e W' ⟨rfl,hb⟩
 refine ⟨_,rfl,_,_,_,[],pp,[],hW',?_,?_,?_,hb.frame _,fun h => by cases h⟩
 ·rw [e1];exact trodAll_mk1 (shut_bool Tryz.underlying4 true)
 ·rw [e1];exact trodAll_stays laidOut hb _ _ _ _ (by kernel_rfl) hA' hlt'
 ·rw [e1];rfl
theorem queuePlays_holds : Rows.QueuePlaysSaid :=
 OpenClaim.holds_of_wide 12 Tryz.f12 rfl rfl rfl rfl rfl rfl rfl ⟨rfl,rfl,rfl,rfl,rfl⟩ rfl rfl rfl rfl rfl (by kernel_rfl) Tryz.func12 (by kernel_rfl)
  (of_decide_eq_true (by kernel_rfl)) (by unfold Func.isWrapper;first | (rw [if_pos (by decide +kernel)];kernel_rfl) | (rw [if_neg (by decide +kernel)];exact ⟨rfl,rfl⟩))
  (fun os started H enc _ => queuePlays_lifted os started H enc)
theorem queuePlays_card : Rows.QueuePlaysCardSaid :=
 Claim7.holds_tied_plain_at .later [] [.handle, .sentinel, .sentinel, .sentinel, .sentinel, .sentinel, .data] true (true, "44eaa9d49f126ceb00f013d3bff1940128bd92d4630ec90ed063e98664f8bd12") true
  queuePlays_holds (fun _ h => by cases h) (by kernel_rfl) (fun _ h => by cases h) queuePlays_row_tie rfl ⟨rfl,rfl⟩ (by kernel_rfl) rfl
  (fun f fn hf hfn => by
   obtain rfl : f = 12 := Option.some.inj ((show Tryz.prog.funcNamed "postrider/postriderlaw19.QueuePlays" = some 12 by kernel_rfl).symm.trans hf) |>.symm
   obtain rfl : fn = Tryz.f12:=(Option.some.inj (Tryz.func12.symm.trans hfn)).symm;exact ⟨by kernel_rfl,fun j t ht => by
    rw [Tryz.params12] at ht;have hm : t ∈ [3,27]:=by simpa using Array.mem_of_getElem? ht
    have hall : ([3,27].all fun u => !Tryz.prog.wantsStandIn u) = true:=by kernel_rfl
    exact (show Tryz.prog.wantsStandIn t = false by simpa using List.all_eq_true.1 hall t hm)⟩)
  (by kernel_rfl)
end Go.Proofs.YtmebjdbkngehiaaGreatDoor
