/-
  The statement QueueOpens of chapter 19: as its row, and as its card (tied to the text of the program). Conditions: those that the given statement names.
-/
import Derived.Test.YtmebjdbkngehiaaGreatDoorQxV
import Derived.Test.YtmebjdbkngehiaaGreatDoorQgA
import Derived.Test.YtmebjdbkngehiaaGreatDoorCards
import Derived.Test.YtmebjdbkngehiaaGreatDoorTie
import Derived.ChangeSame
import Derived.ChangeVars
import Derived.JoinedOf
import Derived.RowKit
import Derived.RowKitTokens
import Derived.LaidLaws
import Derived.LaidSub
import Derived.LaidMore
import Derived.ProofKit
import Derived.OpenShut
import Derived.Carry
import Derived.MakeChecks
import Derived.Stop.Joined
import Derived.Stop.LaidTwo
import Derived.SevenTiedAt
import Derived.Test.YtmebjdbkngehiaaGreatDoorQhN
import Derived.Deep.Slices
import Derived.Deep.Strs
import Derived.Test.YtmebjdbkngehiaaGreatDoorQhG
import Derived.ChangeSlices
namespace Go.Proofs.YtmebjdbkngehiaaGreatDoor
open Go.ChangeShapes Go.WideShapes Go.RowKit
variable {H : Type} {W : World} {base fuel : Nat} {sp : Nat → Bool} {cs : List Value} {p : List MemPlace}
theorem i64_bounds {n : Int} (h : (Lit.int .i64 n).wf = true) : -9223372036854775808 ≤ n ∧ n ≤ 9223372036854775807 := by
 have h1 : (decide (IntKind.i64.min ≤ n) && decide (n ≤ IntKind.i64.max)) = true:=h
 rw [Bool.and_eq_true,decide_eq_true_eq,decide_eq_true_eq,show IntKind.i64.min = -9223372036854775808 by decide,show IntKind.i64.max = 9223372036854775807 by decide] at h1
 exact h1
theorem str_bounds {s : ByteArray} (h : s.size ≤ maxLen) : s.size ≤ 9223372036854775807 := Nat.le_trans h (by decide)
theorem add_pos (b : Addr) (j : Nat) (h : 0 < j) : b.add j = ⟨b.block,b.off + j,none⟩ := by
 unfold Addr.add
 rw [if_neg (by omega)]
theorem add_nil (b : Addr) : b.add 0 = b := by
 unfold Addr.add
 rw [if_pos rfl]
theorem ent_size : Tryz.prog.cellsOf 23 = 7 := by kernel_rfl
theorem opc_size : Tryz.prog.cellsOf 25 = 10 := by kernel_rfl
set_option maxRecDepth 100000 in
theorem cells_ent {enc : TypeId × Value → H} {x : DataW H × List MemPlace} (h : DataW.trod enc Tryz.prog W base sp true fuel 23 cs = some x) :
  ∃ e : EI,cs = e.cs ∧ e.key.size ≤ 9223372036854775807 ∧ e.data.size ≤ 9223372036854775807:=by
 obtain ⟨xs,n,-,-,hl,hlen,hf⟩:=DataW.trod_struct Tryz.underlying23 h
 rw [ent_size] at hl
 match xs,hlen,cs,hl with
 | [y0,y1,y2,y3,y4,y5,y6],_,[c0,c1,c2,c3,c4,c5,c6],_ =>
  have h0:=hf 0 _ rfl;have h1:=hf 1 _ rfl;have h2:=hf 2 _ rfl;have h3:=hf 3 _ rfl;have h4:=hf 4 _ rfl;have h5:=hf 5 _ rfl;have h6:=hf 6 _ rfl;clear hf;simp only [List.getElem?_cons_zero,List.getElem?_cons_succ] at h0 h1 h2 h3 h4 h5 h6;obtain ⟨v0,g0,-,-⟩:=DataW.trod_int Tryz.underlying3 h0;obtain ⟨v1,g1,-,-⟩:=DataW.trod_int Tryz.underlying3 h1;obtain ⟨v2,g2,-,b2⟩:=DataW.trod_string Tryz.underlying9 h2;obtain ⟨v3,g3,-,b3⟩:=DataW.trod_string Tryz.underlying9 h3;obtain ⟨v4,g4,-,-⟩:=DataW.trod_int Tryz.underlying3 h4;obtain ⟨v5,g5,-⟩:=DataW.trod_bool Tryz.underlying4 h5;obtain ⟨v6,g6,-⟩:=DataW.trod_bool Tryz.underlying4 h6;injection g0 with g0
  injection g1 with g1
  injection g2 with g2
  injection g3 with g3
  injection g4 with g4
  injection g5 with g5
  injection g6 with g6
  exact ⟨⟨v0,v1,v2,v3,v4,v5,v6⟩,by rw [g0,g1,g2,g3,g4,g5,g6];rfl,str_bounds b2,str_bounds b3⟩
set_option maxRecDepth 100000 in
theorem cells_opc {enc : TypeId × Value → H} {x : DataW H × List MemPlace} (h : DataW.trod enc Tryz.prog W base sp true fuel 25 cs = some x) :
  ∃ r : QO,cs = r.cs ∧ r.In:=by
 obtain ⟨xs,n,-,-,hl,hlen,hf⟩:=DataW.trod_struct Tryz.underlying25 h
 rw [opc_size] at hl
 match xs,hlen,cs,hl with
 | [y0,y1,y2,y3],_,[c0,c1,c2,c3,c4,c5,c6,c7,c8,c9],_ =>
  have h0:=hf 0 _ rfl;have h1:=hf 1 _ rfl;have h2:=hf 2 _ rfl;have h3:=hf 3 _ rfl;clear hf;simp only [List.getElem?_cons_zero,List.getElem?_cons_succ] at h0 h1 h2 h3;obtain ⟨v0,g0,-,-⟩:=DataW.trod_int Tryz.underlying3 h0;obtain ⟨v1,g1,-,b1⟩:=DataW.trod_int Tryz.underlying3 h1;obtain ⟨v2,g2,-,-⟩:=DataW.trod_int Tryz.underlying3 h2;obtain ⟨e,g3,k1,k2⟩:=cells_ent h3;have g3 : [c3,c4,c5,c6,c7,c8,c9] = e.cs:=g3;injection g0 with g0
  injection g1 with g1
  injection g2 with g2
  exact ⟨⟨v0,v1,v2,e⟩,by rw [g0,g1,g2];exact congrArg (fun l => Value.int .i64 v0 :: Value.int .i64 v1 :: Value.int .i64 v2 :: l) g3,k1,k2,(i64_bounds b1).2⟩
set_option maxRecDepth 100000 in
theorem open_opc {enc : TypeId × Value → H} {v : Value} {d : DataW H} (hv : Value.okWide Tryz.prog W .any base 25 v) (h : DataW.Trod enc Tryz.prog W 0 (fun _ => true) true 25 v d p) :
  ∃ r : QO,v = r.val ∧ r.In:=by
 obtain ⟨fuel,hf⟩:=h
 obtain ⟨cs,rfl,-⟩:=okWide_struct Tryz.underlying25 hv
 obtain ⟨r,g,k⟩:=cells_opc hf
 refine ⟨r,?_,k⟩
 have : cs.toList = r.cs:=by simpa [Value.cells] using g
 rw [← Array.toArray_toList (xs:=cs),this]
 rfl
set_option maxRecDepth 100000 in
theorem open_opcs {enc : TypeId × Value → H} {A : Option Addr} {len cap : Nat} {d : DataW H} (h : DataW.Trod enc Tryz.prog W 0 (fun _ => true) true 27 (.slice A len cap) d p) (k : Nat) (hk : k ≤ len) :
  ∃ T : List QO,T.length = k ∧ RdC W A T ∧ ∀ x ∈ T,x.In:=by
 obtain ⟨fuel,hf⟩:=h
 rcases Go.Deep.open_slice Tryz.underlying27 hf with ⟨hcs,-⟩ | ⟨a,len',cap',m,n,D,Pl,hcs,-,hl,hm,hmm,-,hx⟩
 ·simp [Value.cells] at hcs
  obtain ⟨rfl,rfl,rfl⟩:=hcs;obtain rfl : k = 0:=by omega
  exact ⟨[],rfl,fun hh => absurd hh (by simp),fun x hx => by cases hx⟩
 ·simp [Value.cells] at hcs
  obtain ⟨rfl,rfl,rfl⟩:=hcs;rw [opc_size] at hx;have hm' : m = cap:=by simpa using hmm
  have each : ∀ i,i < k → ∃ r : QO,OpAt W (a.add (i * 10)) r ∧ r.In:=by
   intro i hi;obtain ⟨cs',h1,h2⟩:=hx i (by omega);obtain ⟨-,-,hcell⟩:=World.cells?_some h1;obtain ⟨r,rfl,hb⟩:=cells_opc h2;have e0:=hcell 0 (by omega);have e1:=hcell 1 (by omega);have e2:=hcell 2 (by omega);have e3:=hcell 3 (by omega);have e4:=hcell 4 (by omega);have e5:=hcell 5 (by omega);have e6:=hcell 6 (by omega);have e7:=hcell 7 (by omega);have e8:=hcell 8 (by omega);have e9:=hcell 9 (by omega);rw [add_nil] at e0;rw [add_pos _ _ (by omega)] at e1 e2 e3 e4 e5 e6 e7 e8 e9;exact ⟨r,⟨e0,e1,e2,e3,e4,e5,e6,e7,e8,e9⟩,hb⟩
  have pick : ∀ n,n ≤ k → ∃ T : List QO,T.length = n ∧ (∀ (i : Nat) (hi : i < T.length),OpAt W (a.add (i * 10)) T[i]) ∧ ∀ x ∈ T,x.In:=by
   intro n
   induction n with
   | zero => exact fun _ => ⟨[],rfl,fun i hi => absurd hi (by simp),fun x hx => by cases hx⟩
   | succ n ih =>
    intro hn;obtain ⟨T,h1,h2,h3⟩:=ih (by omega);obtain ⟨r,g1,g2⟩:=each n (by omega);refine ⟨T ++ [r],by simp [h1],fun i hi => ?_,fun x hx => ?_⟩
    ·by_cases hin : i < T.length
     ·rw [List.getElem_append_left hin]
      exact h2 i hin
     ·obtain rfl : i = n:=by simp at hi;omega
      subst h1
      simpa using g1
    ·rcases List.mem_append.1 hx with hx | hx
     ·exact h3 x hx
     ·rw [List.mem_singleton.1 hx];exact g2
  obtain ⟨T,h1,h2,h3⟩:=pick k (Nat.le_refl _);refine ⟨T,h1,fun hp => ?_,h3⟩;have c0:=(h2 0 hp).1;rw [show (0 : Nat) * 10 = 0 from rfl,add_nil] at c0;exact ⟨a,rfl,World.block_lt_of_cell? W _ c0,h2⟩
end Go.Proofs.YtmebjdbkngehiaaGreatDoor
namespace Go.Proofs.YtmebjdbkngehiaaGreatDoor
open Go.ChangeShapes Go.WideShapes Go.ChangeAt Go.WideMaps Go.WideElems Go.RowKit
variable {W : World}
theorem own : ownKnob Tryz.prog.godebug = none := by kernel_rfl
section
variable {H : Type} {enc : TypeId × Value → H} {P : Program} {w : World} {base : Nat} {spare : Nat → Bool} {held : Bool}
end
def bare : List (String × DataW Unit) := Rows.queueNewRow.laid.filter fun x => x.2.handleName?.isNone
theorem bare_of_laid (h : laidMetH Tryz.prog Rows.queueNewRow.laid W) : laidMetH Tryz.prog bare W := by
 rw [MakeChecks.laidMetH_plain _ _ _ (by kernel_rfl)]
 exact (laidMetH_iff.1 h).1
theorem errs_of_laid (h : laidMetH Tryz.prog Rows.queueNewRow.laid W) : ∃ av : List Addr,av.length = 5 ∧ av.Nodup ∧ ∀ g a,(g,a) ∈ [2,3,1,4,5].zip av → W.cell? ⟨g,0,none⟩ = some (ErrV a) ∧ Plain W a := by
 obtain ⟨av, h1, h2, h3⟩ := sent_of_laid_among (W := W) (fun x => x.1 != "postrider/crc.kinds") [("postrider/nums.errWidth", 2, [110, 111, 32, 119, 105, 100, 116, 104]), ("postrider/nums.errNum", 3, [110, 111, 32, 110, 117, 109, 98, 101, 114]), ("postrider/nums.errShort", 1, [116, 111, 111, 32, 115, 104, 111, 114, 116]), ("postrider/crc.errArg", 4, [110, 111, 32, 107, 105, 110, 100]), ("postrider/crc.errTable", 5, [110, 111, 32, 116, 97, 98, 108, 101])]
  bare rfl (by kernel_rfl) (bare_of_laid h) (List.forall_mem_cons.2 ⟨⟨by kernel_rfl,by kernel_rfl⟩,List.forall_mem_cons.2 ⟨⟨by kernel_rfl,by kernel_rfl⟩,List.forall_mem_cons.2 ⟨⟨by kernel_rfl,by kernel_rfl⟩,List.forall_mem_cons.2 ⟨⟨by kernel_rfl,by kernel_rfl⟩,List.forall_mem_cons.2 ⟨⟨by kernel_rfl,by kernel_rfl⟩,fun _ h => by cases h⟩⟩⟩⟩⟩)
 exact ⟨av,h1,h2,h3⟩
theorem name_error : (List.range Tryz.prog.types.size).all (fun t => !(Tryz.prog.rowNamed t [101,114,114,111,114]) || t == 95) = true := by kernel_rfl
theorem handle_of_laid (h : laidMetH Tryz.prog Rows.queueNewRow.laid W) : SInv W := by
 have h:=(laidMetH_iff.1 h).2
 have h1 := h ("errors.errorType", Rows.laid_errors_errorType) (List.mem_filter.2 ⟨by simp [Rows.queueNewRow], by kernel_rfl⟩)
 obtain ⟨name, u, ty, h2, h3, h4, h5, h6⟩ := (show ∃ name u ty, (Rows.laid_errors_errorType : DataW Unit).handleName? = some name ∧ (Tryz.prog.cutTypes.find? (·.1 == "internal/reflectlite.rtype")).map (·.2) = some u ∧ ty < Tryz.prog.types.size ∧ Tryz.prog.rowNamed ty name = true ∧
   W.var? Tryz.prog "errors.errorType" = some #[.iface u (.agg #[typeHandle Tryz.prog ty])] from h1)
 have h7 : (Rows.laid_errors_errorType : DataW Unit).handleName? = some [101,114,114,111,114]:=by kernel_rfl
 obtain rfl:=Option.some.inj (h7.symm.trans h2)
 have h8 : (Tryz.prog.cutTypes.find? (·.1 == "internal/reflectlite.rtype")).map (·.2) = some 224 := by kernel_rfl
 obtain rfl:=Option.some.inj (h8.symm.trans h3)
 have h9:=List.all_eq_true.1 name_error ty (List.mem_range.2 h4)
 rw [h5] at h9
 obtain rfl : ty = 95:=by simpa using h9
 have hg : Tryz.prog.globalNamed "errors.errorType" = some 0 := by kernel_rfl
 have h10:=World.var?_cell hg h6 0
 unfold SInv
 rw [h10]
 rfl
theorem inv_of_laid (h : laidMetH Tryz.prog Rows.queueNewRow.laid W) : ∃ aA aT aN aW aS,GInv W aA aT aN aW aS := by
 obtain ⟨av,h1,h2,h3⟩:=errs_of_laid h
 have hS:=handle_of_laid h
 have hk := rows_of_laid (P := Tryz.prog) (name := "postrider/crc.kinds") (rows := [[0, 0], [1, 2], [2, 4]]) (g := 6) rfl (by kernel_rfl) (bare_of_laid h) (by kernel_rfl) (by kernel_rfl) Tryz.underlying278 Tryz.underlying277 (by kernel_rfl) (by kernel_rfl)
 have hc : Tryz.prog.cellsOf 277 = 2:=by kernel_rfl
 rw [hc] at hk
 match av,h1,h2,h3 with
 | [aW,aN,aS,aA,aT],_,h2,h3 =>
  have cW:=h3 2 aW (by simp);have cN:=h3 3 aN (by simp);have cS:=h3 1 aS (by simp);have cA:=h3 4 aA (by simp);have cT:=h3 5 aT (by simp);simp only [List.nodup_cons,List.mem_cons,List.not_mem_nil,or_false,not_or] at h2;have hN : NInv W aN aW aS:=⟨cN.1,cW.1,cS.1,cN.2,cW.2,cS.2,fun e => h2.1.1 e.symm,h2.2.1.1,h2.1.2.1⟩
  exact ⟨aA,aT,aN,aW,aS,⟨hS,hN⟩,⟨cA.1,cT.1,hk 0 0 _ _ rfl rfl (by decide),hk 0 1 _ _ rfl rfl (by decide),hk 1 0 _ _ rfl rfl (by decide),hk 1 1 _ _ rfl rfl (by decide),hk 2 0 _ _ rfl rfl (by decide),hk 2 1 _ _ rfl rfl (by decide),
   cA.2,cT.2,h2.2.2.2.1,hN⟩⟩
theorem door_met (os : Os) (args : Array Value) : laidMetH Tryz.prog Rows.queueNewRow.laid ((World.doorLaid Tryz.prog 400 os).forCall (fun _ _ => 0) ⟨#[],args,[]⟩).memory :=
 laidMetH_of_parts3 (fuel:=8) (laidMet_of_run' 8 (by kernel_rfl) (by kernel_rfl)) (by kernel_rfl) (by kernel_rfl)
end Go.Proofs.YtmebjdbkngehiaaGreatDoor
namespace Go.Proofs.YtmebjdbkngehiaaGreatDoor
open Go.ChangeShapes Go.WideShapes Go.ChangeAt Go.WideMaps Go.WideElems Go.RowKit
set_option maxRecDepth 100000 in
theorem queueOpens_lifted (os : Os) (started : os.Started) (H : Type) (enc : TypeId × Value → H) :
  ReturnsInHanded {} Tryz.checked os 3 .any (fun w args => (Rows.queueOpensSpec.pre enc Tryz.prog Tryz.f3 [] false w args ∧ laidMetH Tryz.prog Rows.queueOpensRow.laid w) ∧ sizedMet enc Tryz.prog Tryz.f3 (OpenSpec.ofChange Rows.queueOpensSpec) false w args)
   (Rows.queueOpensSpec.post enc Tryz.prog Tryz.f3 false true false false):=by
 refine returnsInHanded_of_change_and (C:=Tryz.checked) (X:=(fun w _ => laidMetH Tryz.prog Rows.queueOpensRow.laid w)) (fun _ _ _ hh h => h.of_heap hh) own started (by kernel_rfl) Tryz.func3
  (ChangeSpec.witness_shaped (enc:=enc) (C:=Tryz.checked) (os:=os) (X:=(fun w _ => laidMetH Tryz.prog Rows.queueOpensRow.laid w)) false (World.doorLaid Tryz.prog 400 os) #[.int .i64 0,.string ByteArray.empty,.int .i64 0,.agg #[.int .i64 0,.int .i64 0,.int .i64 0,.int .i64 0,.int .i64 0,.string ByteArray.empty,.string ByteArray.empty,.int .i64 0,.bool false,.bool false]] 8 rfl (World.shaped_of_RefB (by kernel_rfl) (by kernel_rfl)) (by kernel_rfl) (by kernel_rfl) (by kernel_rfl) (door_met os _)) ?_
 intro W base args ds gs before hval0 hW _ _ hL hS
 have hval : ∀ (j : Nat) t v,Tryz.f3.params[j]? = some t → args[j]? = some v → Value.okWide Tryz.prog W .any base t v:=hval0
 have hW':=hW
 obtain ⟨p,q,hA0,hV,rfl,hfz,hnd⟩:=hW
 have hA : DataW.TrodAll enc Tryz.prog W 0 (fun _ => true) true Tryz.f3.params.toList args.toList ds p:=hA0
 have hlt : ∀ x ∈ p,x.block < W.heap.size:=fun x hx => hW'.lt x (List.mem_append_left _ hx)
 obtain ⟨pp,hA',hlt'⟩ : ∃ pp,DataW.TrodAll enc Tryz.prog W 0 (fun _ => true) true Tryz.f3.params.toList args.toList ds pp ∧ ∀ x ∈ pp,x.block < W.heap.size:=⟨p,hA,hlt⟩
 rw [Tryz.params3] at hA hval
 obtain ⟨v0,v1,v2,v3,d0,d1,d2,d3,p0,p1,p2,p3,rfl,rfl,rfl,h0,h1,h2,h3⟩:=trodAll_four hA
 obtain ⟨rfl,rfl⟩:=trodVars_none hV
 obtain ⟨x0,rfl,rfl,rfl,hx0⟩:=open_int Tryz.underlying3 (hval 0 _ _ rfl rfl) h0
 have hb0:=i64_bounds hx0
 obtain ⟨x1,rfl,rfl,rfl,hx1⟩:=Go.ChangeMaps.open_string Tryz.underlying9 (hval 1 _ _ rfl rfl) h1
 have hb1 : x1.size ≤ 9223372036854775807:=Nat.le_trans hx1 (by decide)
 obtain ⟨x2,rfl,rfl,rfl,hx2⟩:=open_int Tryz.underlying3 (hval 2 _ _ rfl rfl) h2
 have hb2:=i64_bounds hx2
 obtain ⟨X3,rfl,i3⟩:=open_opc (hval 3 _ _ rfl rfl) h3
 obtain ⟨aA,aT,aN,aW,aS,hI⟩:=inv_of_laid hL
 have e1 : Rows.queueOpensSpec.fn H ([.lit (.int .i64 x0),.lit (.string x1.data.toList),.lit (.int .i64 x2),d3] ++ []) = { results:=[.lit (.bool true)],args:=[.lit (.int .i64 x0),.lit (.string x1.data.toList),.lit (.int .i64 x2),d3] }:=by first | rfl | simp [Rows.queueOpensSpec]
 refine (law_opens hI x0 x1 hb1 x2 X3 i3).mono ?_
 rintro e W' ⟨rfl,hb⟩
 refine ⟨_,rfl,_,_,_,[],pp,[],hW',?_,?_,?_,hb.frame _,fun h => by cases h⟩
 ·rw [e1];exact trodAll_mk1 (shut_bool Tryz.underlying4 true)
 ·rw [e1];exact trodAll_stays laidOut hb _ _ _ _ (by kernel_rfl) hA' hlt'
 ·rw [e1];rfl
theorem queueOpens_holds : Rows.QueueOpensSaid :=
 OpenClaim.holds_of_wide 3 Tryz.f3 rfl rfl rfl rfl rfl rfl rfl ⟨rfl,rfl,rfl,rfl,rfl⟩ rfl rfl rfl rfl rfl (by kernel_rfl) Tryz.func3 (by kernel_rfl)
  (of_decide_eq_true (by kernel_rfl)) (by unfold Func.isWrapper;first | (rw [if_pos (by decide +kernel)];kernel_rfl) | (rw [if_neg (by decide +kernel)];exact ⟨rfl,rfl⟩))
  (fun os started H enc _ => queueOpens_lifted os started H enc)
theorem queueOpens_card : Rows.QueueOpensCardSaid :=
 Claim7.holds_tied_plain_at .later [] [.handle, .sentinel, .sentinel, .sentinel, .sentinel, .sentinel, .data] true (true, "44eaa9d49f126ceb00f013d3bff1940128bd92d4630ec90ed063e98664f8bd12") true
  queueOpens_holds (fun _ h => by cases h) (by kernel_rfl) (fun _ h => by cases h) queueOpens_row_tie rfl ⟨rfl,rfl⟩ (by kernel_rfl) rfl
  (fun f fn hf hfn => by
   obtain rfl : f = 3 := Option.some.inj ((show Tryz.prog.funcNamed "postrider/postriderlaw19.QueueOpens" = some 3 by kernel_rfl).symm.trans hf) |>.symm
   obtain rfl : fn = Tryz.f3:=(Option.some.inj (Tryz.func3.symm.trans hfn)).symm;exact ⟨by kernel_rfl,fun j t ht => by
    rw [Tryz.params3] at ht;have hm : t ∈ [3,9,3,25]:=by simpa using Array.mem_of_getElem? ht
    have hall : ([3,9,3,25].all fun u => !Tryz.prog.wantsStandIn u) = true:=by kernel_rfl
    exact (show Tryz.prog.wantsStandIn t = false by simpa using List.all_eq_true.1 hall t hm)⟩)
  (by kernel_rfl)
end Go.Proofs.YtmebjdbkngehiaaGreatDoor
