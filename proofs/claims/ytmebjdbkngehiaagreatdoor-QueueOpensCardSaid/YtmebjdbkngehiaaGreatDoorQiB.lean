/-
  The document's Snapshot. Condition: the state is one that is sound. The document's Keys. Condition: the state is one that is sound. The document's queue in memory. Conditions: as the theorems' own hypotheses say.
-/
import Derived.Test.YtmebjdbkngehiaaGreatDoorQiA
import Derived.Test.YtmebjdbkngehiaaGreatDoorQhF
import Derived.Test.YtmebjdbkngehiaaGreatDoorQgA
import Derived.Lib.SlBuf
import Derived.Test.YtmebjdbkngehiaaGreatDoorQhH
import Derived.Test.YtmebjdbkngehiaaGreatDoorDkX
namespace Go.Proofs.YtmebjdbkngehiaaGreatDoor
open Go.RowKit Go.Shelf
set_option maxHeartbeats 8000000
variable {P : Program} {ops : Array Oper} {o : Oper} {a : Act} {w w' : World} {Q : Exit → Act → World → Prop} {g b cL cK k p c : Nat} {AL AK : Option Addr} {s : SN} {q : QN}
theorem step_append_x {K : Act → World → Prop} {E : Prop} (R : Value → World → Prop) (hgd : o.guard = none) (s x : Operand) (t : TypeId)
  (ho : o.op = .call { callee:=.builtin .append,args:=#[s,x],argTypes:=#[t,t] }) (S X : Value) (hs : a.eval s = S) (hx : a.eval x = X) (hr : ∀ ty,∃ v w',(Builtin.append_ #[t,t] ty #[S,X]).run P w = .ok v w' ∧ R v w') (h : ∀ v w',R v w' → K (a.put o.dst v) w') :
  if Region.wanted o (yielded ops a.tmps) = true then Oper.wp P o a w K Q else E:=by
 have hw : Region.wanted o (yielded ops a.tmps) = true:=by simp [Region.wanted,hgd]
 rw [if_pos hw]
 obtain ⟨v,w',e1,e2⟩:=hr o.type
 unfold Oper.wp execOp
 simp only [ho,resolve,invoke,builtin,Sem.run_bind,Sem.run_pure,Result.andThen_ok,List.map_toArray,List.map_cons,List.map_nil,hs,hx,e1]
 exact h v w' e2
theorem wpl_append_x {rest : List Oper} (R : Value → World → Prop) (hgd : o.guard = none) (s x : Operand) (t : TypeId)
  (ho : o.op = .call { callee:=.builtin .append,args:=#[s,x],argTypes:=#[t,t] }) (S X : Value) (hs : a.eval s = S) (hx : a.eval x = X) (hr : ∀ ty,∃ v w',(Builtin.append_ #[t,t] ty #[S,X]).run P w = .ok v w' ∧ R v w') (h : ∀ v w',R v w' → wpList P ops Q rest (a.put o.dst v) w') : wpList P ops Q (o :: rest) a w :=
 wpList_plain hgd fun _ hK => by
  obtain ⟨v,w',e1,e2⟩:=hr o.type;unfold Oper.wp execOp;simp only [ho,resolve,invoke,builtin,Sem.run_bind,Sem.run_pure,Result.andThen_ok,List.map_toArray,List.map_cons,List.map_nil,hs,hx,e1];exact hK _ _ (h v w' e2)
theorem more_one {r : RI} (h : Blk w g 128 #[.int .i64 r.op,.int .i64 r.id,.string r.d]) : MoreAt w (some ⟨g,0,none⟩) 1 [r] :=
 ⟨rfl,.inr ⟨_,rfl,h.lt,fun j u hj => Blk.cells_ (ds:=[.int .i64 r.op,.int .i64 r.id,.string r.d]) h j u (by simpa [cellsQ,RI.cs] using hj)⟩⟩
theorem cellsQ_app (l m : List RI) : cellsQ (l ++ m) = cellsQ l ++ cellsQ m := by simp [cellsQ]
set_option maxRecDepth 100000 in
theorem xsnap_any (h : XS w b AL AK cL cK s) (hok : s.Ok) :
  Calls Tryz.prog 85 #[.pointer (some ⟨b,1,none⟩)] w fun e w' => ∃ V,e = .returned V ∧ w'.ownsRow w.heap.size 128 3 V s.snap.length (cellsQ s.snap) ∧ Below w.heap.size w w':=by
 have HX:=Lib.hid h
 have HOK:=Lib.hid hok
 obtain ⟨N,hN⟩ : ∃ N,s.K.length = N:=⟨_,rfl⟩
 have HN:=Lib.hid hN
 have hN60 : N ≤ 60:=by rw [← hN];exact hok.most
 clear h hok hN
 go_enter Tryz.func85,Tryz.ntmps85
 go_wp2_with fail
 go_loopw [4,3] (fun i V wr => ∃ k : Nat,k ≤ N ∧ i = .int .i64 (k : Int) ∧ wr.ownsRow w.heap.size 128 3 V ((s.K.take k).flatMap s.recs).length (cellsQ ((s.K.take k).flatMap s.recs)) ∧ Below w.heap.size w wr) (fun i _ _ => N - (intOf i).toNat)
 case atStart => exact ⟨0,Nat.zero_le _,rfl,own_nil,ext_refl _⟩
 case round =>
  obtain ⟨k,hk,rfl,hown,hb⟩:=hrel;obtain ⟨A0,c0,rfl⟩:=own_form hown;by_cases hlt : k < N
  ·have k1 : k < s.K.length:=by rw [HN.out];exact hlt
   have hlen : ((s.K.take k).flatMap s.recs).length ≤ 120:=by
    have h1 : ∀ K : List KI,(K.flatMap s.recs).length ≤ 2 * K.length:=by
     intro K
     induction K with
     | nil => simp
     | cons k l ih =>
      rw [List.flatMap_cons,List.length_append,List.length_cons];have:=recs_length s k;omega
    have:=h1 (s.K.take k);rw [List.length_take] at this;omega
   obtain ⟨g,rfl,hg,hc⟩:=HX.out.keys (by omega);obtain ⟨y0,y1⟩:=hc k k1;obtain ⟨⟨kid,ktx⟩,hkk⟩ : ∃ y,s.K[k] = y:=⟨_,rfl⟩
   rw [hkk] at y0 y1;dsimp only at y0 y1;have hstep : (s.K.take (k + 1)).flatMap s.recs = (s.K.take k).flatMap s.recs ++ s.recs ⟨kid,ktx⟩:=by
    rw [List.take_succ_eq_append_getElem k1,hkk];exact snap_snoc _ _ _
   have HST:=Lib.hid hstep;have HY:=Lib.hid (fun (W : World) (hS : Below w.heap.size w W) => (show W.cell? ⟨b,2,none⟩ = some (.slice (some ⟨g,0,none⟩) N cK) ∧ W.cell? ⟨g,k * 2,none⟩ = some (.int .i64 kid) ∧ W.cell? ⟨g,k * 2 + 1,none⟩ = some (.string ktx) from
    ⟨by rw [← HN.out];exact (hS.cell (p:=⟨b,2,none⟩) HX.out.lt).trans HX.out.k,(hS.cell (p:=⟨g,k * 2,none⟩) hg).trans y0,(hS.cell (p:=⟨g,k * 2 + 1,none⟩) hg).trans y1⟩))
   have cP:=xplace_any kid (HX.out.below hb) (by have:=HOK.out.len;omega);have i0 : (0 : Int) ≤ (k : Int):=by omega
   have i1 : (k : Int) < (N : Int):=by omega
   obtain ⟨a1,a2,a3⟩:=HY.out wr hb;generalize (s.K.take k).flatMap s.recs = rs at *;clear hc hg y0 y1 hkk hstep;go_wp2_with fail
   with_reducible refine cP.mono ?_
   rintro e w1 ⟨rfl,rfl⟩;clear cP
   cases hp : placeL s.L kid with
   | none =>
    have hz : placeZ s.L kid = -1:=by unfold placeZ;rw [hp]
    have HR:=Lib.hid (show s.recs ⟨kid,ktx⟩ = [⟨5,kid,ktx⟩] from by rw [SN.recs,find_place,hp];rfl);rw [hz];clear hz hp;go_wp2_with fail
    clear a1 a2 a3;refine wp_region_held_drew (S:=fun W => Below w.heap.size w W) (by kernel_rfl) hb.drew (fun hHeld => ?_);replace hown : World.ownsRow wr.drew _ _ _ _ _ _:=hown;generalize wr.drew = W0 at *;refine tk_ 0 27 rfl rfl ?_;refine tk_ 1 28 rfl rfl ?_;refine tk_ 2 29 rfl rfl ?_;refine tk_ 3 30 rfl rfl ?_;refine tk_ 4 31 rfl rfl ?_ (fun wx hSx => by obtain ⟨a1,a2,a3⟩:=HY.out wx hSx;go_simp;try with_reducible rfl);refine tk_ 5 32 rfl rfl ?_;refine tk_ 6 33 rfl rfl ?_;refine tk_ 7 34 rfl rfl ?_;refine tk_ 8 35 rfl rfl ?_ (fun wx hSx => by obtain ⟨a1,a2,a3⟩:=HY.out wx hSx;go_simp;try with_reducible rfl);refine tk_ 9 36 rfl rfl ?_;refine tk_ 10 37 rfl rfl ?_;refine tk_ 11 38 rfl rfl ?_;refine tk_ 12 39 rfl rfl ?_ (fun wx hSx => by obtain ⟨a1,a2,a3⟩:=HY.out wx hSx;go_simp;try with_reducible rfl);refine tk_ 13 40 rfl rfl ?_;refine tk_ 14 41 rfl rfl ?_;refine tk_ 15 42 rfl rfl ?_;refine tk_ 16 43 rfl rfl ?_ (fun wx hSx => by obtain ⟨a1,a2,a3⟩:=HY.out wx hSx;go_simp;try with_reducible rfl);refine tk_ 17 44 rfl rfl ?_;have hN:=Blk.new_ W0 128 #[.int .i64 5,.int .i64 kid,.string ktx];have hE:=ext_new W0 (.cells #[.int .i64 5,.int .i64 kid,.string ktx] 128);have hown1:=own_keep hown (fun k hk => hE.block k (own_lt hown hk));refine rdy1 18 rfl (fun K hK => ?_);go_simp;refine hK.out _ _ (hHeld.trans (hE.mono hHeld.size)) (fun hHeld => ?_);clear hK K;obtain ⟨W1,hW1⟩ : ∃ W1,W0.alloc (.cells #[.int .i64 5,.int .i64 kid,.string ktx] 128) = W1:=⟨_,rfl⟩
    rw [hW1] at hN hE hown1 hHeld ⊢;have hap : ∀ ty,∃ v w',(Builtin.append_ #[132,132] ty #[.slice A0 rs.length c0,.slice (some ⟨W0.heap.size,0,none⟩) 1 1]).run Tryz.prog W1 = .ok v w' ∧ (w'.ownsRow w.heap.size 128 3 v (rs.length + 1) (cellsQ rs ++ cellsQ [⟨5,kid,ktx⟩]) ∧ W1.grownBy w' (Value.slice A0 rs.length c0).ownBlock):=fun ty => run_more (more_one hN) hown1 (by omega) hHeld.size ty;refine rdy1 19 rfl (fun K hK => ?_);refine step_append_x _ (by rfl) _ _ _ (by rfl) (.slice A0 rs.length c0) (.slice (some ⟨W0.heap.size,0,none⟩) 1 1) ?_ ?_ hap ?_
    ·go_simp
    ·go_simp
    clear hap;rintro V2 W2 ⟨hown2,hg2⟩;have hb2 : Below w.heap.size w W2:=((Foot.of_below (F:=fun _ => False) hHeld).grown hg2 (fun k hk => .inr (hown1.lt k hk.symm).1)).below (fun k hk => hk.elim) (Nat.le_refl _);refine hK.out _ _ hb2 (fun _ => ?_);clear hK K;rw [← cellsQ_app] at hown2;clear hN hE hown1 hown hHeld hW1 hg2 hb;refine tk_ 20 3 rfl rfl ?_;refine wpAnyH_done (by kernel_rfl) ?_ _;try simp only [Act.put,List.setIfInBounds_toArray]
    go_wp2_with fail
    go_roundw
    ·exact ⟨k + 1,by omega,by go_num,by rw [HST.out,HR.out,List.length_append];exact hown2,hb2⟩
    ·simp [intOf];omega
   | some i =>
    obtain ⟨hi,-,-⟩:=placeL_some hp;have hz : placeZ s.L kid = (i : Int):=by unfold placeZ;rw [hp]
    obtain ⟨ge,heq,hge,hce⟩:=HX.out.ents (by omega);have hright:=HOK.out.ents _ (List.getElem_mem hi);obtain ⟨en,hen⟩ : ∃ en,s.L[i] = en:=⟨_,rfl⟩
    have HR:=Lib.hid (show s.recs ⟨kid,ktx⟩ = en.ri :: if en.sent then [⟨2,kid,ByteArray.empty⟩] else [] from by rw [SN.recs,find_place,hp,Option.bind_some,List.getElem?_eq_getElem hi,hen]);have he:=hce i hi;rw [hen] at he hright;have HEN:=Lib.hid (fun (W : World) (hS : Below w.heap.size w W) => (show EAt W ge (i * 7) en from he.below hge hS));have hl1 : s.L.length ≤ 60:=HOK.out.len;have HL:=Lib.hid (fun (W : World) (hS : Below w.heap.size w W) => (show W.cell? ⟨b,1,none⟩ = some (.slice (some ⟨ge,0,none⟩) s.L.length cL) from by rw [← heq];exact (hS.cell (p:=⟨b,1,none⟩) HX.out.lt).trans HX.out.l));have e0 : ¬ (i : Int) < 0:=by omega
    have e1 : (0 : Int) ≤ (i : Int):=by omega
    have e2 : (i : Int) < (s.L.length : Int):=by omega
    rw [hz];obtain ⟨v0,v1,v2,v3,v4,v5,v6⟩:=HEN.out wr hb;have b1:=HL.out wr hb;have cR:=fun W => xrecord_any en W hright;unfold EI.val at cR;clear hz hp hce hen he hright heq hge;obtain ⟨⟨rop,rid,rd⟩,hri⟩ : ∃ r,en.ri = r:=⟨_,rfl⟩
    simp only [hri] at cR;rw [hri] at HR;unfold RI.val at cR;dsimp only at cR;go_wp2_with fail
    with_reducible refine (cR _).mono ?_
    rintro e w2 ⟨rfl,hb2⟩;have hbw : Below w.heap.size w w2:=hb.trans (hb2.mono hb.size);have hown2:=own_keep hown (fun k hk => hb2.block k (own_lt hown hk));have hN:=Blk.new_ w2 128 #[.int .i64 rop,.int .i64 rid,.string rd];have hE:=ext_new w2 (.cells #[.int .i64 rop,.int .i64 rid,.string rd] 128);have hown3:=own_keep hown2 (fun k hk => hE.block k (own_lt hown2 hk));have hb3 : Below w.heap.size w (w2.alloc (.cells #[.int .i64 rop,.int .i64 rid,.string rd] 128)):=hbw.trans (hE.mono hbw.size);have hap : ∀ ty,∃ v w',(Builtin.append_ #[132,132] ty #[.slice A0 rs.length c0,.slice (some ⟨w2.heap.size,0,none⟩) 1 1]).run Tryz.prog (w2.alloc (.cells #[.int .i64 rop,.int .i64 rid,.string rd] 128)) = .ok v w' ∧ (w'.ownsRow w.heap.size 128 3 v (rs.length + 1) (cellsQ rs ++ cellsQ [⟨rop,rid,rd⟩]) ∧ (w2.alloc (.cells #[.int .i64 rop,.int .i64 rid,.string rd] 128)).grownBy w' (Value.slice A0 rs.length c0).ownBlock):=fun ty => run_more (more_one (r:=⟨rop,rid,rd⟩) hN) hown3 (by omega) hb3.size ty;have HAP:=Lib.hid hap;have H3:=Lib.hid (And.intro hb3 hown3);clear hown hb hb2 hbw hown2 hN hE hown3 hb3 a1 a2 a3 b1 v0 v1 v2 v3 v4 v5 v6 cR hap;go_wp2_with (at_builtin;refine wpl_append_x _ (by rfl) _ _ _ (by rfl) (.slice A0 rs.length c0) (.slice (some ⟨w2.heap.size,0,none⟩) 1 1) ?_ ?_ HAP.out ?_)
    ·go_simp
    ·go_simp
    intro V4 W4 hown4 hg4;have hb3:=H3.out.1;have hown3:=H3.out.2;have hb4 : Below w.heap.size w W4:=((Foot.of_below (F:=fun _ => False) hb3).grown hg4 (fun k hk => .inr (hown3.lt k hk.symm).1)).below (fun k hk => hk.elim) (Nat.le_refl _);rw [← cellsQ_app] at hown4;obtain ⟨rs2,hrs2⟩ : ∃ l,rs ++ [(⟨rop,rid,rd⟩ : RI)] = l:=⟨_,rfl⟩
    have hrl : rs2.length = rs.length + 1:=by rw [← hrs2];simp
    rw [hrs2,← hrl] at hown4;have HRS:=Lib.hid hrs2;have hl2 : rs2.length ≤ 121:=by omega
    obtain ⟨A5,c5,rfl⟩:=own_form hown4;clear hown3 hb3 hg4 hrs2 HAP H3;obtain ⟨a1,a2,a3⟩:=HY.out W4 hb4;have b1:=HL.out W4 hb4;obtain ⟨-,-,-,-,-,-,v6⟩:=HEN.out W4 hb4
    cases hse : en.sent with
    | false =>
     rw [hse] at v6;have HF:=Lib.hid (show s.recs ⟨kid,ktx⟩ = [⟨rop,rid,rd⟩] from by rw [HR.out,hse];rfl);have HO:=Lib.hid (And.intro hown4 hb4);clear hse hown4 hb4 hrl;go_wp2_with fail
     go_roundw
     ·exact ⟨k + 1,by omega,by go_num,by rw [HST.out,HF.out,HRS.out];exact HO.out.1,HO.out.2⟩
     ·simp [intOf];omega
    | true =>
     rw [hse] at v6;have HF:=Lib.hid (show s.recs ⟨kid,ktx⟩ = [⟨rop,rid,rd⟩,⟨2,kid,ByteArray.empty⟩] from by rw [HR.out,hse];rfl);have hown:=hown4;have hb:=hb4;have HO:=Lib.hid (And.intro hown4 hb4);have hN:=Blk.new_ W4 128 #[.int .i64 2,.int .i64 kid,.string ⟨#[]⟩];have hE:=ext_new W4 (.cells #[.int .i64 2,.int .i64 kid,.string ⟨#[]⟩] 128);have hown5:=own_keep hown4 (fun k hk => hE.block k (own_lt hown4 hk));have hb5 : Below w.heap.size w (W4.alloc (.cells #[.int .i64 2,.int .i64 kid,.string ⟨#[]⟩] 128)):=hb4.trans (hE.mono hb4.size);have hap : ∀ ty,∃ v w',(Builtin.append_ #[132,132] ty #[.slice A5 rs2.length c5,.slice (some ⟨W4.heap.size,0,none⟩) 1 1]).run Tryz.prog (W4.alloc (.cells #[.int .i64 2,.int .i64 kid,.string ⟨#[]⟩] 128)) = .ok v w' ∧ (w'.ownsRow w.heap.size 128 3 v (rs2.length + 1) (cellsQ rs2 ++ cellsQ [⟨2,kid,ByteArray.empty⟩]) ∧ (W4.alloc (.cells #[.int .i64 2,.int .i64 kid,.string ⟨#[]⟩] 128)).grownBy w' (Value.slice A5 rs2.length c5).ownBlock):=fun ty => run_more (more_one (r:=⟨2,kid,ByteArray.empty⟩) hN) hown5 (by omega) hb5.size ty;have HAP:=Lib.hid hap;have H3:=Lib.hid (And.intro hb5 hown5);clear hse hown4 hb4 hrl hN hE hown5 hb5 hap;go_wp2_with (at_builtin;refine wpl_append_x _ (by rfl) _ _ _ (by rfl) (.slice A5 rs2.length c5) (.slice (some ⟨W4.heap.size,0,none⟩) 1 1) ?_ ?_ HAP.out ?_)
     ·go_simp
     ·go_simp
     intro V6 W6 hown6 hg6;have hb6 : Below w.heap.size w W6:=((Foot.of_below (F:=fun _ => False) H3.out.1).grown hg6 (fun k hk => .inr (H3.out.2.lt k hk.symm).1)).below (fun k hk => hk.elim) (Nat.le_refl _);rw [← cellsQ_app] at hown6;clear a1 a2 a3 b1 v6 HAP H3 hg6;go_wp2_with fail
     go_roundw
     ·exact ⟨k + 1,by omega,by go_num,by rw [HST.out,HF.out,show rs ++ [(⟨rop,rid,rd⟩ : RI),⟨2,kid,ByteArray.empty⟩] = rs2 ++ [⟨2,kid,ByteArray.empty⟩] by rw [← HRS.out];simp,List.length_append];exact hown6,hb6⟩
     ·simp [intOf];omega
  ·have hall : (s.K.take k).flatMap s.recs = s.snap:=by rw [List.take_of_length_le (by rw [HN.out];omega)];rfl
   rw [hall] at hown ⊢;have i1 : ¬ (k : Int) < (N : Int):=by omega
   have HF:=Lib.hid (And.intro hown hb);have a1 : wr.cell? ⟨b,2,none⟩ = some (.slice AK N cK):=by rw [← HN.out];exact (hb.cell (p:=⟨b,2,none⟩) HX.out.lt).trans HX.out.k
   clear hown hb hall;go_wp2_with fail
   go_ret;exact ⟨_,rfl,HF.out.1,HF.out.2⟩
theorem run_text {W : World} {base m : Nat} {V : Value} {t : ByteArray} {cs : List Value} (hN : Blk W g 9 #[.string t]) (hown : W.ownsRow base 9 1 V m cs) (h63 : m ≤ 1000) (hb : base ≤ W.heap.size) (ty : TypeId) :
  ∃ V' W',(Builtin.append_ #[54,54] ty #[V,.slice (some ⟨g,0,none⟩) 1 1]).run Tryz.prog W = .ok V' W' ∧ W'.ownsRow base 9 1 V' (m + 1) (cs ++ [.string t]) ∧ W.grownBy W' V.ownBlock:=by
 obtain ⟨i0,hi0,hz0,hz1,hz2⟩:=info_parts infoQS
 obtain ⟨V',W',h1,h2,h3,-⟩:=run_append_own (P:=Tryz.prog) W base 54 ty 9 i0 (.string ByteArray.empty) 1 16 Tryz.underlying54 hi0 hz0 hz1 hz2 rfl (by omega) V m cs hown ⟨g,0,none⟩ 1 1 [.string t] rfl (Blk.cells_ (ds:=[.string t]) hN) (by simp [Value.oneCell']) (by unfold maxLen;omega) (by omega) hb
 exact ⟨V',W',h1,h2,h3⟩
theorem txts_take {l : List KI} (h : k < l.length) : (txtsOf (l.take (k + 1))).map (Value.string ·) = (txtsOf (l.take k)).map (Value.string ·) ++ [.string l[k].text] := by
 unfold txtsOf
 rw [List.take_succ_eq_append_getElem h,List.map_append,List.map_append]
 rfl
set_option maxRecDepth 100000 in
theorem xkeys_any (h : XS w b AL AK cL cK s) (hok : s.Ok) :
  Calls Tryz.prog 58 #[.pointer (some ⟨b,0,none⟩)] w fun e w' => ∃ V,e = .returned V ∧ w'.ownsRow w.heap.size 9 1 V s.K.length ((txtsOf s.K).map (.string ·)) ∧ Below w.heap.size w w':=by
 have HX:=Lib.hid h
 obtain ⟨N,hN⟩ : ∃ N,s.K.length = N:=⟨_,rfl⟩
 have HN:=Lib.hid hN
 have hN60 : N ≤ 60:=by rw [← hN];exact hok.most
 rw [hN]
 clear h hok hN
 go_enter Tryz.func58,Tryz.ntmps58
 go_wp2_with fail
 go_loopw [4,3] (fun i V wr => ∃ k : Nat,k ≤ N ∧ i = .int .i64 (k : Int) ∧ wr.ownsRow w.heap.size 9 1 V k ((txtsOf (s.K.take k)).map (Value.string ·)) ∧ Below w.heap.size w wr) (fun i _ _ => N - (intOf i).toNat)
 case atStart => exact ⟨0,Nat.zero_le _,rfl,own_nil,ext_refl _⟩
 case round =>
  obtain ⟨k,hk,rfl,hown,hb⟩:=hrel;obtain ⟨A0,c0,rfl⟩:=own_form hown;have a1 : wr.cell? ⟨b,2,none⟩ = some (.slice AK N cK):=by rw [← HN.out];exact (hb.cell (p:=⟨b,2,none⟩) HX.out.lt).trans HX.out.k
  by_cases hlt : k < N
  ·have k1 : k < s.K.length:=by rw [HN.out];exact hlt
   obtain ⟨g,rfl,hg,hc⟩:=HX.out.keys (by omega);have y1:=(hb.cell (p:=⟨g,k * 2 + 1,none⟩) hg).trans (hc k k1).2;have hst:=txts_take k1;obtain ⟨t,ht⟩ : ∃ t,s.K[k].text = t:=⟨_,rfl⟩
   rw [ht] at y1 hst;have HST:=Lib.hid hst;have i0 : (0 : Int) ≤ (k : Int):=by omega
   have i1 : (k : Int) < (N : Int):=by omega
   have hN1:=Blk.new_ wr 9 #[.string t];have hE:=ext_new wr (.cells #[.string t] 9);have hown3:=own_keep hown (fun k hk => hE.block k (own_lt hown hk));have hb3 : Below w.heap.size w (wr.alloc (.cells #[.string t] 9)):=hb.trans (hE.mono hb.size);have hap : ∀ ty,∃ v w',(Builtin.append_ #[54,54] ty #[.slice A0 k c0,.slice (some ⟨wr.heap.size,0,none⟩) 1 1]).run Tryz.prog (wr.alloc (.cells #[.string t] 9)) = .ok v w' ∧ (w'.ownsRow w.heap.size 9 1 v (k + 1) ((txtsOf (s.K.take k)).map (Value.string ·) ++ [.string t]) ∧ (wr.alloc (.cells #[.string t] 9)).grownBy w' (Value.slice A0 k c0).ownBlock):=fun ty => run_text hN1 hown3 (by omega) hb3.size ty;have HAP:=Lib.hid hap;have H3:=Lib.hid (And.intro hb3 hown3);clear hown hb hN1 hE hown3 hb3 hap hst ht hc hg;go_wp2_with (at_builtin;refine wpl_append_x _ (by rfl) _ _ _ (by rfl) (.slice A0 k c0) (.slice (some ⟨wr.heap.size,0,none⟩) 1 1) (by go_simp) (by go_simp) HAP.out ?_)
   intro V4 W4 hown4 hg4;have hb4 : Below w.heap.size w W4:=((Foot.of_below (F:=fun _ => False) H3.out.1).grown hg4 (fun k hk => .inr (H3.out.2.lt k hk.symm).1)).below (fun k hk => hk.elim) (Nat.le_refl _);rw [← HST.out] at hown4;clear HAP H3 hg4 a1 y1;go_wp2_with fail
   go_roundw
   ·exact ⟨k + 1,by omega,by go_num,hown4,hb4⟩
   ·simp [intOf];omega
  ·obtain rfl : k = N:=by omega
   rw [List.take_of_length_le (by rw [HN.out];omega)] at hown;have i1 : ¬ (k : Int) < (k : Int):=by omega
   have HF:=Lib.hid (And.intro hown hb);clear hown hb;go_wp2_with fail
   go_ret;exact ⟨_,rfl,HF.out.1,HF.out.2⟩
structure XV where
 l : Value
 k : Value
def oI (o : Bool) : Int := if o then 1 else 0
def XF (b : Nat) (v : XV) (p g : Nat) (j : Nat) : Prop := j = b ∨ j = p ∨ j = g ∨ some j = v.l.ownBlock ∨ some j = v.k.ownBlock
structure XQ (w : World) (b : Nat) (v : XV) (p g c k : Nat) (q : QN) : Prop where
 blk : Blk w b 117 #[.pointer (some ⟨p,0,none⟩),v.l,v.k,.int .i64 (oI q.other),.int .i64 (q.tail : Int),.bool q.down]
 ent : w.ownsRow 0 23 7 v.l q.s.L.length (cellsE q.s.L)
 key : w.ownsRow 0 158 2 v.k q.s.K.length (cellsK q.s.K)
 disk : RAt w p g c k q.d
theorem XQ.bp {v : XV} (h : XQ w b v p g c k q) : b ≠ p := by
 rintro rfl
 have h1:=h.blk
 have h2:=h.disk.disk
 unfold Blk at h1 h2
 rw [h1] at h2
 injection h2 with h2
 injection h2 with _ h2
 exact absurd h2 (by decide)
theorem XQ.bg {v : XV} (h : XQ w b v p g c k q) : b ≠ g := fun e => own_type h.disk.row h.blk (by decide) (by rw [e]; rfl)
theorem XQ.keptF {v : XV} (h : XQ w b v p g c k q) (hb : ∀ j,XF b v p g j → w'.heap[j]? = w.heap[j]?) : XQ w' b v p g c k q :=
 ⟨h.blk.kept (hb b (.inl rfl)),own_keep h.ent (fun j hj => hb j (.inr <| .inr <| .inr <| .inl hj)),own_keep h.key (fun j hj => hb j (.inr <| .inr <| .inr <| .inr hj)),h.disk.keep (hb p (.inr <| .inl rfl)) (hb g (.inr <| .inr <| .inl rfl))⟩
theorem XQ.lt {v : XV} (h : XQ w b v p g c k q) {j : Nat} (hj : XF b v p g j) : j < w.heap.size := by
 rcases hj with rfl | rfl | rfl | hj | hj
 ·exact h.blk.lt
 ·exact h.disk.disk.lt
 ·exact h.disk.glt
 ·exact own_lt h.ent hj
 ·exact own_lt h.key hj
theorem XQ.below {v : XV} (h : XQ w b v p g c k q) (hb : Below w.heap.size w w') : XQ w' b v p g c k q := h.keptF fun j hj => hb.block j (h.lt hj)
theorem XQ.disk_ {v : XV} {k' : Nat} {d : DN} (h : XQ w b v p g c k q) (hd : RAt w' p g c k' d) (hb : But2 p g w w') : XQ w' b v p g c k' { q with d := d } := by
 refine ⟨h.blk.kept (hb.block b h.blk.lt h.bp h.bg),own_keep h.ent fun j hj => hb.block j (own_lt h.ent hj) ?_ ?_,own_keep h.key fun j hj => hb.block j (own_lt h.key hj) ?_ ?_,hd⟩
 ·rintro rfl
  exact own_type h.ent h.disk.disk (by decide) hj
 ·rintro rfl
  exact own_two h.ent h.disk.row (by decide) hj rfl
 ·rintro rfl
  exact own_type h.key h.disk.disk (by decide) hj
 ·rintro rfl
  exact own_two h.key h.disk.row (by decide) hj rfl
theorem But2.xf {v : XV} (h : But2 p g w w') : Foot (XF b v p g) w w' :=
 ⟨h.os,h.tape,h.output,h.size,fun j hj hn => h.block j hj (fun e => hn (.inr (.inl e))) (fun e => hn (.inr (.inr (.inl e))))⟩
theorem XQ.set {v : XV} {q' : QN} (h : XQ w b v p g c k q) (i : Nat) (x : Value) (hs : q'.s = q.s) (hd : q'.d = q.d)
  (hc : (#[.pointer (some ⟨p,0,none⟩),v.l,v.k,.int .i64 (oI q.other),.int .i64 (q.tail : Int),.bool q.down] : Array Value).setIfInBounds i x = #[.pointer (some ⟨p,0,none⟩),v.l,v.k,.int .i64 (oI q'.other),.int .i64 (q'.tail : Int),.bool q'.down]) : XQ (w.setCell ⟨b,i,none⟩ x) b v p g c k q':=by
 have h0:=h.blk.set_ i x
 rw [hc] at h0
 refine ⟨h0,by rw [hs];exact own_set h.ent (own_type h.ent h.blk (by decide)) i x,by rw [hs];exact own_set h.key (own_type h.key h.blk (by decide)) i x,?_⟩
 rw [hd]
 exact h.disk.keep (Below.heap_setCell _ ⟨b,i,none⟩ x p (Ne.symm h.bp)) (Below.heap_setCell _ ⟨b,i,none⟩ x g (Ne.symm h.bg))
theorem XQ.down_ {v : XV} (h : XQ w b v p g c k q) (x : Bool) : XQ (w.setCell ⟨b,5,none⟩ (.bool x)) b v p g c k { q with down := x } := h.set 5 _ rfl rfl rfl
theorem xf_set {a : World} {v : XV} (h : Foot (XF b v p g) a w) (i : Nat) (x : Value) : Foot (XF b v p g) a (w.setCell ⟨b,i,none⟩ x) := h.set (.inl (.inl rfl)) i x
end Go.Proofs.YtmebjdbkngehiaaGreatDoor
