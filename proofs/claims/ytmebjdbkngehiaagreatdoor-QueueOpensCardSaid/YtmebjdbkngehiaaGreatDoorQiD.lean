/-
  The document's Tell of an entry. Conditions: as the theorem's own hypotheses say. The document's Tell of any record, and its log. Conditions: as the theorems' own hypotheses say.
-/
import Derived.Test.YtmebjdbkngehiaaGreatDoorQiC
import Derived.Test.YtmebjdbkngehiaaGreatDoorQiA
import Derived.Test.YtmebjdbkngehiaaGreatDoorQhB
import Derived.Test.YtmebjdbkngehiaaGreatDoorQhH
import Derived.Deep.QuietTactic
import Derived.BigQuiet
namespace Go.Proofs.YtmebjdbkngehiaaGreatDoor
open Go.RowKit Go.Shelf
set_option maxHeartbeats 40000000
variable {w : World} {A : Option Addr} {n c1 g b p c k g1 N j : Nat} {vk V V' : Value} {q : QN} {v : XV}
theorem tell_put2 (s : SN) (id : Int) (d : ByteArray) (en : EI) (hen : roughE ⟨1,id,d⟩ = en) : s.tell ⟨1,id,d⟩ = if en.right = true ∧ en.ri.same ⟨1,id,d⟩ = true ∧ s.free id en.key = true then ⟨s.L ++ [en],s.K ++ [⟨id,en.key⟩]⟩ else s := by
 rw [tell_put rfl,hen]
 by_cases hE : isE ⟨1,id,d⟩ = true
 ·obtain ⟨e1,e2⟩:=isE_iff.1 hE
  rw [hen] at e1 e2;have e3 : en.id = id:=congrArg RI.id e2;have e4 : en.k = ⟨id,en.key⟩:=by unfold EI.k;rw [e3]
  rw [e4,e3];by_cases hf : s.free id en.key = true
  ·rw [if_pos ⟨hE,hf⟩,if_pos ⟨e1,(RI.same_iff _ _).2 e2,hf⟩]
  ·rw [if_neg (fun q => hf q.2),if_neg (fun q => hf q.2.2)]
 ·rw [if_neg (fun q => hE q.1),if_neg (fun q => hE (isE_iff.2 ⟨by rw [hen];exact q.1,by rw [hen];exact (RI.same_iff _ _).1 q.2.1⟩))]
theorem app_ent {ops : Array Oper} {o : Oper} {a : Act} {K : Act → World → Prop} {Q : Exit → Act → World → Prop} {E : Prop} {xs : List Value} {a0 a1 a4 : Int} {a2 a3 : ByteArray} {a5 a6 : Bool} (hgd : o.guard = none) (s x : Operand)
  (ho : o.op = .call { callee:=.builtin .append,args:=#[s,x],argTypes:=#[46,46] }) (hown : w.ownsRow 0 23 7 (.slice A n c1) n xs) (hN : Blk w g 23 #[.int .i64 a0,.int .i64 a1,.string a2,.string a3,.int .i64 a4,.bool a5,.bool a6]) (hs : a.eval s = .slice A n c1) (hx : a.eval x = .slice (some ⟨g,0,none⟩) 1 1) (hl : n ≤ 1000000)
  (h : ∀ g' cap w',w'.ownsRow 0 23 7 (.slice (some ⟨g',0,none⟩) (n + 1) cap) (n + 1) (xs ++ [.int .i64 a0,.int .i64 a1,.string a2,.string a3,.int .i64 a4,.bool a5,.bool a6]) → w.grownBy w' (Value.slice A n c1).ownBlock → ((Value.slice A n c1).ownBlock = some g' ∨ g' = w.heap.size) → g' < w'.heap.size → K (a.put o.dst (.slice (some ⟨g',0,none⟩) (n + 1) cap)) w') :
  if Region.wanted o (yielded ops a.tmps) = true then Oper.wp Tryz.prog o a w K Q else E:=by
 obtain ⟨i,hi,hz0,hz1,hz2⟩:=info_parts infoEn
 exact step_append_lies w hgd s x _ ho 0 23 i (.agg #[.int .i64 0,.int .i64 0,.string ByteArray.empty,.string ByteArray.empty,.int .i64 0,.bool false,.bool false]) 7 64 Tryz.underlying46 hi hz0 hz1 hz2 rfl (by omega) (.slice A n c1) n xs hs hown ⟨g,0,none⟩ 1 1 [.int .i64 a0,.int .i64 a1,.string a2,.string a3,.int .i64 a4,.bool a5,.bool a6] hx rfl (Blk.cells_ (ds:=[.int .i64 a0,.int .i64 a1,.string a2,.string a3,.int .i64 a4,.bool a5,.bool a6]) hN) (by simp [Value.oneCell']) (by omega) (by unfold maxLen;omega) (by omega) (Nat.zero_le _) _ rfl h
theorem XQ.entg {W W' : World} {cap : Nat} {x : EI} (h : XQ W b ⟨.slice A n c1,vk⟩ p g c k q) (hn : q.s.L.length = n) (ho : W'.ownsRow 0 23 7 (.slice (some ⟨g1,0,none⟩) (n + 1) cap) (n + 1) (cellsE q.s.L ++ [.int .i64 x.id,.int .i64 x.side,.string x.key,.string x.data,.int .i64 x.due,.bool x.cust,.bool x.sent])) (hg : W.grownBy W' (Value.slice A n c1).ownBlock) :
  XQ (W'.setCell ⟨b,1,none⟩ (.slice (some ⟨g1,0,none⟩) (n + 1) cap)) b ⟨.slice (some ⟨g1,0,none⟩) (n + 1) cap,vk⟩ p g c k { q with s:=⟨q.s.L ++ [x],q.s.K⟩ }:=by
 have hB:=h.blk.kept (hg.block _ h.blk.lt (own_type h.ent h.blk (by decide)))
 have hE:=own_keep h.key (fun j hj => hg.block _ (own_lt h.key hj) (own_two h.key h.ent (by decide) hj))
 have hD:=h.disk.keep (hg.block _ h.disk.disk.lt (own_type h.ent h.disk.disk (by decide))) (hg.block _ h.disk.glt (own_two h.disk.row h.ent (by decide) rfl))
 refine ⟨hB.set_ 1 _,?_,own_set hE (own_type hE hB (by decide)) _ _,hD.keep (Below.heap_setCell _ ⟨b,_,none⟩ _ p (Ne.symm h.bp)) (Below.heap_setCell _ ⟨b,_,none⟩ _ g (Ne.symm h.bg))⟩
 dsimp only
 rw [List.length_append,hn,cellsE_app]
 exact own_set ho (own_type ho hB (by decide)) _ _
theorem xf_ent (hor : V.ownBlock = some g1 ∨ N ≤ g1) (hV : V'.ownBlock = some g1) (hj : XF b ⟨V',vk⟩ p g j) : XF b ⟨V,vk⟩ p g j ∨ N ≤ j := by
 rcases hj with hj | hj | hj | hj | hj
 ·exact .inl (.inl hj)
 ·exact .inl (.inr (.inl hj))
 ·exact .inl (.inr (.inr (.inl hj)))
 ·have hj : some j = V'.ownBlock:=hj
  rw [hV] at hj;injection hj with hj
  rw [hj];exact hor.imp (fun e => .inr (.inr (.inr (.inl e.symm)))) id
 ·exact .inl (.inr (.inr (.inr (.inr hj))))
theorem xf_key {vl : Value} (hor : V.ownBlock = some g1 ∨ N ≤ g1) (hV : V'.ownBlock = some g1) (hj : XF b ⟨vl,V'⟩ p g j) : XF b ⟨vl,V⟩ p g j ∨ N ≤ j := by
 rcases hj with hj | hj | hj | hj | hj
 ·exact .inl (.inl hj)
 ·exact .inl (.inr (.inl hj))
 ·exact .inl (.inr (.inr (.inl hj)))
 ·exact .inl (.inr (.inr (.inr (.inl hj))))
 ·have hj : some j = V'.ownBlock:=hj
  rw [hV] at hj;injection hj with hj
  rw [hj];exact hor.imp (fun e => .inr (.inr (.inr (.inr e.symm)))) id
set_option maxRecDepth 100000 in
theorem xtell_put (id : Int) (d : ByteArray) (h : XQ w b v p g c k q) (hok : q.s.Ok) (hd : d.size ≤ 1000000) :
  Calls Tryz.prog 70 #[.pointer (some ⟨b,1,none⟩),.agg #[.int .i64 1,.int .i64 id,.string d]] w fun e w' => e = .returned (.tuple #[]) ∧ XWent w b v p g c k { q with s:=q.s.tell ⟨1,id,d⟩ } w':=by
 have hl:=hok.len
 have hlk:=hok.most
 obtain ⟨AL,AK,cL,cK,rfl,hS⟩:=h.xs
 have hE:=ext_new w (.cells #[.int .i64 1,.int .i64 id,.string d] 128)
 have hR:=Blk.new_ w 128 #[.int .i64 1,.int .i64 id,.string d]
 have cP:=xplace_any id (hS.below hE) (by omega)
 have cE:=xentry_any ⟨1,id,d⟩ (w.alloc (.cells #[.int .i64 1,.int .i64 id,.string d] 128)) hd
 obtain ⟨en,hen⟩ : ∃ e,roughE ⟨1,id,d⟩ = e:=⟨_,rfl⟩
 have hT:=tell_put2 q.s id d en hen
 rw [hen] at cE
 have hFR:=fun (W : World) (hb : Below w.heap.size w W) => xfree_any id en.key (hS.below hb) (by omega)
 have hRG:=fun (W : World) => xright_any en W
 have hRC:=fun (hr : en.right = true) (W : World) => xrecord_any en W hr
 have hrq:=fun (W : World) => rec_eql_run en.ri ⟨1,id,d⟩ W
 have hop : en.ri.op = 1:=rfl
 have hid : en.ri.id = en.id:=rfl
 unfold RI.val EI.val at hRC cE
 unfold EI.val at hRG
 unfold RI.val at hrq
 rw [hop,hid] at hRC hrq
 clear hop hid hen
 obtain ⟨bd,hbd⟩ : ∃ x,en.ri.d = x:=⟨_,rfl⟩
 rw [hbd] at hRC hrq
 clear hbd
 obtain ⟨rt,hrt⟩ : ∃ x,en.right = x:=⟨_,rfl⟩
 obtain ⟨sm,hsm⟩ : ∃ x,en.ri.same ⟨1,id,d⟩ = x:=⟨_,rfl⟩
 rw [hrt] at hRG hRC hT
 rw [hsm] at hrq hT
 clear hsm hrt
 obtain ⟨eid,eside,ekey,edata,edue,ecust,esent⟩:=en
 dsimp only at hRC hrq hRG cE hT hFR
 have HT:=Lib.hid hT
 have HFR:=Lib.hid hFR
 have HRG:=Lib.hid hRG
 have HRC:=Lib.hid hRC
 have HRQ:=Lib.hid hrq
 clear hT hFR hRG hRC hrq
 obtain ⟨r0,r1,r2,-⟩:=hR.c3
 obtain ⟨W0',hW0⟩ : ∃ W,w.alloc (.cells #[.int .i64 1,.int .i64 id,.string d] 128) = W:=⟨_,rfl⟩
 rw [hW0] at cP cE r0 r1 r2 hE hR
 obtain ⟨rb,hrb⟩ : ∃ rb,w.heap.size = rb:=⟨_,rfl⟩
 have hrl : w.heap.size ≤ rb:=Nat.le_of_eq hrb
 rw [hrb] at r0 r1 r2 hR
 have HW:=Lib.hid (And.intro hW0 hrb)
 have HX:=Lib.hid h
 obtain ⟨nL,hnL⟩ : ∃ n,q.s.L.length = n:=⟨_,rfl⟩
 obtain ⟨nK,hnK⟩ : ∃ n,q.s.K.length = n:=⟨_,rfl⟩
 rw [hnL,hnK] at HX ⊢
 have HN:=Lib.hid (And.intro hnL hnK)
 have HL:=Lib.hid (And.intro hl <| And.intro hlk hrl)
 have HRB:=Lib.hid hR
 have HE:=Lib.hid hE
 obtain ⟨z,hz⟩ : ∃ z : Int,placeZ q.s.L id = z:=⟨_,rfl⟩
 rw [hz] at cP
 clear hS h hR hz hW0 hE hl hlk hok hnL hnK hrb hrl
 go_enter Tryz.func70,Tryz.ntmps70
 go_wp2_with fail
 rw [HW.out.1,HW.out.2]
 with_reducible refine cP.mono ?_
 rintro e w1 ⟨rfl,rfl⟩
 clear cP
 go_wp2_with fail
 with_reducible refine cE.mono ?_
 rintro e w2 ⟨rfl,hb2⟩
 clear cE r0 r1 r2
 have hEE:=ext_new w2 (.cells #[.int .i64 eid,.int .i64 eside,.string ekey,.string edata,.int .i64 edue,.bool ecust,.bool esent] 23)
 have hEB:=Blk.new_ w2 23 #[.int .i64 eid,.int .i64 eside,.string ekey,.string edata,.int .i64 edue,.bool ecust,.bool esent]
 have hB3:=ext_trans (ext_trans HE.out hb2) hEE
 have hRB:=(HRB.out.below hb2).below hEE
 obtain ⟨eb,heb⟩ : ∃ eb,w2.heap.size = eb:=⟨_,rfl⟩
 have hel : w.heap.size ≤ eb:=by rw [← heb];exact (ext_trans HE.out hb2).size
 go_wp2_with fail
 rw [heb] at hEB
 have HEL:=Lib.hid hel
 clear heb hel
 have hS5 : Blk (w2.alloc (.cells #[.int .i64 eid,.int .i64 eside,.string ekey,.string edata,.int .i64 edue,.bool ecust,.bool esent] 23)).drew rb 128 #[.int .i64 1,.int .i64 id,.string d] ∧ Blk (w2.alloc (.cells #[.int .i64 eid,.int .i64 eside,.string ekey,.string edata,.int .i64 edue,.bool ecust,.bool esent] 23)).drew eb 23 #[.int .i64 eid,.int .i64 eside,.string ekey,.string edata,.int .i64 edue,.bool ecust,.bool esent]:=⟨hRB,hEB⟩
 have hB5:=hB3.drew
 clear hRB hEB hB3 hEE hb2
 refine wp_region_held_drew (S:=fun W => Blk W rb 128 #[.int .i64 1,.int .i64 id,.string d] ∧ Blk W eb 23 #[.int .i64 eid,.int .i64 eside,.string ekey,.string edata,.int .i64 edue,.bool ecust,.bool esent]) (by kernel_rfl) hS5 (fun hHeld => ?_)
 generalize (w2.alloc (.cells #[.int .i64 eid,.int .i64 eside,.string ekey,.string edata,.int .i64 edue,.bool ecust,.bool esent] 23)).drew = W0 at *
 clear hS5
 refine tk_ 0 17 rfl rfl ?_ (fun wx hSx => by obtain ⟨⟨s0,s1,s2,s3,s4,s5,s6⟩,-⟩:=hSx.2.c7;go_simp;try with_reducible rfl)
 refine rdy1 1 rfl ?_
 intro K hK
 go_simp
 with_reducible refine (HRG.out W0).mono ?_
 rintro e w3 ⟨rfl,hb3⟩
 try go_wp2_with fail
 refine hK.out _ _ ⟨hHeld.1.below hb3,hHeld.2.below hb3⟩ (fun hHeld => ?_)
 clear hK K
 replace hB5:=ext_trans hB5 hb3
 clear hb3
 refine tk_ 2 19 rfl rfl ?_
 cases rt with
 | false =>
  refine wpAnyH_no (i:=3) (some 20) rfl rfl ?_;refine wpAnyH_no (i:=5) (some 22) rfl rfl ?_;refine wpAnyH_no (i:=4) (some 21) rfl rfl ?_;refine wpAnyH_no (i:=6) (some 23) rfl rfl ?_;refine tk_ 7 24 rfl rfl ?_;refine tk_ 8 25 rfl rfl ?_;refine wpAnyH_no (i:=9) (some 26) rfl rfl ?_;refine wpAnyH_no (i:=10) (some 27) rfl rfl ?_;refine wpAnyH_no (i:=11) (some 28) rfl rfl ?_;refine wpAnyH_no (i:=12) (some 29) rfl rfl ?_;refine wpAnyH_no (i:=13) (some 30) rfl rfl ?_;refine wpAnyH_no (i:=14) (some 31) rfl rfl ?_;refine tk_ 15 32 rfl rfl ?_;refine wpAnyH_done (by kernel_rfl) ?_ _;try simp only [Act.put,List.setIfInBounds_toArray,List.set_cons_succ,List.set_cons_zero]
  have HF:=Lib.hid (show XWent w b ⟨.slice AL nL cL,.slice AK nK cK⟩ p g c k { q with s:=q.s.tell ⟨1,id,d⟩ } _ from by rw [HT.out,if_neg (fun e => by cases e.1)];exact .stay HX.out hB5);clear HT;go_wp2_with fail
  exact bodyPost_end (v:=.tuple #[]) (results_none (by kernel_rfl) _ _ _) rfl ⟨rfl,HF.out⟩
 | true =>
  refine tk_ 3 20 rfl rfl ?_ (fun wx hSx => by obtain ⟨⟨s0,s1,s2,s3,s4,s5,s6⟩,-⟩:=hSx.2.c7;go_simp;try with_reducible rfl);refine tk_ 5 22 rfl rfl ?_ (fun wx hSx => by obtain ⟨r0,r1,r2,-⟩:=hSx.1.c3;go_simp;try with_reducible rfl);refine rdy1 4 rfl ?_;intro K hK;go_simp;with_reducible refine (HRC.out rfl w3).mono ?_
  rintro e w3 ⟨rfl,hb3⟩;try go_wp2_with fail
  refine hK.out _ _ ⟨hHeld.1.below hb3,hHeld.2.below hb3⟩ (fun hHeld => ?_);clear hK K;replace hB5:=ext_trans hB5 hb3;clear hb3;have hrq:=HRQ.out;refine tk_ 6 23 rfl rfl ?_;clear hrq;refine tk_ 7 24 rfl rfl ?_;refine tk_ 8 25 rfl rfl ?_
  cases sm with
  | false =>
   refine wpAnyH_no (i:=9) (some 26) rfl rfl ?_;refine wpAnyH_no (i:=10) (some 27) rfl rfl ?_;refine wpAnyH_no (i:=11) (some 28) rfl rfl ?_;refine wpAnyH_no (i:=12) (some 29) rfl rfl ?_;refine wpAnyH_no (i:=13) (some 30) rfl rfl ?_;refine wpAnyH_no (i:=14) (some 31) rfl rfl ?_;refine tk_ 15 32 rfl rfl ?_;refine wpAnyH_done (by kernel_rfl) ?_ _;try simp only [Act.put,List.setIfInBounds_toArray,List.set_cons_succ,List.set_cons_zero]
   have HF:=Lib.hid (show XWent w b ⟨.slice AL nL cL,.slice AK nK cK⟩ p g c k { q with s:=q.s.tell ⟨1,id,d⟩ } _ from by rw [HT.out,if_neg (fun e => by cases e.2.1)];exact .stay HX.out hB5);clear HT;go_wp2_with fail
   exact bodyPost_end (v:=.tuple #[]) (results_none (by kernel_rfl) _ _ _) rfl ⟨rfl,HF.out⟩
  | true =>
   refine tk_ 9 26 rfl rfl ?_;refine tk_ 10 27 rfl rfl ?_;refine tk_ 11 28 rfl rfl ?_ (fun wx hSx => by obtain ⟨r0,r1,r2,-⟩:=hSx.1.c3;go_simp;try with_reducible rfl);refine tk_ 12 29 rfl rfl ?_;refine tk_ 13 30 rfl rfl ?_ (fun wx hSx => by obtain ⟨⟨s0,s1,s2,s3,s4,s5,s6⟩,-⟩:=hSx.2.c7;go_simp;try with_reducible rfl);refine rdy1 14 rfl ?_;intro K hK;go_simp;with_reducible refine (HFR.out _ hB5).mono ?_
   rintro e w4 ⟨rfl,rfl⟩;try go_wp2_with fail
   refine hK.out _ _ hHeld (fun hHeld => ?_);clear hK K
   cases hfr : q.s.free id ekey with
   | false =>
    refine tk_ 15 32 rfl rfl ?_;refine wpAnyH_done (by kernel_rfl) ?_ _;try simp only [Act.put,List.setIfInBounds_toArray,List.set_cons_succ,List.set_cons_zero]
    have HF:=Lib.hid (show XWent w b ⟨.slice AL nL cL,.slice AK nK cK⟩ p g c k { q with s:=q.s.tell ⟨1,id,d⟩ } _ from by rw [HT.out,if_neg (fun e => by rw [hfr] at e;cases e.2.2)];exact .stay HX.out hB5);clear HT;go_wp2_with fail
    exact bodyPost_end (v:=.tuple #[]) (results_none (by kernel_rfl) _ _ _) rfl ⟨rfl,HF.out⟩
   | true =>
    refine tk_ 15 32 rfl rfl ?_;refine wpAnyH_done (by kernel_rfl) ?_ _;try simp only [Act.put,List.setIfInBounds_toArray,List.set_cons_succ,List.set_cons_zero]
    have HFR2:=Lib.hid hfr;clear hfr HFR;go_wp2_with fail
    have hS6 : Blk w3.drew rb 128 #[.int .i64 1,.int .i64 id,.string d] ∧ Blk w3.drew eb 23 #[.int .i64 eid,.int .i64 eside,.string ekey,.string edata,.int .i64 edue,.bool ecust,.bool esent]:=hHeld;have hB6:=hB5.drew;have hq:=HX.out.below hB6;clear hHeld hB5;refine wp_region_held_drew (S:=fun W => Blk W rb 128 #[.int .i64 1,.int .i64 id,.string d] ∧ Blk W eb 23 #[.int .i64 eid,.int .i64 eside,.string ekey,.string edata,.int .i64 edue,.bool ecust,.bool esent]) (by kernel_rfl) hS6 (fun hHeld => ?_);generalize w3.drew = W0 at *;clear hS6;refine tk_ 0 33 rfl rfl ?_;refine tk_ 1 34 rfl rfl ?_;refine tk_ 2 35 rfl rfl ?_;refine tk_ 3 36 rfl rfl ?_;refine tk_ 5 38 rfl rfl ?_ (fun wx hSx => by obtain ⟨⟨s0,s1,s2,s3,s4,s5,s6⟩,-⟩:=hSx.2.c7;go_simp;try with_reducible rfl);refine rdy2 4 6 rfl rfl ?_ ?_;intro K hK;have x1 : W0.cell? ⟨b,1,none⟩ = some (.slice AL nL cL):=hq.blk.c6.2.1;go_simp;refine hK.out _ _ hHeld (fun hHeld => ?_);clear hK K x1;refine rdy1 6 rfl ?_;intro K hK;have hN:=Blk.new_ W0 23 #[.int .i64 eid,.int .i64 eside,.string ekey,.string edata,.int .i64 edue,.bool ecust,.bool esent];have hEE:=ext_new W0 (.cells #[.int .i64 eid,.int .i64 eside,.string ekey,.string edata,.int .i64 edue,.bool ecust,.bool esent] 23);go_simp;refine hK.out _ _ ⟨hHeld.1.below hEE,hHeld.2.below hEE⟩ (fun hHeld => ?_);clear hK K;replace hq:=hq.below hEE;replace hB6:=ext_trans hB6 hEE;clear hEE;generalize W0.alloc (.cells #[.int .i64 eid,.int .i64 eside,.string ekey,.string edata,.int .i64 edue,.bool ecust,.bool esent] 23) = W1 at *;rotate_left;intro K hK;have hN:=Blk.new_ W0 23 #[.int .i64 eid,.int .i64 eside,.string ekey,.string edata,.int .i64 edue,.bool ecust,.bool esent];have hEE:=ext_new W0 (.cells #[.int .i64 eid,.int .i64 eside,.string ekey,.string edata,.int .i64 edue,.bool ecust,.bool esent] 23);go_simp;refine hK.out _ _ ⟨hHeld.1.below hEE,hHeld.2.below hEE⟩ (fun hHeld => ?_);clear hK K;replace hq:=hq.below hEE;replace hB6:=ext_trans hB6 hEE;clear hEE;generalize W0.alloc (.cells #[.int .i64 eid,.int .i64 eside,.string ekey,.string edata,.int .i64 edue,.bool ecust,.bool esent] 23) = W1 at *;refine rdy1 4 rfl ?_;intro K hK;have x1 : W1.cell? ⟨b,1,none⟩ = some (.slice AL nL cL):=hq.blk.c6.2.1;go_simp;refine hK.out _ _ hHeld (fun hHeld => ?_);clear hK K x1
    all_goals
     have hk0 : W1.ownsRow 0 23 7 (.slice AL nL cL) q.s.L.length (cellsE q.s.L):=hq.ent;rw [HN.out.1] at hk0;refine rdy1 7 rfl ?_;intro K hK;refine app_ent rfl _ _ rfl hk0 hN (by go_simp) (by go_simp) (by have:=HL.out.1;have:=HN.out.1;omega) ?_;rintro g1 cap W2 ho hg hor hlt;refine hK.out _ _ ⟨hHeld.1.kept (hg.block _ hHeld.1.lt (own_type hk0 hHeld.1 (by decide))),hHeld.2.kept (hg.block _ hHeld.2.lt (fun e => Nat.lt_irrefl _ (Nat.lt_of_lt_of_le (own_lt HX.out.ent e) HEL.out)))⟩ (fun hHeld => ?_);clear hK K;refine tk_ 8 41 rfl rfl ?_;refine tk_ 9 42 rfl rfl ?_;have hBk:=hq.blk.kept (hg.block _ hq.blk.lt (own_type hk0 hq.blk (by decide)));have hq7:=hq.entg (x:=⟨eid,eside,ekey,edata,edue,ecust,esent⟩) HN.out.1 ho hg;have hft7:=((Foot.of_below (F:=XF b ⟨.slice AL nL cL,.slice AK nK cK⟩ p g) hB6).grown hg (fun kk hk => .inl (.inr <| .inr <| .inr <| .inl hk))).set (.inl (.inl rfl)) 1 (.slice (some ⟨g1,0,none⟩) (nL + 1) cap);have HQ7:=Lib.hid (fun (j : Nat) (hj : XF b ⟨.slice (some ⟨g1,0,none⟩) (nL + 1) cap,.slice AK nK cK⟩ p g j) => (show XF b ⟨.slice AL nL cL,.slice AK nK cK⟩ p g j ∨ w.heap.size ≤ j from xf_ent (V':=.slice (some ⟨g1,0,none⟩) (nL + 1) cap) (hor.imp (fun e => e) (fun e => by rw [e];exact hB6.size)) rfl hj));obtain ⟨-,u1,-,-,-,-,-,f1,-⟩:=hBk.c6;have hHeld2:=And.intro (hHeld.1.set_other (g':=b) (blk_ne hHeld.1 hBk (by decide)) 1 (.slice (some ⟨g1,0,none⟩) (nL + 1) cap)) (hHeld.2.set_other (g':=b) (blk_ne hHeld.2 hBk (by decide)) 1 (.slice (some ⟨g1,0,none⟩) (nL + 1) cap));clear ho hg hor hk0 hN hq hB6 hBk;refine rdy1 10 rfl ?_;intro K hK;go_simp;refine hK.out _ _ hHeld2 (fun hHeld => ?_);clear hK K hHeld hlt u1 f1;refine wpAnyH_done (by kernel_rfl) ?_ _;try simp only [Act.put,List.setIfInBounds_toArray,List.set_cons_succ,List.set_cons_zero]
     generalize W2.setCell ⟨b,1,none⟩ (.slice (some ⟨g1,0,none⟩) (nL + 1) cap) = W7 at *;go_wp2_with fail
     have hS7 : Blk W7.drew rb 128 #[.int .i64 1,.int .i64 id,.string d] ∧ Blk W7.drew eb 23 #[.int .i64 eid,.int .i64 eside,.string ekey,.string edata,.int .i64 edue,.bool ecust,.bool esent]:=hHeld2;have hq:=hq7.below ((Below.refl _ W7).drew);have hft:=hft7.ext ((Below.refl _ W7).drew);clear hHeld2 hq7 hft7;refine wp_region_held_drew (S:=fun W => Blk W rb 128 #[.int .i64 1,.int .i64 id,.string d] ∧ Blk W eb 23 #[.int .i64 eid,.int .i64 eside,.string ekey,.string edata,.int .i64 edue,.bool ecust,.bool esent]) (by kernel_rfl) hS7 (fun hHeld => ?_);generalize W7.drew = W0 at *;clear hS7;refine tk_ 0 43 rfl rfl ?_;refine tk_ 1 44 rfl rfl ?_;refine tk_ 2 45 rfl rfl ?_;refine tk_ 3 46 rfl rfl ?_;refine tk_ 5 48 rfl rfl ?_;refine tk_ 6 49 rfl rfl ?_ (fun wx hSx => by obtain ⟨r0,r1,r2,-⟩:=hSx.1.c3;go_simp;try with_reducible rfl);refine tk_ 7 50 rfl rfl ?_;refine tk_ 8 51 rfl rfl ?_ (fun wx hSx => by obtain ⟨⟨s0,s1,s2,s3,s4,s5,s6⟩,-⟩:=hSx.2.c7;go_simp;try with_reducible rfl);refine tk_ 9 52 rfl rfl ?_;refine rdy2 4 10 rfl rfl ?_ ?_;intro K hK;have x1 : W0.cell? ⟨b,2,none⟩ = some (.slice AK nK cK):=hq.blk.c6.2.2.1;go_simp;refine hK.out _ _ hHeld (fun hHeld => ?_);clear hK K x1;refine rdy1 10 rfl ?_;intro K hK;have hN:=Blk.new_ W0 158 #[.int .i64 id,.string ekey];have hEE:=ext_new W0 (.cells #[.int .i64 id,.string ekey] 158);go_simp;refine hK.out _ _ ⟨hHeld.1.below hEE,hHeld.2.below hEE⟩ (fun hHeld => ?_);clear hK K;replace hq:=hq.below hEE;replace hft:=hft.ext hEE;clear hEE;generalize W0.alloc (.cells #[.int .i64 id,.string ekey] 158) = W1 at *;rotate_left;intro K hK;have hN:=Blk.new_ W0 158 #[.int .i64 id,.string ekey];have hEE:=ext_new W0 (.cells #[.int .i64 id,.string ekey] 158);go_simp;refine hK.out _ _ ⟨hHeld.1.below hEE,hHeld.2.below hEE⟩ (fun hHeld => ?_);clear hK K;replace hq:=hq.below hEE;replace hft:=hft.ext hEE;clear hEE;generalize W0.alloc (.cells #[.int .i64 id,.string ekey] 158) = W1 at *;refine rdy1 4 rfl ?_;intro K hK;have x1 : W1.cell? ⟨b,2,none⟩ = some (.slice AK nK cK):=hq.blk.c6.2.2.1;go_simp;refine hK.out _ _ hHeld (fun hHeld => ?_);clear hK K x1
     all_goals
      have hk0 : W1.ownsRow 0 158 2 (.slice AK nK cK) q.s.K.length (cellsK q.s.K):=hq.key;rw [HN.out.2] at hk0;refine rdy1 11 rfl ?_;intro K hK;refine app_key rfl _ _ rfl hk0 hN (by go_simp) (by go_simp) (by have:=HL.out.2.1;have:=HN.out.2;omega) ?_;rintro g2 cap2 W2 ho hg hor hlt;refine hK.out _ _ ⟨hHeld.1.kept (hg.block _ hHeld.1.lt (own_type hk0 hHeld.1 (by decide))),hHeld.2.kept (hg.block _ hHeld.2.lt (own_type hk0 hHeld.2 (by decide)))⟩ (fun hHeld => ?_);clear hK K;refine tk_ 12 55 rfl rfl ?_;refine tk_ 13 56 rfl rfl ?_;have hBk:=hq.blk.kept (hg.block _ hq.blk.lt (own_type hk0 hq.blk (by decide)));have HF:=Lib.hid (show XWent w b ⟨.slice AL nL cL,.slice AK nK cK⟩ p g c k { q with s:=q.s.tell ⟨1,id,d⟩ } (W2.setCell ⟨b,2,none⟩ (.slice (some ⟨g2,0,none⟩) (nK + 1) cap2)) from by
       rw [HT.out,if_pos ⟨by simp,by simp,HFR2.out⟩];exact ⟨_,hq.key_ (x:=⟨id,ekey⟩) HN.out.2 ho hg,(hft.grown hg (fun kk hk => .inl (.inr <| .inr <| .inr <| .inr hk))).set (.inl (.inl rfl)) 2 _,fun j hj => (xf_key (V':=.slice (some ⟨g2,0,none⟩) (nK + 1) cap2) (hor.imp (fun e => e) (fun e => by rw [e];exact hft.size)) rfl hj).elim (HQ7.out j) .inr⟩)
      obtain ⟨-,-,u2,-,-,-,-,-,f2,-⟩:=hBk.c6;have hHeld2:=And.intro (hHeld.1.set_other (g':=b) (blk_ne hHeld.1 hBk (by decide)) 2 (.slice (some ⟨g2,0,none⟩) (nK + 1) cap2)) (hHeld.2.set_other (g':=b) (blk_ne hHeld.2 hBk (by decide)) 2 (.slice (some ⟨g2,0,none⟩) (nK + 1) cap2));clear ho hg hor hk0 hN hq hBk hft HT;refine rdy1 14 rfl ?_;intro K hK;go_simp;refine hK.out _ _ hHeld2 (fun hHeld => ?_);clear hK K hHeld hHeld2 hlt;refine wpAnyH_done (by kernel_rfl) ?_ _;try simp only [Act.put,List.setIfInBounds_toArray,List.set_cons_succ,List.set_cons_zero]
      go_wp2_with fail
      exact bodyPost_end (v:=.tuple #[]) (results_none (by kernel_rfl) _ _ _) rfl ⟨rfl,HF.out⟩
theorem xtell_any (r : RI) (h : XQ w b v p g c k q) (hok : q.s.Ok) (hd : r.d.size ≤ 1000000) :
  Calls Tryz.prog 70 #[.pointer (some ⟨b,1,none⟩),r.val] w fun e w' => e = .returned (.tuple #[]) ∧ XWent w b v p g c k { q with s:=q.s.tell r } w':=by
 obtain ⟨op,id,d⟩:=r
 by_cases h1 : op = 1
 ·subst h1;exact xtell_put id d h hok hd
 by_cases h5 : op = 5
 ·subst h5;exact xtell_key id d h hok hd
 have hl:=hok.len
 cases hp : placeL q.s.L id with
 | none =>
  have e:=tell_no (s:=q.s) (r:=⟨op,id,d⟩) h1 h5 hp;rw [e];exact xtell_stay (q:=q) op id d h (by omega) h1 h5 (.inl hp)
 | some i =>
  by_cases h2 : op = 2
  ·subst h2
   rw [tell_sent (s:=q.s) (r:=⟨2,id,d⟩) rfl hp];exact xtell_sent id d h (by omega) hp
  ·by_cases h34 : op = 3 ∨ op = 4
   ·rw [tell_end (s:=q.s) (r:=⟨op,id,d⟩) h34 hp]
    exact xtell_end op id d h (by omega) hp h34
   ·have e : q.s.tell ⟨op,id,d⟩ = q.s:=by
     unfold SN.tell;rw [if_neg h1,if_neg h5,show q.s.place id = some i from hp];dsimp only;rw [if_neg h2,if_neg h34]
    rw [e];exact xtell_stay (q:=q) op id d h (by omega) h1 h5 (.inr ⟨h2,fun q => h34 (.inl q),fun q => h34 (.inr q)⟩)
theorem XWent.trans {w1 w2 : World} {v1 : XV} {q2 : QN} (F1 : Foot (XF b v p g) w w1) (Q1 : ∀ j,XF b v1 p g j → XF b v p g j ∨ w.heap.size ≤ j) (h : XWent w1 b v1 p g c k q2 w2) : XWent w b v p g c k q2 w2 := by
 obtain ⟨v2,h1,h2,h3⟩:=h
 exact ⟨v2,h1,F1.trans h2 Q1,fun j hj => (h3 j hj).elim (Q1 j) fun e => .inr (Nat.le_trans F1.size e)⟩
theorem lenR_le {l : List RI} (h : ∀ x ∈ l,x.ok = true) : lenR l ≤ 2014 * l.length := by
 induction l with
 | nil => simp [lenR]
 | cons x l ih =>
  have h2:=ih fun y hy => h y (by simp [hy]);have h3:=(rightV_iff.1 (show rightV x.op x.id x.d = true from h x (by simp))).2.2.2;unfold lenR at h2 ⊢;rw [List.map_cons,List.sum_cons,List.length_cons];omega
theorem compX_ok {s : List UInt8} (hs : s = layL (q.s.snap.map RI.n)) : compX q s = if (compD q.d q.other s).2 = true then q.comp else { q with d := (compD q.d q.other s).1,down := true } := by
 subst hs
 unfold compX QN.comp
 rw [lay_lenR]
set_option maxRecDepth 100000 in
theorem xlog_any (r : RI) (h : XQ w b v p g c k q) (hW : QW q) (hu : q.down = false) (hr : r.ok = true) (hn : q.d.n ≤ 970000) :
  Calls Tryz.prog 71 #[.pointer (some ⟨b,0,none⟩),r.val] w fun ev w' => ev = .returned (.int .i64 (q.log r).2) ∧ ∃ k',XWent w b v p g c k' (q.log r).1 w':=by
 obtain ⟨rb,hrb⟩ : ∃ rb,w.heap.size = rb:=⟨_,rfl⟩
 have hE:=ext_new w (.cells #[.int .i64 r.op,.int .i64 r.id,.string r.d] 128)
 have hR:=Blk.new_ w 128 #[.int .i64 r.op,.int .i64 r.id,.string r.d]
 rw [hrb] at hR
 have cE:=rFEncode_ok r.op r.id r.d (w.alloc (.cells #[.int .i64 r.op,.int .i64 r.id,.string r.d] 128)) hr
 rw [show (⟨r.op.toNat,r.id.toNat,r.d.data.toList⟩ : RecN) = r.n from rfl] at cE
 obtain ⟨fs,hfs⟩ : ∃ fs : ByteArray,(⟨(frameL r.n).toArray⟩ : ByteArray) = fs:=⟨_,rfl⟩
 have hfl : fs.data.toList = frameL r.n:=by rw [← hfs]
 have hFL : (frameL r.n).length = 14 + r.d.size:=by rw [frameL_length,← list_size];rfl
 obtain ⟨m,hm⟩ : ∃ m,14 + r.d.size = m:=⟨_,rfl⟩
 have hFs : fs.size = m:=by rw [← hfs,list_size2,hFL,hm]
 have hrz : r.d.size ≤ 2000:=by have:=(rightV_iff.1 (show rightV r.op r.id r.d = true from hr)).2.2.2;omega
 have hm2 : m ≤ 2014:=by omega
 rw [hfs] at cE
 unfold recV at cE
 have HFL:=Lib.hid hfl
 have HFS:=Lib.hid hFs
 have HM:=Lib.hid hm
 have HRZ:=Lib.hid hrz
 have HLT:=Lib.hid (show ∀ j,XF b v p g j → j < rb from fun j hj => by rw [← hrb];exact h.lt hj)
 have hlen:=h.disk.len
 have hzl : q.sz ≤ 16384:=by unfold QN.sz szN;omega
 have htl:=hW.tail hu
 have HN9:=Lib.hid (And.intro hn hlen)
 have h9:=hW.nine
 obtain ⟨r0,r1,r2,-⟩:=hR.c3
 unfold RI.val
 clear hfs hfl hFL hrz
 go_enter Tryz.func71,Tryz.ntmps71
 go_wp2_with fail
 with_reducible refine cE.mono ?_
 rintro ev w1 ⟨rfl,hb1⟩
 have hb01:=ext_trans hE hb1
 have h1:=h.below hb01
 have hR1:=hR.below hb1
 have x4:=h1.blk.c6.2.2.2.2.1
 have hSz:=fun k => (fun (hx : XQ (w1.drewN k) b v p g _ _ q) => xsize_any (hx.blk.cell 0) (hx.disk.disk.cell 0) (by omega) hlen) (h1.below (below_drewN' (Below.refl w1.heap.size w1) k))
 rw [show szN q.d.L.length = q.sz from rfl] at hSz
 clear cE r0 r1 r2 hE hb1
 go_wp2_with fail
 go_quiet ((go_at_call 68;exact quiet_pure (hSz _)))
 have hbq:=below_drewN' (Below.refl w1.heap.size w1) nq
 have hB2:=ext_trans hb01 hbq
 have hQ:=h1.below hbq
 have HRB:=Lib.hid (hR1.below hbq)
 generalize w1.drewN nq = W2 at *
 clear x4 hSz h1 hR1 hb01 hbq hR
 by_cases hroom : q.tail + m + 1 ≤ q.sz
 obtain ⟨q0,k0,hlog,hq,hu0,hW0,hRM,hN0⟩ : ∃ (q0 : QN) (k0 : Nat),q.log r = q0.app r ∧ XQ W2 b v p g c k0 q0 ∧ q0.down = false ∧ QW q0 ∧ q0.tail + m + 1 ≤ q0.sz ∧ q0.d.n ≤ 980000:=⟨q,k,by unfold QN.log;rw [hm,if_pos hroom],hQ,hu,hW,hroom,by omega⟩
 have HLOG:=Lib.hid hlog
 have hft:=Foot.of_below (F:=XF b v p g) hB2
 have HUW:=Lib.hid (And.intro hu0 <| And.intro hW0 <| And.intro hRM hN0)
 clear hlog hQ hB2 hW hu hu0 hW0 hRM hN0 hn hm h9
 have hrr:=hroom
 clear hroom
 go_wp2_with fail
 generalize W2 = W0 at *
 clear hrr htl hzl hlen
 rotate_left
 obtain ⟨_,_,_,_,-,hS⟩:=hQ.xs
 have cN:=xsnap_any hS hW.ok
 have HSL:=Lib.hid (show q.s.snap.length ≤ 400 from by have:=hW.ok.snap_len;omega)
 have HOK:=Lib.hid hW.ok.snap_ok
 obtain ⟨n3,hn3⟩ : ∃ n3,lenR q.s.snap = n3:=⟨_,rfl⟩
 have hn3l : n3 ≤ 300000:=by
  have h1:=lenR_le HOK.out;have h2:=hW.ok.snap_len;omega
 obtain ⟨al,has⟩ : ∃ al : ByteArray,(⟨(layL (q.s.snap.map RI.n)).toArray⟩ : ByteArray) = al:=⟨_,rfl⟩
 have hasl : al.data.toList = layL (q.s.snap.map RI.n):=by rw [← has]
 have hass : al.size = n3:=by rw [← has,list_size2,lay_lenR,hn3]
 have hlog : q.log r = if n3 + m + 1 ≤ q.sz then (if (compD q.d q.other al.data.toList).2 = true then q.comp.app r else ({ q with d:=(compD q.d q.other al.data.toList).1,down:=true },180)) else (q,194):=by
  unfold QN.log;rw [hm,hn3,if_neg hroom,hasl]
 have HCP:=Lib.hid (compX_ok (q:=q) hasl)
 have HTL:=Lib.hid (show q.comp.tail = n3 from hn3)
 have HAS:=Lib.hid has
 have HASS:=Lib.hid hass
 have HLG:=Lib.hid hlog
 have HQ:=Lib.hid hQ
 have HB2:=Lib.hid hB2
 have HW:=Lib.hid hW
 have HU:=Lib.hid hu
 clear hS has hn3 hasl hlog hQ hB2 hn hm hW hu
 go_wp2_with fail
 with_reducible refine cN.mono ?_
 rintro ev w3 ⟨V,rfl,hown,hb3⟩
 obtain ⟨-,A3,c3,rfl,hrd⟩:=rdR_own hown
 have cL:=rFLay_any A3 c3 _ q.s.snap w3 rfl hrd HSL.out
 rw [layV_ok HOK.out,HAS.out] at cL
 clear cN hown hrd
 generalize q.s.snap.length = sl at *
 go_wp2_with fail
 with_reducible refine cL.mono ?_
 rintro ev w4 ⟨rfl,hb4⟩
 have hb34:=ext_trans hb3 hb4
 have hQ4:=HQ.out.below hb34
 have hB4:=ext_trans HB2.out hb34
 have hR4:=HRB.out.below hb34
 have cS:=xsize_any (hQ4.blk.cell 0) (hQ4.disk.disk.cell 0) (by omega) hlen
 rw [show szN q.d.L.length = q.sz from rfl] at cS
 clear cL hb3 hb4 hb34 HRB
 go_wp2_with fail
 with_reducible refine cS.mono ?_
 rintro ev w5 ⟨rfl,rfl⟩
 clear cS
 rcases (Decidable.em (n3 + m + 1 ≤ q.sz)).symm with hfull | hfull
 ·have hl2:=HLG.out
  rw [if_neg hfull] at hl2;have HL2:=Lib.hid hl2;have HF2:=Lib.hid (show XWent w b v p g c k q w4 from ⟨v,hQ4,.of_below hB4,fun _ hj => .inl hj⟩);clear hl2 hQ4 hB4 hR4;go_wp2_with fail
  go_ret;exact ⟨by rw [HL2.out];rfl,k,by rw [HL2.out];exact HF2.out⟩
 have cC:=xcompact_any al hQ4 HU.out (HW.out.up HU.out) (by rw [hass];unfold QN.sz at hfull;omega) h9 (by have:=HN9.out.1;omega)
 rw [HCP.out] at cC
 have hl2:=HLG.out
 rw [if_pos hfull] at hl2
 obtain ⟨hd1,hd2,hd3⟩:=compD_len HW.out.fit (HW.out.up HU.out) q.other al.data.toList h9 (by rw [list_size,hass];unfold QN.sz at hfull;omega)
 have hdu:=compD_up (d:=q.d) (o:=q.other) (s:=al.data.toList)
 have HFU:=Lib.hid hfull
 generalize hcd : (compD q.d q.other al.data.toList).2 = cok at *
 have hcL : cok = true → q.comp.d = (compD q.d q.other al.data.toList).1:=fun _ => by
  show (compD q.d q.other (layL (q.s.snap.map RI.n))).1 = _;rw [← show al.data.toList = layL (q.s.snap.map RI.n) from by rw [← HAS.out]]
 have HD:=Lib.hid (And.intro hd1 <| And.intro hd2 <| And.intro hd3 <| And.intro hdu hcL)
 have HL2:=Lib.hid hl2
 have HB4:=Lib.hid hB4
 have HR4:=Lib.hid hR4
 clear hd1 hd2 hd3 hdu hcL hl2 hcd hQ4 hB4 hR4
 go_wp2_with fail
 clear hfull
 with_reducible refine cC.mono ?_
 rintro ev w6 ⟨rfl,k1,hq6,hf6⟩
 clear cC
 cases cok with
 | false =>
  rw [if_neg (by decide)] at hq6;obtain ⟨-,-,-,-,-,d5,-⟩:=hq6.blk.c6;have HF:=Lib.hid (show XWent w b v p g c k1 (q.log r).1 w6 from by rw [HL2.out,if_neg (by decide)];exact ⟨v,hq6,(Foot.of_below HB4.out).trans hf6 (fun _ q => .inl q),fun _ hj => .inl hj⟩);clear hq6 hf6;go_wp2_with fail
  go_ret;exact ⟨by rw [HL2.out,if_neg (by decide)];rfl,k1,HF.out⟩
 | true => ?_
 rw [if_pos rfl] at hq6
 have hft:=(Foot.of_below (F:=XF b v p g) HB4.out).trans hf6 (fun _ q => .inl q)
 have HRB:=Lib.hid (HR4.out.kept (hf6.block rb HR4.out.lt (fun e => Nat.lt_irrefl _ (HLT.out rb e))))
 obtain ⟨q0,k0,hlog,hq,hu0,hW0,hRM,hN0⟩ : ∃ (q0 : QN) (k0 : Nat),q.log r = q0.app r ∧ XQ w6 b v p g c k0 q0 ∧ q0.down = false ∧ QW q0 ∧ q0.tail + m + 1 ≤ q0.sz ∧ q0.d.n ≤ 980000:=by
  obtain ⟨d1,d2,d3,d4,d5⟩:=HD.out;have e:=d5 rfl;have hl : q.comp.d.L.length = q.d.L.length:=by rw [e];exact d2
  refine ⟨q.comp,k1,by rw [HL2.out,if_pos rfl],hq6,HU.out,⟨HW.out.ok,by rw [hl];exact h9,by rw [e];exact d1,fun _ => by rw [e];exact d4 rfl,fun _ => ?_⟩,?_,?_⟩
  ·show q.comp.tail ≤ szN q.comp.d.L.length
   rw [hl,HTL.out];have:=HFU.out;unfold QN.sz at this;omega
  ·show q.comp.tail + m + 1 ≤ szN q.comp.d.L.length
   rw [hl,HTL.out];exact HFU.out
  ·rw [e]
   have:=HN9.out;omega
 have HLOG:=Lib.hid hlog
 have HUW:=Lib.hid (And.intro hu0 <| And.intro hW0 <| And.intro hRM hN0)
 obtain ⟨-,-,-,-,-,d5,-⟩:=hq.blk.c6
 rw [hu0] at d5
 clear hlog hu0 hW0 hRM hN0 hq6 hf6 HR4 HB4 HD HL2 HFU hroom h9 htl hzl hlen hass
 go_wp2_with fail
 clear d5
 generalize w6 = W0 at *
 all_goals
  have hqd:=hq.below ((Below.refl _ W0).drew);have hftd:=hft.ext ((Below.refl _ W0).drew);have hRBd : Blk W0.drew rb 128 #[.int .i64 r.op,.int .i64 r.id,.string r.d]:=HRB.out;clear hq hft HRB;obtain ⟨-,-,-,y3,y4,-⟩:=hqd.blk.c6;have hS9:=And.intro y3 y4;refine wp_region_held_drew (S:=fun W => W.cell? ⟨b,3,none⟩ = some (.int .i64 (oI q0.other)) ∧ W.cell? ⟨b,4,none⟩ = some (.int .i64 (q0.tail : Int))) (by kernel_rfl) hS9 (fun hHeld => ?_);generalize W0.drew = W1 at *;clear hS9 y3 y4;have q1 : ¬ (9223372036854775807 < fs.size + (⟨#[0]⟩ : ByteArray).size):=by rw [HFS.out];show ¬ (_ < m + 1);omega
  obtain ⟨hu0,hW0,hRM,hN0⟩:=HUW.out;have hs0 : (fs ++ ⟨#[0]⟩).size = m + 1:=by rw [ByteArray.size_append,HFS.out];rfl
  have hsd : (fs ++ ⟨#[0]⟩).data.toList = frameL r.n ++ [0]:=by rw [← HFL.out];simp
  have cL:=xlay_any q0.other q0.tail (beginN q0.d.L.length q0.other + q0.tail) (fs ++ ⟨#[0]⟩) true hqd hu0 (hW0.up hu0) rfl (by rw [hs0];omega) (by rw [hs0];have:=sz_lt hW0.nine q0.other;unfold QN.sz at hRM;omega) hW0.nine (by omega);rw [hsd,show layW q0 (beginN q0.d.L.length q0.other + q0.tail) (frameL r.n ++ [0]) true = q0.appW (beginN q0.d.L.length q0.other + q0.tail) (frameL r.n) from rfl,appW_eq hu0] at cL;have hap : q0.app r = q0.fin r (appD q0.d (beginN q0.d.L.length q0.other + q0.tail) (frameL r.n)):=rfl;have hzq : q0.tail + m + 1 ≤ 16384:=by have:=hqd.disk.len;unfold QN.sz szN at hRM;omega
  obtain ⟨⟨d',ok⟩,hpd⟩ : ∃ pd,appD q0.d (beginN q0.d.L.length q0.other + q0.tail) (frameL r.n) = pd:=⟨_,rfl⟩
  rw [hpd] at cL hap;dsimp only at cL;have HAP:=Lib.hid hap;have HCL:=Lib.hid cL;have HZQ:=Lib.hid hzq;have HFT:=Lib.hid hftd;have HRD:=Lib.hid hRBd;clear hap hpd hs0 hsd hqd hu0 hW0 hRM hN0 cL hzq hftd hRBd;refine tk_ 0 49 rfl rfl ?_;refine tk_ 1 50 rfl rfl ?_;refine tk_ 2 51 rfl rfl ?_;refine tk_ 3 52 rfl rfl ?_;refine tk_ 4 53 rfl rfl ?_ (fun wx hSx => by obtain ⟨y3,y4⟩:=hSx;go_simp;try with_reducible rfl);refine tk_ 5 54 rfl rfl ?_;refine tk_ 6 55 rfl rfl ?_;refine tk_ 7 56 rfl rfl ?_;refine tk_ 8 57 rfl rfl ?_ (fun wx hSx => by obtain ⟨y3,y4⟩:=hSx;go_simp;try with_reducible rfl);refine tk_ 9 58 rfl rfl ?_;refine wpAnyH_tk (i:=10) (v:=?_) (some 59) rfl rfl ?_ ?_;rotate_left
  ·intro wx hSx
   go_simp;rw [if_neg (by omega)]
  refine rdy1 11 rfl ?_;intro K hK;go_simp;with_reducible refine HCL.out.mono ?_
  rintro e w3 ⟨rfl,k1,hx3,hf3⟩;try go_wp2_with fail
  obtain ⟨-,-,-,x3,x4,x5,-,-,-,-,f4,-⟩:=hx3.blk.c6;refine hK.out _ _ ⟨x3,x4⟩ (fun hHeld => ?_);clear hK K hHeld HCL q1;refine wpAnyH_done (by kernel_rfl) ?_ _;try simp only [Act.put,List.setIfInBounds_toArray,List.set_cons_succ,List.set_cons_zero]
  cases ok with
  | false =>
   have HF:=Lib.hid (show XWent w b v p g c k1 (q.log r).1 w3 from by rw [HLOG.out,HAP.out];exact ⟨v,hx3,HFT.out.trans hf3 (fun _ q => .inl q),fun _ hj => .inl hj⟩);clear hx3 hf3;go_wp2_with fail
   go_ret;exact ⟨by rw [HLOG.out,HAP.out];rfl,k1,HF.out⟩
  | true =>
   have hs4:=hx3.set (q':=⟨d',q0.s,q0.other,q0.tail + m,!true⟩) 4 (.int .i64 ((q0.tail + m : Nat) : Int)) rfl rfl rfl;have hf4:=xf_set (HFT.out.trans hf3 (fun _ q => .inl q)) 4 (.int .i64 ((q0.tail + m : Nat) : Int));have hR3:=HRD.out.kept (hf3.block rb HRD.out.lt (fun e => Nat.lt_irrefl _ (HLT.out rb e)));have hR4:=hR3.set_other (g':=b) (blk_ne hR3 hx3.blk (by decide)) 4 (.int .i64 ((q0.tail + m : Nat) : Int));rw [Int.natCast_add] at hs4 hf4 hR4;have hzq:=HZQ.out;have HQE:=Lib.hid (show QN.mk d' (q0.s.tell r) q0.other (q0.tail + m) (!true) = (q0.fin r (d',true)).1 from by unfold QN.fin;rw [if_pos rfl];dsimp only;rw [HM.out,HUW.out.1];rfl);have HS4:=Lib.hid hs4;have HF4:=Lib.hid hf4;have HR4:=Lib.hid hR4;clear hx3 hf3 hR3 hs4 hf4 hR4;go_wp2_with fail
   have hs5:=HS4.out.below ((Below.refl _ (w3.setCell ⟨b,4,none⟩ (.int .i64 ((q0.tail : Int) + (m : Int))))).drew);have hf5:=HF4.out.ext ((Below.refl _ (w3.setCell ⟨b,4,none⟩ (.int .i64 ((q0.tail : Int) + (m : Int))))).drew);have hR5 : Blk (w3.setCell ⟨b,4,none⟩ (.int .i64 ((q0.tail : Int) + (m : Int)))).drew rb 128 #[.int .i64 r.op,.int .i64 r.id,.string r.d]:=HR4.out;clear HS4 HF4 HR4;refine wp_region_held_drew (S:=fun W => Blk W rb 128 #[.int .i64 r.op,.int .i64 r.id,.string r.d]) (by kernel_rfl) hR5 (fun hHeld => ?_);generalize (w3.setCell ⟨b,4,none⟩ (.int .i64 ((q0.tail : Int) + (m : Int)))).drew = W5 at *;have cT:=xtell_any r hs5 HUW.out.2.1.ok (by have:=HRZ.out;omega);unfold RI.val at cT;clear hR5 hs5;refine tk_ 0 75 rfl rfl ?_;refine tk_ 1 76 rfl rfl ?_;refine tk_ 2 77 rfl rfl ?_;refine tk_ 3 78 rfl rfl ?_ (fun wx hSx => by obtain ⟨r0,r1,r2,-⟩:=hSx.c3;go_simp;try with_reducible rfl);refine rdy1 4 rfl ?_;intro K hK;go_simp;with_reducible refine cT.mono ?_
   rintro e w7 ⟨rfl,hX7⟩;have HF:=Lib.hid (show XWent w b v p g c k1 (q.log r).1 w7 from by rw [HLOG.out,HAP.out,← HQE.out];exact XWent.trans hf5 (fun _ q => .inl q) hX7);have hR7 : Blk w7 rb 128 #[.int .i64 r.op,.int .i64 r.id,.string r.d]:=by
    obtain ⟨v2,-,f2,-⟩:=hX7;exact hHeld.kept (f2.block rb hHeld.lt (fun e => Nat.lt_irrefl _ (HLT.out rb e)))
   try go_wp2_with fail
   refine hK.out _ _ hR7 (fun hHeld => ?_);clear hK K hHeld hX7 cT hf5 hR7;refine wpAnyH_done (by kernel_rfl) ?_ _;try simp only [Act.put,List.setIfInBounds_toArray,List.set_cons_succ,List.set_cons_zero]
   go_wp2_with fail
   go_ret;exact ⟨by rw [HLOG.out,HAP.out];rfl,k1,HF.out⟩
end Go.Proofs.YtmebjdbkngehiaaGreatDoor
