/-
  The document's tell, Sent, Done and Drop. Conditions: as the theorems' own hypotheses say. The document's Put. Conditions: as the theorem's own hypotheses say.
-/
import Derived.Test.YtmebjdbkngehiaaGreatDoorQiD
import Derived.Test.YtmebjdbkngehiaaGreatDoorQhI
import Derived.Test.YtmebjdbkngehiaaGreatDoorQvK
namespace Go.Proofs.YtmebjdbkngehiaaGreatDoor
open Go.RowKit Go.Shelf
set_option maxHeartbeats 40000000
variable {w : World} {b p g c k : Nat} {v : XV} {q : QN}
set_option maxRecDepth 100000 in
theorem xbec_any (op id : Int) (hop : op = 2 ∨ op = 3 ∨ op = 4) (h : XQ w b v p g c k q) (hW : QW q) (hn : q.d.n ≤ 970000) :
  Calls Tryz.prog 88 #[.pointer (some ⟨b,0,none⟩),.int .i64 op,.int .i64 id] w fun e w' => e = .returned (.int .i64 (q.became op id).2) ∧ ∃ k',XWent w b v p g c k' (q.became op id).1 w':=by
 have HEND:=Lib.hid (show XWent w b v p g c k q w from .stay h (Below.refl _ _))
 obtain ⟨-,-,-,-,-,x5,-⟩:=h.blk.c6
 rcases bool_cases q.down with hd | hd
 ·rw [hd] at x5
  have hl:=hW.ok.len;obtain ⟨AL,AK,cL,cK,rfl,hS⟩:=h.xs;have cP:=xplace_any id hS (by omega)
  cases hp : placeL q.s.L id with
  | none =>
   have e1 : q.became op id = (q,193):=by unfold QN.became;rw [if_neg (by rw [hd];decide),show q.s.place id = none from hp]
   have hz : placeZ q.s.L id = -1:=by unfold placeZ;rw [hp]
   rw [hz] at cP;rw [e1];clear hz e1 hp hS hW h hd hop;go_enter Tryz.func88,Tryz.ntmps88;go_wp2_with fail
   with_reducible refine cP.mono ?_
   rintro e w1 ⟨rfl,rfl⟩;go_wp2_with fail
   go_ret;exact ⟨rfl,k,HEND.out⟩
  | some i =>
   obtain ⟨hi,-,-⟩:=placeL_some hp;have hz : placeZ q.s.L id = (i : Int):=by unfold placeZ;rw [hp]
   rw [hz] at cP;have e1 : q.became op id = if op = 2 ∧ q.s.L[i].sent = true then (q,0) else q.log ⟨op,id,ByteArray.empty⟩:=by
    unfold QN.became;rw [if_neg (by rw [hd];decide),show q.s.place id = some i from hp];dsimp only;rw [List.getD_eq_getElem?_getD,List.getElem?_eq_getElem hi]
    rfl
   have hok : (⟨op,id,ByteArray.empty⟩ : RI).ok = true:=rightV_iff.2 ⟨(show (1 : Int) ≤ op by omega),(show op ≤ 9 by omega),place_num hW.ok hp,(by decide : ByteArray.empty.size ≤ 2000)⟩;have cL:=xlog_any ⟨op,id,ByteArray.empty⟩ h hW hd hok hn;change Calls _ _ #[.pointer (some ⟨b,0,none⟩),.agg #[.int .i64 op,.int .i64 id,.string ⟨#[]⟩]] _ _ at cL;obtain ⟨gr,rfl,hgl,hc⟩:=hS.ents (by omega);obtain ⟨-,-,-,-,-,-,g6⟩:=hc i hi;have x1:=hS.l;have i0 : ¬ (i : Int) < 0:=by omega
   have i1 : (i : Int) < (q.s.L.length : Int):=by omega
   have i2 : (0 : Int) ≤ (i : Int):=by omega
   obtain ⟨n,hnl⟩ : ∃ n,q.s.L.length = n:=⟨_,rfl⟩
   rw [hnl] at x1 i1;obtain ⟨st,hst⟩ : ∃ s,q.s.L[i].sent = s:=⟨_,rfl⟩
   rw [hst] at e1 g6;have HE1:=Lib.hid e1;clear hz e1 hp hS hW h hd hc hst hok hnl;by_cases h2 : op = 2
   ·subst h2
    cases st with
    | true =>
     rw [HE1.out,if_pos ⟨rfl,rfl⟩];clear hop cL;go_enter Tryz.func88,Tryz.ntmps88;go_wp2_with fail
     with_reducible refine cP.mono ?_
     rintro e w1 ⟨rfl,rfl⟩;go_wp2_with fail
     go_ret;exact ⟨rfl,k,HEND.out⟩
    | false =>
     rw [HE1.out,if_neg (fun e => by cases e.2)];clear hop;go_enter Tryz.func88,Tryz.ntmps88;go_wp2_with fail
     with_reducible refine cP.mono ?_
     rintro e w1 ⟨rfl,rfl⟩;go_wp2_with fail
     with_reducible refine cL.mono ?_
     rintro e w2 ⟨rfl,hx⟩;go_wp2_with fail
     go_ret;exact ⟨rfl,hx⟩
   ·have h2b : (op == 2) = false:=by simp [h2]
    rw [HE1.out,if_neg (fun e => h2 e.1)];clear hop h2;go_enter Tryz.func88,Tryz.ntmps88;go_wp2_with fail
    with_reducible refine cP.mono ?_
    rintro e w1 ⟨rfl,rfl⟩;go_wp2_with fail
    with_reducible refine cL.mono ?_
    rintro e w2 ⟨rfl,hx⟩;go_wp2_with fail
    go_ret;exact ⟨rfl,hx⟩
 ·rw [hd] at x5
  have e1 : q.became op id = (q,180):=by unfold QN.became;rw [if_pos hd]
  rw [e1];clear e1 h hW hd hop;go_enter Tryz.func88,Tryz.ntmps88;go_wp2_with fail
  go_ret;exact ⟨rfl,k,HEND.out⟩
theorem xSent_any (id : Int) (h : XQ w b v p g c k q) (hW : QW q) (hn : q.d.n ≤ 970000) :
  Calls Tryz.prog 52 #[.pointer (some ⟨b,0,none⟩),.int .i64 id] w fun e w' => e = .returned (.int .i64 (q.became 2 id).2) ∧ ∃ k',XWent w b v p g c k' (q.became 2 id).1 w':=by
 have cB:=xbec_any 2 id (by omega) h hW hn
 clear h hW hn
 go_enter Tryz.func52,Tryz.ntmps52
 go_wp2_with fail
 with_reducible refine cB.mono ?_
 rintro e w1 ⟨rfl,hx⟩
 go_wp2_with fail
 go_ret
 exact ⟨rfl,hx⟩
theorem xDone_any (id : Int) (h : XQ w b v p g c k q) (hW : QW q) (hn : q.d.n ≤ 970000) :
  Calls Tryz.prog 53 #[.pointer (some ⟨b,0,none⟩),.int .i64 id] w fun e w' => e = .returned (.int .i64 (q.became 3 id).2) ∧ ∃ k',XWent w b v p g c k' (q.became 3 id).1 w':=by
 have cB:=xbec_any 3 id (by omega) h hW hn
 clear h hW hn
 go_enter Tryz.func53,Tryz.ntmps53
 go_wp2_with fail
 with_reducible refine cB.mono ?_
 rintro e w1 ⟨rfl,hx⟩
 go_wp2_with fail
 go_ret
 exact ⟨rfl,hx⟩
theorem xDrop_any (id : Int) (h : XQ w b v p g c k q) (hW : QW q) (hn : q.d.n ≤ 970000) :
  Calls Tryz.prog 54 #[.pointer (some ⟨b,0,none⟩),.int .i64 id] w fun e w' => e = .returned (.int .i64 (q.became 4 id).2) ∧ ∃ k',XWent w b v p g c k' (q.became 4 id).1 w':=by
 have cB:=xbec_any 4 id (by omega) h hW hn
 clear h hW hn
 go_enter Tryz.func54,Tryz.ntmps54
 go_wp2_with fail
 with_reducible refine cB.mono ?_
 rintro e w1 ⟨rfl,hx⟩
 go_wp2_with fail
 go_ret
 exact ⟨rfl,hx⟩
theorem owed_take {l : List EI} {j : Nat} (h : j < l.length) : ((l.take (j + 1)).map EI.cost).sum = ((l.take j).map EI.cost).sum + l[j].cost := by
 rw [List.take_succ_eq_append_getElem h,List.map_append,List.sum_append]
 simp
theorem owed_le (l : List EI) : (l.map EI.cost).sum ≤ 28 * l.length := by
 induction l with
 | nil => simp
 | cons e l ih =>
  have : e.cost ≤ 28:=by unfold EI.cost;split <;> omega
  simp only [List.map_cons,List.sum_cons,List.length_cons];omega
def XPutAt (w : World) (b : Nat) (v : XV) (p g c : Nat) (r : QN × Int × Int) (ev : Ending) (w' : World) : Prop := ev = .returned (.tuple #[.int .i64 r.2.1,.int .i64 r.2.2]) ∧ ∃ k',XWent w b v p g c k' r.1 w'
set_option maxRecDepth 100000 in
theorem xput_any (e : EI) (h : XQ w b v p g c k q) (hW : QW q) (hk : e.key.size ≤ 1000000) (hdz : e.data.size ≤ 1000000) (hn : q.d.n ≤ 970000) :
  Calls Tryz.prog 51 #[.pointer (some ⟨b,0,none⟩),e.val] w (XPutAt w b v p g c (q.put e)):=by
 obtain ⟨ei,es,ek,ed,eu,ec,et⟩:=e
 obtain ⟨eb,heb⟩ : ∃ eb,w.heap.size = eb:=⟨_,rfl⟩
 have hbE:=ext_new w (.cells #[.int .i64 ei,.int .i64 es,.string ek,.string ed,.int .i64 eu,.bool ec,.bool et] 23)
 have hBE : Blk (w.alloc (.cells #[.int .i64 ei,.int .i64 es,.string ek,.string ed,.int .i64 eu,.bool ec,.bool et] 23)) eb 23 #[.int .i64 ei,.int .i64 es,.string ek,.string ed,.int .i64 eu,.bool ec,.bool et]:=Blk.at_ (by rw [heb])
 have hx1:=h.below hbE
 obtain ⟨-,-,-,-,-,x5,-⟩:=hx1.blk.c6
 have hlen:=h.disk.len
 have HST:=Lib.hid (fun (W : World) (hb : Below w.heap.size w W) => (show XWent w b v p g c k q W from .stay h hb))
 have HLT:=Lib.hid (fun (j : Nat) (hj : XF b v p g j) => h.lt hj)
 unfold EI.val
 dsimp only at hk hdz ⊢
 rcases bool_cases q.down with hd | hd
 rotate_left
 ·rw [hd] at x5
  have e1 : q.put ⟨ei,es,ek,ed,eu,ec,et⟩ = (q,0,180):=by unfold QN.put;rw [if_pos hd]
  rw [e1];have HF:=Lib.hid (HST.out _ hbE);clear e1 h hW hd hx1 hBE hbE;go_enter Tryz.func51,Tryz.ntmps51;go_wp2_with fail
  go_ret2
  exact ⟨rfl,k,HF.out⟩
 rw [hd] at x5
 have hok:=hW.ok
 have hl:=hok.len
 have hlk:=hok.most
 obtain ⟨nb0,nb1⟩:=next_bounds hok
 obtain ⟨nx,hnx⟩ : ∃ n,q.s.next = n:=⟨_,rfl⟩
 have HPUT:=Lib.hid (show q.put ⟨ei,es,ek,ed,eu,ec,et⟩ =
  if ¬ (ei = 0 ∧ et = false ∧ (EI.mk nx es ek ed eu ec et).right = true) then (q,0,191)
  else if q.s.knows ek = true then (q,0,192)
  else if 60 ≤ q.s.K.length ∨ q.sz < lenR q.s.snap + (14 + (EI.mk nx es ek ed eu ec et).ri.d.size) + (q.s.owed + 28) + 1 then (q,0,194)
  else if (q.log (EI.mk nx es ek ed eu ec et).ri).2 = 0 then ((q.log (EI.mk nx es ek ed eu ec et).ri).1,nx,0) else ((q.log (EI.mk nx es ek ed eu ec et).ri).1,0,(q.log (EI.mk nx es ek ed eu ec et).ri).2) from by
  unfold QN.put QN.asNew;rw [if_neg (by rw [hd];decide),hnx])
 obtain ⟨_,_,_,_,-,hS⟩:=hx1.xs
 have cN:=fun W (hb : Below _ _ W) => xnext_any (hS.below hb) (by omega) (by omega)
 rw [hnx] at cN
 have HCN:=Lib.hid cN
 have HX1:=Lib.hid hx1
 have HW:=Lib.hid (And.intro hW <| And.intro hd hn)
 have HBE:=Lib.hid (And.intro hbE hBE)
 obtain ⟨e0,e1,e2,e3,e4,e5,e6⟩:=hBE.c7.1
 clear h hW hx1 hd hok hnx cN hbE hBE hS
 go_enter Tryz.func51,Tryz.ntmps51
 go_wp2_with fail
 with_reducible refine (HCN.out _ (ext_new _ _)).mono ?_
 rintro ev w3 ⟨rfl,rfl⟩
 clear HCN
 by_cases he0 : ei = 0
 rotate_left
 ·have HF:=Lib.hid (show q.put ⟨ei,es,ek,ed,eu,ec,et⟩ = (q,0,191) from by rw [HPUT.out,if_pos (fun e => he0 e.1)])
  have hne : (ei != 0) = true:=by simp [he0]
  clear HPUT;go_wp2_with fail
  go_ret2
  exact ⟨by rw [HF.out];rfl,k,by rw [HF.out];exact HST.out _ (ext_alloc (ext_new _ _) _)⟩
 subst he0
 cases et with
 | true =>
  have HF:=Lib.hid (show q.put ⟨0,es,ek,ed,eu,ec,true⟩ = (q,0,191) from by rw [HPUT.out,if_pos (fun e => by cases e.2.1)]);clear HPUT;go_wp2_with fail
  go_ret2
  exact ⟨by rw [HF.out];rfl,k,by rw [HF.out];exact HST.out _ (ext_alloc (ext_new _ _) _)⟩
 | false => ?_
 have cR:=fun W => xright_any ⟨nx,es,ek,ed,eu,ec,false⟩ W
 have hRG:=fun (hr : (EI.mk nx es ek ed eu ec false).right = true) W => xrecord_any ⟨nx,es,ek,ed,eu,ec,false⟩ W hr
 have hrok:=fun (hr : (EI.mk nx es ek ed eu ec false).right = true) => rec_ok' hr
 have hcst:=fun W => xcost_any ⟨nx,es,ek,ed,eu,ec,false⟩ W
 rw [show (EI.mk nx es ek ed eu ec false).cost = 28 from rfl] at hcst
 have hcw:=HPUT.out
 have HRI:=Lib.hid (show (EI.mk nx es ek ed eu ec false).ri.op = 1 ∧ (EI.mk nx es ek ed eu ec false).ri.id = nx from ⟨rfl,rfl⟩)
 obtain ⟨rt,hrt⟩ : ∃ x,(EI.mk nx es ek ed eu ec false).right = x:=⟨_,rfl⟩
 obtain ⟨ri,hri⟩ : ∃ x,(EI.mk nx es ek ed eu ec false).ri = x:=⟨_,rfl⟩
 rw [hri] at hRG hrok hcw HRI
 rw [hrt] at cR hRG hrok hcw
 obtain ⟨rop,rid,rd⟩:=ri
 obtain ⟨h1,h2⟩:=HRI.out
 dsimp only at h1 h2
 subst h1
 rw [h2] at hRG hrok hcw
 clear h2 HRI
 unfold EI.val at cR hcst
 unfold EI.val RI.val at hRG
 dsimp only at cR hRG hcst
 have HPUT:=Lib.hid hcw
 have HRG:=Lib.hid hRG
 have HRK:=Lib.hid hrok
 have HCS:=Lib.hid hcst
 have HCR:=Lib.hid cR
 clear hRG hrok hcw hcst cR hrt hri
 have HB5:=Lib.hid (show Below w.heap.size w ((w.alloc (.cells #[.int .i64 0,.int .i64 es,.string ek,.string ed,.int .i64 eu,.bool ec,.bool false] 23)).alloc (.cells #[.int .i64 nx,.int .i64 es,.string ek,.string ed,.int .i64 eu,.bool ec,.bool false] 23)) from ext_alloc (ext_new _ _) _)
 have HS5:=Lib.hid (show Blk ((w.alloc (.cells #[.int .i64 0,.int .i64 es,.string ek,.string ed,.int .i64 eu,.bool ec,.bool false] 23)).alloc (.cells #[.int .i64 nx,.int .i64 es,.string ek,.string ed,.int .i64 eu,.bool ec,.bool false] 23)) eb 23 #[.int .i64 0,.int .i64 es,.string ek,.string ed,.int .i64 eu,.bool ec,.bool false] ∧ Blk ((w.alloc (.cells #[.int .i64 0,.int .i64 es,.string ek,.string ed,.int .i64 eu,.bool ec,.bool false] 23)).alloc (.cells #[.int .i64 nx,.int .i64 es,.string ek,.string ed,.int .i64 eu,.bool ec,.bool false] 23)) (eb + 1) 23 #[.int .i64 nx,.int .i64 es,.string ek,.string ed,.int .i64 eu,.bool ec,.bool false] from ⟨HBE.out.2.alloc _,Blk.at_ (by simp [heb])⟩)
 have HX5:=Lib.hid (HX1.out.below (ext_new _ (.cells #[.int .i64 nx,.int .i64 es,.string ek,.string ed,.int .i64 eu,.bool ec,.bool false] 23)))
 have hel : w.heap.size ≤ eb:=Nat.le_of_eq heb
 have HEL:=Lib.hid hel
 clear HX1 HBE e0 e1 e2 e3 e4 e5 e6 x5 hel
 go_wp2_with fail
 generalize (w.alloc (.cells #[.int .i64 0,.int .i64 es,.string ek,.string ed,.int .i64 eu,.bool ec,.bool false] 23)).alloc (.cells #[.int .i64 nx,.int .i64 es,.string ek,.string ed,.int .i64 eu,.bool ec,.bool false] 23) = W5 at *
 clear heb
 with_reducible refine (HCR.out W5).mono ?_
 rintro ev w6 ⟨rfl,hb6⟩
 have hB6:=ext_trans HB5.out hb6
 have hS6:=And.intro (HS5.out.1.below hb6) (HS5.out.2.below hb6)
 have hX6:=HX5.out.below hb6
 clear HCR HB5 HS5 HX5 hb6
 cases rt with
 | false =>
  have HF:=Lib.hid (show q.put ⟨0,es,ek,ed,eu,ec,false⟩ = (q,0,191) from by rw [HPUT.out,if_pos (fun e => by cases e.2.2)]);clear HPUT hS6 hX6;go_wp2_with fail
  go_ret2
  exact ⟨by rw [HF.out];rfl,k,by rw [HF.out];exact HST.out _ hB6⟩
 | true => ?_
 have HPU2:=Lib.hid (show q.put ⟨0,es,ek,ed,eu,ec,false⟩ = if q.s.knows ek = true then (q,0,192)
  else if 60 ≤ q.s.K.length ∨ q.sz < lenR q.s.snap + (14 + rd.size) + (q.s.owed + 28) + 1 then (q,0,194)
  else if (q.log ⟨1,nx,rd⟩).2 = 0 then ((q.log ⟨1,nx,rd⟩).1,nx,0) else ((q.log ⟨1,nx,rd⟩).1,0,(q.log ⟨1,nx,rd⟩).2) from HPUT.out.trans (if_neg (by simp)))
 clear HPUT
 go_wp2_with fail
 have hS7 : Blk w6.drew eb 23 #[.int .i64 0,.int .i64 es,.string ek,.string ed,.int .i64 eu,.bool ec,.bool false] ∧ Blk w6.drew (eb + 1) 23 #[.int .i64 nx,.int .i64 es,.string ek,.string ed,.int .i64 eu,.bool ec,.bool false]:=hS6
 have hX7:=hX6.below ((Below.refl _ w6).drew)
 have hB7:=hB6.drew
 clear hS6 hX6 hB6
 refine wp_region_held_drew (S:=fun W => Blk W eb 23 #[.int .i64 0,.int .i64 es,.string ek,.string ed,.int .i64 eu,.bool ec,.bool false] ∧ Blk W (eb + 1) 23 #[.int .i64 nx,.int .i64 es,.string ek,.string ed,.int .i64 eu,.bool ec,.bool false]) (by kernel_rfl) hS7 (fun hHeld => ?_)
 generalize w6.drew = W7 at *
 clear hS7
 obtain ⟨_,_,_,_,-,hS⟩:=hX7.xs
 have cK:=xknows_any ek hS (by omega)
 clear hS
 refine tk_ 0 34 rfl rfl ?_
 refine tk_ 1 35 rfl rfl ?_
 refine tk_ 2 36 rfl rfl ?_
 refine tk_ 3 37 rfl rfl ?_
 refine tk_ 4 38 rfl rfl ?_ (fun wx hSx => by obtain ⟨⟨s0,s1,s2,s3,s4,s5,s6⟩,-⟩:=hSx.1.c7;go_simp;try with_reducible rfl)
 refine rdy1 5 rfl ?_
 intro K hK
 go_simp
 with_reducible refine cK.mono ?_
 rintro e w8 ⟨rfl,rfl⟩
 try go_wp2_with fail
 refine hK.out _ _ hHeld (fun hHeld => ?_)
 clear hK K cK
 refine wpAnyH_done (by kernel_rfl) ?_ _
 try simp only [Act.put,List.setIfInBounds_toArray,List.set_cons_succ,List.set_cons_zero]
 cases hkn : q.s.knows ek with
 | true =>
  have HF:=Lib.hid (show q.put ⟨0,es,ek,ed,eu,ec,false⟩ = (q,0,192) from by rw [HPU2.out,if_pos hkn]);clear HPU2 hHeld hX7 hkn;go_wp2_with fail
  go_ret2
  exact ⟨by rw [HF.out];rfl,k,by rw [HF.out];exact HST.out _ hB7⟩
 | false => ?_
 have HPU3:=Lib.hid (show q.put ⟨0,es,ek,ed,eu,ec,false⟩ = if 60 ≤ q.s.K.length ∨ q.sz < lenR q.s.snap + (14 + rd.size) + (q.s.owed + 28) + 1 then (q,0,194)
  else if (q.log ⟨1,nx,rd⟩).2 = 0 then ((q.log ⟨1,nx,rd⟩).1,nx,0) else ((q.log ⟨1,nx,rd⟩).1,0,(q.log ⟨1,nx,rd⟩).2) from HPU2.out.trans (if_neg (by rw [hkn];decide)))
 clear hkn HPU2
 go_wp2_with fail
 have hS9 : Blk W7.drew eb 23 #[.int .i64 0,.int .i64 es,.string ek,.string ed,.int .i64 eu,.bool ec,.bool false] ∧ Blk W7.drew (eb + 1) 23 #[.int .i64 nx,.int .i64 es,.string ek,.string ed,.int .i64 eu,.bool ec,.bool false]:=hHeld
 have hX9:=hX7.below ((Below.refl _ W7).drew)
 have hB9:=hB7.drew
 clear hHeld hX7 hB7
 refine wp_region_held_drew (S:=fun W => Blk W eb 23 #[.int .i64 0,.int .i64 es,.string ek,.string ed,.int .i64 eu,.bool ec,.bool false] ∧ Blk W (eb + 1) 23 #[.int .i64 nx,.int .i64 es,.string ek,.string ed,.int .i64 eu,.bool ec,.bool false]) (by kernel_rfl) hS9 (fun hHeld => ?_)
 generalize W7.drew = W9 at *
 clear hS9
 obtain ⟨_,_,_,_,-,hS⟩:=hX9.xs
 have cSn:=xsnap_any hS HW.out.1.ok
 clear hS
 refine tk_ 0 41 rfl rfl ?_
 refine tk_ 1 42 rfl rfl ?_
 refine tk_ 2 43 rfl rfl ?_
 refine tk_ 4 45 rfl rfl ?_ (fun wx hSx => by obtain ⟨⟨s0,s1,s2,s3,s4,s5,s6⟩,-⟩:=hSx.2.c7;go_simp;try with_reducible rfl)
 refine rdy1 3 rfl ?_
 intro K hK
 go_simp
 with_reducible refine cSn.mono ?_
 rintro e w10 ⟨V,rfl,hown,hb10⟩
 try go_wp2_with fail
 refine hK.out _ _ ⟨hHeld.1.below hb10,hHeld.2.below hb10⟩ (fun hHeld => ?_)
 clear hK K cSn
 have hsl : q.s.snap.length ≤ 120:=HW.out.1.ok.snap_len
 have hown9:=own_base (base':=w.heap.size) hown hB9.size
 replace hX9:=hX9.below hb10
 replace hB9:=ext_trans hB9 hb10
 obtain ⟨A0,c0,rfl⟩:=own_form hown9
 clear hown hb10
 refine rdy1 5 rfl ?_
 intro K hK
 go_simp
 with_reducible refine (HRG.out (by simp) w10).mono ?_
 rintro e w11 ⟨rfl,hb11⟩
 try go_wp2_with fail
 refine hK.out _ _ ⟨hHeld.1.below hb11,hHeld.2.below hb11⟩ (fun hHeld => ?_)
 clear hK K
 replace hX9:=hX9.below hb11
 replace hB9:=ext_trans hB9 hb11
 replace hown9:=own_below hown9 hb11
 clear hb11
 have hN:=Blk.new_ w11 128 #[.int .i64 1,.int .i64 nx,.string rd]
 have hE:=ext_new w11 (.cells #[.int .i64 1,.int .i64 nx,.string rd] 128)
 refine rdy1 6 rfl ?_
 intro K hK
 go_simp
 refine hK.out _ _ ⟨hHeld.1.below hE,hHeld.2.below hE⟩ (fun hHeld => ?_)
 clear hK K
 replace hX9:=hX9.below hE
 replace hB9:=ext_trans hB9 hE
 replace hown9:=own_below hown9 hE
 clear hE
 generalize w11.alloc (.cells #[.int .i64 1,.int .i64 nx,.string rd] 128) = W12 at *
 have hap : ∀ ty,∃ v w',(Builtin.append_ #[132,132] ty #[.slice A0 q.s.snap.length c0,.slice (some ⟨w11.heap.size,0,none⟩) 1 1]).run Tryz.prog W12 = .ok v w' ∧ (w'.ownsRow w.heap.size 128 3 v (q.s.snap.length + 1) (cellsQ q.s.snap ++ cellsQ [⟨1,nx,rd⟩]) ∧ W12.grownBy w' (Value.slice A0 q.s.snap.length c0).ownBlock):=fun ty => run_more (more_one hN) hown9 (by omega) hB9.size ty
 refine rdy1 7 rfl ?_
 intro K hK
 refine step_append_x _ (by rfl) _ _ _ (by rfl) (.slice A0 q.s.snap.length c0) (.slice (some ⟨w11.heap.size,0,none⟩) 1 1) ?_ ?_ hap ?_
 ·go_simp
 ·go_simp
 clear hap
 rintro V2 W13 ⟨hown13,hg13⟩
 have hHeld2:=And.intro (hHeld.1.kept (hg13.block _ hHeld.1.lt (own_type hown9 hHeld.1 (by decide)))) (hHeld.2.kept (hg13.block _ hHeld.2.lt (own_type hown9 hHeld.2 (by decide))))
 have hB13 : Below w.heap.size w W13:=((Foot.of_below (F:=fun _ => False) hB9).grown hg13 (fun i hi => .inr (hown9.lt i hi.symm).1)).below (fun _ h => h.elim) (Nat.le_refl _)
 have hX13 : XQ W13 b v p g c k q:=hX9.keptF fun j hj => hg13.block j (hX9.lt hj) (fun e => by
  have h1:=(hown9.lt j e.symm).1;have h2:=HLT.out j hj;omega)
 refine hK.out _ _ hHeld2 (fun hHeld => ?_)
 clear hK K hX9 hB9 hg13 hown9 hHeld2 hN
 rw [← cellsQ_app] at hown13
 obtain ⟨hn13,A3,c3,rfl,hrd⟩:=rdR_own hown13
 have cL:=rFLay_any A3 c3 (q.s.snap.length + 1) (q.s.snap ++ [⟨1,nx,rd⟩]) W13 (by simp) hrd (by omega)
 have hlok : ∀ x ∈ q.s.snap ++ [(⟨1,nx,rd⟩ : RI)],x.ok = true:=fun x hx => by
  rcases List.mem_append.1 hx with hx | hx
  ·exact HW.out.1.ok.snap_ok x hx
  ·rw [List.mem_singleton.1 hx];exact HRK.out (by simp)
 rw [layV_ok hlok] at cL
 obtain ⟨al,hal⟩ : ∃ al : ByteArray,(⟨(layL ((q.s.snap ++ [(⟨1,nx,rd⟩ : RI)]).map RI.n)).toArray⟩ : ByteArray) = al:=⟨_,rfl⟩
 have hrdz:=(rightV_iff.1 (show rightV 1 nx rd = true from HRK.out (by simp))).2.2.2
 have hals : al.size = lenR q.s.snap + (14 + rd.size):=by
  rw [← hal,list_size2,lay_lenR,lenR_append];simp [lenR]
 have hall:=lenR_le HW.out.1.ok.snap_ok
 rw [hal] at cL
 have HHL:=Lib.hid (And.intro hlok hal)
 clear hlok hal hown13 hrd hn13
 refine rdy1 8 rfl ?_
 intro K hK
 go_simp
 with_reducible refine cL.mono ?_
 rintro e w14 ⟨rfl,hb14⟩
 try go_wp2_with fail
 refine hK.out _ _ ⟨hHeld.1.below hb14,hHeld.2.below hb14⟩ (fun hHeld => ?_)
 clear hK K cL HHL
 have hX14:=hX13.below hb14
 have hB14:=ext_trans hB13 hb14
 clear hX13 hB13 hb14
 refine tk_ 9 40 rfl rfl ?_
 refine tk_ 10 50 rfl rfl ?_
 refine tk_ 11 51 rfl rfl ?_
 refine tk_ 12 7 rfl rfl ?_
 refine tk_ 13 8 rfl rfl ?_
 refine wpAnyH_done (by kernel_rfl) ?_ _
 try simp only [Act.put,List.setIfInBounds_toArray,List.set_cons_succ,List.set_cons_zero]
 obtain ⟨⟨s0,s1,s2,s3,s4,s5,s6⟩,-⟩:=hHeld.2.c7
 obtain ⟨nS,hnS⟩ : ∃ n,q.s.snap.length = n:=⟨_,rfl⟩
 obtain ⟨nR,hnR⟩ : ∃ n,lenR q.s.snap = n:=⟨_,rfl⟩
 rw [hnS] at hsl hall
 rw [hnR] at hals hall HPU3
 have HNR:=Lib.hid (And.intro hnS hnR)
 clear hnS hnR
 go_wp2_with fail
 with_reducible refine (HCS.out w14).mono ?_
 rintro ev w15 ⟨rfl,hb15⟩
 have hX15:=hX14.below hb15
 have hB15:=ext_trans hB14 hb15
 have HS15:=Lib.hid (And.intro (hHeld.1.below hb15) (hHeld.2.below hb15))
 clear hX14 hB14 hb15 hHeld s0 s1 s2 s3 s4 s5 s6
 go_wp2_with fail
 obtain ⟨AL,AK,cL,cK,-,hS⟩:=hX15.xs
 obtain ⟨L,hL⟩ : ∃ l,q.s.L = l:=⟨_,rfl⟩
 obtain ⟨nL,hnL⟩ : ∃ n,L.length = n:=⟨_,rfl⟩
 obtain ⟨nK,hnK⟩ : ∃ n,q.s.K.length = n:=⟨_,rfl⟩
 rw [hL,hnL] at hl
 rw [hnK] at hlk
 have HSX:=Lib.hid hS
 have HLL:=Lib.hid (And.intro hL <| And.intro hnL hnK)
 have HX15:=Lib.hid (And.intro hX15 hB15)
 have x1:=hS.l
 rw [hL,hnL] at x1
 obtain ⟨m0,hm0⟩ : ∃ m,nR + (14 + rd.size) + 1 + 28 = m:=⟨_,rfl⟩
 have hm0l : m0 ≤ 250000:=by have : 2014 * nS ≤ 2014 * 120:=Nat.mul_le_mul_left _ hsl;omega
 have hm0e : (nR : Int) + (14 + (rd.size : Int)) + 1 + 28 = (m0 : Int):=by omega
 have hown0:=owed_le L
 have hsum : ∀ j,((L.take j).map EI.cost).sum ≤ 1680:=fun j => by
  have h1:=owed_le (L.take j);rw [List.length_take] at h1;omega
 have HSUM:=Lib.hid hsum
 have HM0:=Lib.hid hm0
 clear hS hX15 hB15 hL hnL hnK hall hsl hals hm0 hsum hown0
 go_loopw [9,10] (fun nv i W => ∃ j : Nat,j ≤ nL ∧ i = .int .i64 (j : Int) ∧ nv = .int .i64 ((m0 + ((L.take j).map EI.cost).sum : Nat) : Int) ∧ Below w15.heap.size w15 W) (fun _ i _ => nL - (intOf i).toNat)
 case atStart => exact ⟨0,Nat.zero_le _,rfl,by rw [hm0e];simp,ext_refl _⟩
 case round =>
  obtain ⟨j,hj,rfl,rfl,hb⟩:=hrel;have y1:=(HSX.out.below hb).l;rw [HLL.out.1,HLL.out.2.1] at y1;clear x1 hm0e;by_cases hlt : j < nL
  ·have j0 : j < L.length:=by rw [HLL.out.2.1];exact hlt
   have hen:=(HSX.out.below hb).ents;rw [HLL.out.1] at hen;obtain ⟨gr,rfl,hgl,hc⟩:=hen (by omega);obtain ⟨g0,g1,g2,g3,g4,g5,g6⟩:=hc j j0;have hst:=owed_take j0;have cC:=fun W => xcost_any L[j] W;have hcb : L[j].cost ≤ 28:=by unfold EI.cost;split <;> omega
   have hs:=HSUM.out j;obtain ⟨y,hy⟩ : ∃ y,L[j] = y:=⟨_,rfl⟩
   rw [hy] at g0 g1 g2 g3 g4 g5 g6 hst cC hcb;obtain ⟨sm,hsm⟩ : ∃ s,((L.take j).map EI.cost).sum = s:=⟨_,rfl⟩
   rw [hsm] at hst hs ⊢;have HST:=Lib.hid hst;have HB:=Lib.hid hb;obtain ⟨cy,hcy⟩ : ∃ s,y.cost = s:=⟨_,rfl⟩
   rw [hcy] at HST cC hcb;unfold EI.val at cC;have i0 : (0 : Int) ≤ (j : Int):=by omega
   have i1 : (j : Int) < (nL : Int):=by omega
   have k0 : IntKind.i64.wrap (((m0 + sm : Nat) : Int) + (cy : Int)) = ((m0 + (sm + cy) : Nat) : Int):=by rw [IntWalk.i64_in _ (by omega)];omega
   have k1 : IntKind.i64.wrap ((m0 : Int) + (sm : Int) + (cy : Int)) = ((m0 + (sm + cy) : Nat) : Int):=by rw [IntWalk.i64_in _ (by omega)];omega
   have HC:=Lib.hid cC;clear hen hc hst hs hsm hb hy hcy cC;go_wp2_with fail
   with_reducible refine (HC.out _).mono ?_
   rintro ev w16 ⟨rfl,hb16⟩;have hb2:=ext_trans HB.out hb16;clear hb16;go_wp2_with fail
   go_roundw
   case rel => exact ⟨j + 1,by omega,by go_num,by rw [HST.out];simp [*] <;> omega,hb2⟩
   case measure => simp [intOf];omega
  ·obtain rfl : j = nL:=by omega
   have hX16:=HX15.out.1.below hb;have hB16:=ext_trans HX15.out.2 hb;have hS16:=And.intro (HS15.out.1.below hb) (HS15.out.2.below hb);have hs:=HSUM.out j;have hso : ((L.take j).map EI.cost).sum = q.s.owed:=by unfold SN.owed;rw [HLL.out.1,← HLL.out.2.1,List.take_length]
   rw [hso] at hs ⊢;have z2:=(HSX.out.below hb).k;rw [HLL.out.2.2] at z2;have HP4:=Lib.hid (show q.put ⟨0,es,ek,ed,eu,ec,false⟩ = if 60 ≤ nK ∨ q.sz < m0 + q.s.owed then (q,0,194) else if (q.log ⟨1,nx,rd⟩).2 = 0 then ((q.log ⟨1,nx,rd⟩).1,nx,0) else ((q.log ⟨1,nx,rd⟩).1,0,(q.log ⟨1,nx,rd⟩).2) from by
    rw [HPU3.out,HLL.out.2.2,show nR + (14 + rd.size) + (q.s.owed + 28) + 1 = m0 + q.s.owed from by have:=HM0.out;omega])
   obtain ⟨ow,how⟩ : ∃ o,q.s.owed = o:=⟨_,rfl⟩
   rw [how] at hs HP4 ⊢;have cZ:=xsize_any (hX16.blk.cell 0) (hX16.disk.disk.cell 0) (by have:=HW.out.1.nine;omega) hlen;obtain ⟨sz,hsz⟩ : ∃ s,q.sz = s:=⟨_,rfl⟩
   rw [show szN q.d.L.length = q.sz from rfl,hsz] at cZ;rw [hsz] at HP4;have hszl : sz ≤ 16384:=by rw [← hsz];unfold QN.sz szN;omega
   have HX16:=Lib.hid (And.intro hX16 hB16);have HS16:=Lib.hid hS16;clear hso how hsz hX16 hB16 hS16 hb HPU3 HX15 HS15 HSX hlen;by_cases h60 : 60 ≤ nK
   ·have HF:=Lib.hid (show q.put ⟨0,es,ek,ed,eu,ec,false⟩ = (q,0,194) from HP4.out.trans (if_pos (.inl h60)))
    have HX:=Lib.hid (HST.out _ HX16.out.2);clear cZ HP4 HX16 HS16;go_wp2_with fail
    go_ret2
    exact ⟨by rw [HF.out];rfl,k,by rw [HF.out];exact HX.out⟩
   ·by_cases hroom : sz < m0 + ow
    ·have HF:=Lib.hid (show q.put ⟨0,es,ek,ed,eu,ec,false⟩ = (q,0,194) from HP4.out.trans (if_pos (.inr hroom)))
     have HX:=Lib.hid (HST.out _ HX16.out.2);clear HP4 HX16 HS16;go_wp2_with fail
     with_reducible refine cZ.mono ?_
     rintro ev w17 ⟨rfl,rfl⟩;go_wp2_with fail
     go_ret2
     exact ⟨by rw [HF.out];rfl,k,by rw [HF.out];exact HX.out⟩
    ·have HP5:=Lib.hid (HP4.out.trans (if_neg (fun e => e.elim h60 hroom)))
     obtain ⟨⟨s0,s1,s2,s3,s4,s5,s6⟩,-⟩:=HS16.out.2.c7;clear HP4;go_wp2_with fail
     with_reducible refine cZ.mono ?_
     rintro ev w17 ⟨rfl,rfl⟩;clear cZ;go_wp2_with fail
     with_reducible refine (HRG.out (by simp) _).mono ?_
     rintro ev w18 ⟨rfl,hb18⟩;have hX18:=HX16.out.1.below hb18;have hB18:=ext_trans HX16.out.2 hb18;have hS18:=HS16.out.2.below hb18;have cG:=xlog_any ⟨1,nx,rd⟩ hX18 HW.out.1 HW.out.2.1 (HRK.out (by simp)) HW.out.2.2;unfold RI.val at cG;dsimp only at cG;have HB18:=Lib.hid (And.intro hB18 hS18);clear hb18 hX18 hB18 hS18 HX16 HS16 s0 s1 s2 s3 s4 s5 s6 h60 hroom z2 y1;go_wp2_with fail
     with_reducible refine cG.mono ?_
     rintro ev w19 ⟨rfl,kl,hxl⟩;have hXL:=XWent.trans (Foot.of_below (F:=XF b v p g) HB18.out.1) (fun _ q => .inl q) hxl;have hS19 : Blk w19 (eb + 1) 23 #[.int .i64 nx,.int .i64 es,.string ek,.string ed,.int .i64 eu,.bool ec,.bool false]:=by
      obtain ⟨v2,-,f2,-⟩:=hxl;exact HB18.out.2.kept (f2.block _ HB18.out.2.lt (fun e => by have:=HLT.out _ e;have:=HEL.out;omega))
     clear hxl cG;by_cases h0 : (q.log ⟨1,nx,rd⟩).2 = 0
     ·have HF:=Lib.hid (HP5.out.trans (if_pos h0))
      obtain ⟨⟨s0,s1,s2,s3,s4,s5,s6⟩,-⟩:=hS19.c7;rw [h0];have HX:=Lib.hid hXL;clear HP5 hXL hS19 h0;go_wp2_with fail
      go_ret2
      exact ⟨by rw [HF.out];rfl,kl,by rw [HF.out];exact HX.out⟩
     ·have HF:=Lib.hid (HP5.out.trans (if_neg h0))
      have HX:=Lib.hid hXL;have hc0 : ((q.log ⟨1,nx,rd⟩).2 == 0) = false:=by simp [h0]
      clear HP5 hXL hS19;obtain ⟨cx,hcx⟩ : ∃ x,(q.log ⟨1,nx,rd⟩).2 = x:=⟨_,rfl⟩
      have HCX:=Lib.hid hcx;rw [hcx] at h0 hc0 ⊢;clear hcx;go_wp2_with fail
      go_ret2
      exact ⟨by rw [HF.out,← HCX.out];rfl,kl,by rw [HF.out];exact HX.out⟩
end Go.Proofs.YtmebjdbkngehiaaGreatDoor
