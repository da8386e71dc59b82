/-
  The document's compact, and more of the kind. Conditions: as the theorems' own hypotheses say.
-/
import Derived.Test.YtmebjdbkngehiaaGreatDoorQxH
import Derived.Test.YtmebjdbkngehiaaGreatDoorQhG
import Derived.Test.YtmebjdbkngehiaaGreatDoorQgA
import Derived.Test.YtmebjdbkngehiaaGreatDoorQiB
import Derived.Test.YtmebjdbkngehiaaGreatDoorQhD
import Derived.Test.YtmebjdbkngehiaaGreatDoorQhF
namespace Go.Proofs.YtmebjdbkngehiaaGreatDoor
open Go.RowKit Go.Shelf
set_option maxHeartbeats 8000000
variable {w W W' : World} {b p g c k n c1 i : Nat} {v : XV} {q : QN} {V : Value} {A : Option Addr}
def compX (q : QN) (s : List UInt8) : QN :=
 if (compD q.d q.other s).2 = true then { q with d:=(compD q.d q.other s).1,other:=!q.other,tail:=s.length } else { q with d:=(compD q.d q.other s).1,down:=true }
theorem lay_compW (q : QN) (s : List UInt8) : layW q (beginN q.d.L.length (!q.other)) (s ++ [0]) false = q.compW s := rfl
theorem headD_0 {L : List (List UInt8)} (h : 0 < L.length) : L.headD [] = L[0] := by
 cases L with
 | nil => cases h
 | cons a l => rfl
theorem oI_not (o : Bool) : 1 - oI o = oI (!o) := by cases o <;> rfl
set_option maxRecDepth 100000 in
theorem xcompact_any (s : ByteArray) (h : XQ w b v p g c k q) (hu : q.down = false) (hd : q.d.down = false) (hs : s.size + 1 ≤ szN q.d.L.length) (h9 : 9 ≤ q.d.L.length) (hn : q.d.n ≤ 980000) :
  Calls Tryz.prog 112 #[.pointer (some ⟨b,0,none⟩),.string s] w fun e w' => e = .returned (.tuple #[]) ∧ ∃ k',XQ w' b v p g c k' (compX q s.data.toList) ∧ Foot (XF b v p g) w w':=by
 have hlen:=h.disk.len
 have hsz : s.size + 1 ≤ 16384:=by unfold szN at hs;omega
 have hz0 : (⟨#[0]⟩ : ByteArray).size = 1:=rfl
 have hs0 : (s ++ ⟨#[0]⟩).size = s.size + 1:=by rw [ByteArray.size_append];rfl
 have hsd : (s ++ ⟨#[0]⟩).data.toList = s.data.toList ++ [0]:=by simp
 have cL:=xlay_any (!q.other) 0 (beginN q.d.L.length (!q.other)) (s ++ ⟨#[0]⟩) false h hu hd (by omega) (by omega) (by rw [hs0];unfold beginN szN at *;split <;> omega) h9 (by omega)
 rw [hsd,lay_compW,show ((0 : Nat) : Int) = 0 from rfl] at cL
 have hst:=wrs_len (secsN q.d.L.flatten (beginN q.d.L.length (!q.other)) (s.data.toList ++ [0])) (q:=q) h.disk.fit (firstN (beginN q.d.L.length (!q.other)))
 have HST:=Lib.hid (show (q.compW s.data.toList).d.L.length = q.d.L.length ∧ (q.compW s.data.toList).d.Fit ∧ (q.compW s.data.toList).s = q.s ∧ (q.compW s.data.toList).other = q.other ∧ (q.compW s.data.toList).tail = q.tail from ⟨hst.1,hst.2.1,hst.2.2.2.1,hst.2.2.2.2.1,hst.2.2.2.2.2⟩)
 have HN:=Lib.hid (show (q.compW s.data.toList).d.n ≤ q.d.n + 300 from by
  have h1:=hst.2.2.1;have h2:=secs_len (L:=q.d.L) (beginN q.d.L.length (!q.other)) (s.data.toList ++ [0]);have h3 : countN (beginN q.d.L.length (!q.other)) (s.data.toList ++ [0]).length ≤ 258:=by
   rw [List.length_append,list_size];unfold countN;simp;omega
  rw [h2] at h1;exact Nat.le_trans h1 (by omega))
 have HLK:=Lib.hid (comp_like hu s.data.toList)
 have HEQ:=Lib.hid (compW_eq hu s.data.toList)
 obtain ⟨c0,c1,c2,c3,c4,c5,-⟩:=h.blk.c6
 have hoi:=oI_not q.other
 have hw6 : wrap64 (oI (!q.other)) = oI (!q.other):=IntWalk.wrap64_in _ (by cases q.other <;> decide)
 have HDU:=Lib.hid (show (q.compW s.data.toList).down = false → (q.compW s.data.toList).d.down = false from fun hh => by
  rw [compW_eq hu] at hh ⊢;exact puts_up _ _ _ hd (by simpa using hh))
 have q1 : ¬ (9223372036854775807 < s.size + (⟨#[0]⟩ : ByteArray).size):=by rw [hz0];omega
 have HU:=Lib.hid (And.intro hu <| And.intro hd <| And.intro h9 <| And.intro hlen hn)
 clear hst hs0 hsd hz0 hu hd h9 hlen hn h
 go_enter Tryz.func112,Tryz.ntmps112
 go_wp2_with fail
 with_reducible refine cL.mono ?_
 rintro e w1 ⟨rfl,k1,hx1,hf1⟩
 obtain ⟨qc,hqc⟩ : ∃ qc,q.compW s.data.toList = qc:=⟨_,rfl⟩
 rw [hqc] at hx1 HST HLK HEQ HDU HN
 obtain ⟨d0,d1,d2,d3,d4,d5,-⟩:=hx1.blk.c6
 clear cL c0 c1 c2 c3 c4 c5 hqc
 cases hdc : qc.down with
 | true =>
  have hcx : compX q s.data.toList = qc:=by
   have e1:=HLK.out.1;have e2:=HLK.out.2;rw [hdc] at e1 e2;unfold compX;rw [e1,e2,if_pos rfl,if_neg (by simp)];obtain ⟨dd,ss,oo,tt,dn⟩:=qc;have e3:=HST.out;dsimp only at e3 hdc ⊢;rw [e3.2.2.1,e3.2.2.2.1,e3.2.2.2.2,hdc]
  rw [hdc] at d5;have HF:=Lib.hid (show XQ w1 b v p g c k1 (compX q s.data.toList) ∧ Foot (XF b v p g) w w1 from ⟨by rw [hcx];exact hx1,hf1⟩);clear hcx hx1 hf1;go_wp2_with fail
  exact bodyPost_ret (v:=.tuple #[]) (results_none (by kernel_rfl) _ _ _) rfl ⟨rfl,_,HF.out.1,HF.out.2⟩
 | false =>
  have hcd:=HDU.out hdc;have hl0 : 0 < qc.d.L.length:=by rw [HST.out.1];have:=HU.out;omega
  obtain ⟨x,hx⟩ : ∃ x,qc.d.L[0] = x:=⟨_,rfl⟩
  have hread : qc.d.read 0 = (x,0):=by
   unfold DN.read;rw [if_neg (by rw [hcd];decide),if_pos (show qc.d.has 0 = true from DN.has_iff.2 ⟨0,rfl,hl0⟩),show ((0 : Int)).toNat = 0 from rfl,List.getD_eq_getElem?_getD,List.getElem?_eq_getElem hl0,hx]
   rfl
  have hx64 : x.length = 64:=by rw [← hx];exact HST.out.2.1.sec _ (List.getElem_mem _)
  have hhead : headN qc.d (!q.other) = (if q.other then 0 else 1) :: x.drop 1:=by
   unfold headN;rw [show qc.d.L.headD [] = x from (headD_0 hl0).trans hx]
   cases q.other <;> rfl
  have cR:=RRead_any 0 hx1.disk;rw [hread] at cR;dsimp only at cR;rw [hdc] at d5;go_wp2_with fail
  with_reducible refine cR.mono ?_
  rintro e w2 ⟨rfl,rfl⟩;go_wp2_with fail
  obtain ⟨nb,hnb,hnb2,hnb3⟩ : ∃ nb : Nat,oI (!q.other) = (nb : Int) ∧ nb < 256 ∧ headN qc.d (!q.other) = UInt8.ofNat nb :: x.drop 1:=by
   rw [hhead]
   cases q.other
   ·exact ⟨1,rfl,by omega,rfl⟩
   ·exact ⟨0,rfl,by omega,rfl⟩
  have hwr : IntKind.u8.wrap (nb : Int) = (nb : Int):=by
   show (nb : Int) % 256 = _;omega
  have hxs : (⟨x.toArray⟩ : ByteArray).size = 64:=by rw [list_size2,hx64]
  rw [hnb];have HNB:=Lib.hid hnb;have HX1:=Lib.hid (And.intro hx1 <| And.intro hf1 <| And.intro hdc hcd);have HH:=Lib.hid (And.intro hnb3 hx64);obtain ⟨X,hX⟩ : ∃ X : ByteArray,⟨x.toArray⟩ = X:=⟨_,rfl⟩
  rw [hX] at hxs ⊢;have HXX:=Lib.hid hX;clear hcd hl0 hx hread hx64 hhead cR d0 d1 d2 d3 d4 d5 hnb hnb3 hX hf1;refine wp_region_held_drew (S:=fun W => W.cell? ⟨b,0,none⟩ = some (.pointer (some ⟨p,0,none⟩))) (by kernel_rfl) hx1.blk.c6.1 (fun hHeld => ?_);have hxD : XQ w1.drew b v p g c k1 qc:=hx1.below ((Below.refl _ _).drew);have hfD : Foot (XF b v p g) w w1.drew:=HX1.out.2.1.ext ((Below.refl _ _).drew);clear hx1;generalize w1.drew = W0 at *;refine tk_ 0 30 rfl rfl ?_;refine tk_ 1 31 rfl rfl ?_;refine tk_ 2 32 rfl rfl ?_;refine tk_ 3 33 rfl rfl ?_;refine tk_ 4 34 rfl rfl ?_;refine tk_ 5 35 rfl rfl ?_;refine tk_ 8 38 rfl rfl ?_;refine tk_ 9 39 rfl rfl ?_;have hN:=Blk.new_ W0 5 #[.int .u8 (nb : Int)];have hE:=ext_new W0 (.cells #[.int .u8 (nb : Int)] 5);refine rdy1 6 rfl (fun K hK => ?_);go_simp;refine hK.out _ _ ((hE.cell (p:=⟨b,0,none⟩) hxD.blk.lt).trans hHeld) (fun hHeld => ?_);clear hK K;obtain ⟨W1,hW1⟩ : ∃ W1,W0.alloc (.cells #[.int .u8 (nb : Int)] 5) = W1:=⟨_,rfl⟩
  rw [hW1] at hN hE hHeld ⊢;have hxE:=hxD.below hE;have hfE:=hfD.ext hE;clear hxD hfD hE hW1;have hcv:=conv_b W1 W0.heap.size nb hnb2 hN;refine rdy1 7 rfl (fun K hK => ?_);go_simp;refine hK.out _ _ hHeld (fun hHeld => ?_);clear hK K hcv hN;have hq2 : ¬ (9223372036854775807 < (⟨#[UInt8.ofNat nb]⟩ : ByteArray).size + (X.extract 1 64).size):=by
   rw [ByteArray.size_extract,hxs];show ¬ (9223372036854775807 < 1 + _);omega
  have hcat : ((⟨#[UInt8.ofNat nb]⟩ : ByteArray) ++ X.extract 1 64).data.toList = headN qc.d (!q.other):=by
   rw [HH.out.1,← HXX.out];simp only [ByteArray.data_append,ByteArray.data_extract,Array.toList_append,Array.toList_extract];simp [List.take_of_length_le,HH.out.2]
  generalize (⟨#[UInt8.ofNat nb]⟩ : ByteArray) = S1 at *;generalize X.extract 1 64 = E2 at *;refine tk_ 10 40 rfl rfl ?_;have cW:=RWrite_any 0 (S1 ++ E2) hxE.disk (by have:=HU.out;have:=HN.out;omega);rw [hcat] at cW;obtain ⟨er,her⟩ : ∃ er,(qc.d.write 0 (headN qc.d (!q.other))).2 = er:=⟨_,rfl⟩
  rw [her] at cW;clear hq2 hcat;refine rdy1 11 rfl (fun K hK => ?_);go_simp;with_reducible refine cW.mono ?_
  rintro e w10 ⟨rfl,⟨k',hr10⟩,hb10⟩;have hx10:=hxE.disk_ hr10 hb10;have hf10 : Foot (XF b v p g) w w10:=hfE.trans (But2.xf hb10) (fun i hi => .inl hi);refine hK.out _ _ hx10.blk.c6.1 (fun _ => ?_);clear hK K cW hr10 hb10 hHeld hxE hfE;refine tk_ 12 7 rfl rfl ?_;refine wpAnyH_done (by kernel_rfl) ?_ _;try simp only [Act.put,List.setIfInBounds_toArray,List.set_cons_succ,List.set_cons_zero]
  obtain ⟨u0,u1,u2,u3,u4,u5,g0,g1,g2,g3,g4,g5⟩:=hx10.blk.c6;have e1:=HLK.out.1;have e2:=HLK.out.2;have e3:=HST.out;rw [HX1.out.2.2.1] at e1 e2;rw [her] at e1;by_cases he : er = 0
  ·subst he
   have hcx : compX q s.data.toList = { qc with d:=(qc.d.write 0 (headN qc.d (!q.other))).1,other:=!q.other,tail:=s.size }:=by
    unfold compX;rw [e1,e2,if_pos (by rfl),if_neg (by decide),list_size];obtain ⟨dd,ss,oo,tt,dn⟩:=qc;have e4:=HX1.out.2.2.1;dsimp only at e3 e4 ⊢;rw [e3.2.2.1,e4,HU.out.1]
   have hx11 : XQ ((w10.setCell ⟨b,3,none⟩ (.int .i64 (nb : Int))).setCell ⟨b,4,none⟩ (.int .i64 (s.size : Int))) b v p g c k' (compX q s.data.toList):=by
    rw [hcx,← HNB.out];exact (hx10.set (q':={ qc with d:=(qc.d.write 0 (headN qc.d (!q.other))).1,other:=!q.other }) 3 _ rfl rfl rfl).set 4 _ rfl rfl rfl
   have HF:=Lib.hid (And.intro hx11 (xf_set (xf_set hf10 3 (.int .i64 (nb : Int))) 4 (.int .i64 (s.size : Int))));clear hx10 hx11 hf10 hcx her e1 e2 e3;go_wp2_with fail
   exact bodyPost_end (v:=.tuple #[]) (results_none (by kernel_rfl) _ _ _) rfl ⟨rfl,⟨_,HF.out.1⟩,HF.out.2⟩
  ·have he1 : (er == 0) = false:=by simp [he]
   have hcx : compX q s.data.toList = { qc with d:=(qc.d.write 0 (headN qc.d (!q.other))).1,down:=true }:=by
    unfold compX;rw [e1,e2,decide_eq_false he,if_neg (by decide),if_neg (by decide)];obtain ⟨dd,ss,oo,tt,dn⟩:=qc;dsimp only at e3 ⊢;rw [e3.2.2.1,e3.2.2.2.1,e3.2.2.2.2]
   have hx11 : XQ (w10.setCell ⟨b,5,none⟩ (.bool true)) b v p g c k' (compX q s.data.toList):=by
    rw [hcx];exact hx10.down_ true
   have HF:=Lib.hid (And.intro hx11 (xf_set hf10 5 (.bool true)));clear hx10 hx11 hf10 hcx her e1 e2 e3 he;go_wp2_with fail
   exact bodyPost_ret (v:=.tuple #[]) (results_none (by kernel_rfl) _ _ _) rfl ⟨rfl,⟨_,HF.out.1⟩,HF.out.2⟩
theorem cellsK_length (l : List KI) : (cellsK l).length = l.length * 2 := by
 induction l with
 | nil => rfl
 | cons r l ih => rw [show cellsK (r :: l) = r.cs ++ cellsK l by simp [cellsK],List.length_append,ih,List.length_cons];show 2 + _ = _;omega
theorem cellsK_get (l : List KI) : ∀ (i : Nat) (h : i < l.length),(cellsK l)[i * 2]? = some (.int .i64 l[i].id) ∧ (cellsK l)[i * 2 + 1]? = some (.string l[i].text) := by
 induction l with
 | nil => intro i h;simp at h
 | cons r l ih =>
  intro i h;have e : cellsK (r :: l) = r.cs ++ cellsK l:=by simp [cellsK]
  have hc : r.cs.length = 2:=rfl
  cases i with
  | zero => rw [e];exact ⟨rfl,rfl⟩
  | succ i =>
   have:=ih i (by simpa using h);have hs : ∀ k,(r.cs ++ cellsK l)[(i + 1) * 2 + k]? = (cellsK l)[i * 2 + k]?:=fun k => by
    rw [List.getElem?_append_right (by omega),hc,show (i + 1) * 2 + k - 2 = i * 2 + k by omega]
   rw [e,show (r.cs ++ cellsK l)[(i + 1) * 2]? = (cellsK l)[i * 2]? from hs 0,hs];exact this
theorem rowK_own {base : Nat} {t : TypeId} {l : List KI} (h : w.ownsRow base t 2 V n (cellsK l)) : n = l.length ∧ ∃ A c,V = .slice A n c ∧ RowK w A l := by
 have hn : l.length = n:=by have:=h.1;rw [cellsK_length] at this;omega
 refine ⟨hn.symm,?_⟩
 have h':=h
 obtain ⟨-,⟨rfl,h0⟩ | ⟨g,cap,cur,rfl,-⟩⟩:=h'
 ·subst h0
  exact ⟨none,0,rfl,fun hp => by omega⟩
 ·refine ⟨some ⟨g,0,none⟩,cap,rfl,fun hp => ⟨g,rfl,(h.lt g rfl).2,fun i hi => ?_⟩⟩
  have ha : ∀ k : Nat,(⟨g,0,none⟩ : Addr).add k = ⟨g,k,none⟩:=fun k => by unfold Addr.add;split <;> simp_all
  have k : ∀ j v,(cellsK l)[j]? = some v → w.cell? ⟨g,j,none⟩ = some v:=fun j v hj => by
   have:=h.cells rfl j v hj
   rwa [ha] at this
  obtain ⟨g0,g1⟩:=cellsK_get l i hi;exact ⟨k _ _ g0,k _ _ g1⟩
theorem XQ.xs (h : XQ w b v p g c k q) : ∃ AL AK cL cK,v = ⟨.slice AL q.s.L.length cL,.slice AK q.s.K.length cK⟩ ∧ XS w b AL AK cL cK q.s := by
 obtain ⟨-,AL,cL,e1,h1⟩:=rowE_own h.ent
 obtain ⟨-,AK,cK,e2,h2⟩:=rowK_own h.key
 obtain ⟨vl,vk⟩:=v
 dsimp only at e1 e2
 subst e1 e2
 exact ⟨AL,AK,cL,cK,rfl,⟨h.blk.c6.2.1,h.blk.c6.2.2.1,h1,h2,h.blk.lt⟩⟩
def XWent (w : World) (b : Nat) (v : XV) (p g c k : Nat) (q' : QN) (w' : World) : Prop := ∃ v',XQ w' b v' p g c k q' ∧ Foot (XF b v p g) w w' ∧ ∀ j,XF b v' p g j → XF b v p g j ∨ w.heap.size ≤ j
theorem XWent.stay {w' : World} (h : XQ w b v p g c k q) (hb : Below w.heap.size w w') : XWent w b v p g c k q w' := ⟨v,h.below hb,Foot.of_below hb,fun _ hj => .inl hj⟩
set_option maxRecDepth 100000 in
theorem xtell_stay (op id : Int) (d : ByteArray) (h : XQ w b v p g c k q) (hl : q.s.L.length ≤ 1000) (h1 : op ≠ 1) (h5 : op ≠ 5) (hp : placeL q.s.L id = none ∨ (op ≠ 2 ∧ op ≠ 3 ∧ op ≠ 4)) :
  Calls Tryz.prog 70 #[.pointer (some ⟨b,1,none⟩),.agg #[.int .i64 op,.int .i64 id,.string d]] w fun e w' => e = .returned (.tuple #[]) ∧ XWent w b v p g c k q w':=by
 obtain ⟨AL,AK,cL,cK,rfl,hS⟩:=h.xs
 have hE:=ext_new w (.cells #[.int .i64 op,.int .i64 id,.string d] 128)
 have hR:=Blk.new_ w 128 #[.int .i64 op,.int .i64 id,.string d]
 have cP:=xplace_any id (hS.below hE) hl
 obtain ⟨r0,r1,r2,-⟩:=hR.c3
 have HF:=Lib.hid (XWent.stay h hE)
 have t1 : (op == 1) = false:=by simp [h1]
 have t5 : (op == 5) = false:=by simp [h5]
 clear h hS hE hR h1 h5
 go_enter Tryz.func70,Tryz.ntmps70
 go_wp2_with fail
 with_reducible refine cP.mono ?_
 rintro e w1 ⟨rfl,rfl⟩
 clear cP
 by_cases h2 : op = 2
 ·subst h2
  have hz : placeZ q.s.L id = -1:=by unfold placeZ;rw [hp.resolve_right (fun e => e.1 rfl)]
  rw [hz];clear hz hp;go_wp2_with fail
  exact bodyPost_end (v:=.tuple #[]) (results_none (by kernel_rfl) _ _ _) rfl ⟨rfl,HF.out⟩
 ·by_cases h3 : op = 3
  ·subst h3
   have hz : placeZ q.s.L id = -1:=by unfold placeZ;rw [hp.resolve_right (fun e => e.2.1 rfl)]
   rw [hz];clear hz hp;go_wp2_with fail
   exact bodyPost_end (v:=.tuple #[]) (results_none (by kernel_rfl) _ _ _) rfl ⟨rfl,HF.out⟩
  ·by_cases h4 : op = 4
   ·subst h4
    have hz : placeZ q.s.L id = -1:=by unfold placeZ;rw [hp.resolve_right (fun e => e.2.2 rfl)]
    rw [hz];clear hz hp;go_wp2_with fail
    exact bodyPost_end (v:=.tuple #[]) (results_none (by kernel_rfl) _ _ _) rfl ⟨rfl,HF.out⟩
   ·have t2 : (op == 2) = false:=by simp [h2]
    have t3 : (op == 3) = false:=by simp [h3]
    have t4 : (op == 4) = false:=by simp [h4]
    clear hp h2 h3 h4;go_wp2_with fail
    exact bodyPost_end (v:=.tuple #[]) (results_none (by kernel_rfl) _ _ _) rfl ⟨rfl,HF.out⟩
theorem xsent_end {vk : Value} {gr : Nat} (h : XQ W b ⟨.slice (some ⟨gr,0,none⟩) n c1,vk⟩ p g c k q) (hb : Below w.heap.size w W) (hi : i < q.s.L.length) (hn : q.s.L.length = n) :
  XWent w b ⟨.slice (some ⟨gr,0,none⟩) n c1,vk⟩ p g c k { q with s:=⟨q.s.L.modify i EI.send,q.s.K⟩ } (W.setCell ⟨gr,i * 7 + 6,none⟩ (.bool true)):=by
 have hgr : some gr = (Value.slice (some ⟨gr,0,none⟩) n c1).ownBlock:=rfl
 have n1 : gr ≠ b:=fun e => own_type h.ent h.blk (by decide) (by rw [← e];rfl)
 have n2 : gr ≠ p:=fun e => own_type h.ent h.disk.disk (by decide) (by rw [← e];rfl)
 have n3 : gr ≠ g:=fun e => own_two h.ent h.disk.row (by decide) hgr (by rw [e];rfl)
 refine ⟨_,⟨h.blk.set_other (Ne.symm n1) _ _,?_,own_set h.key (fun e => own_two h.ent h.key (by decide) hgr e) _ _,h.disk.keep (Below.heap_setCell _ ⟨gr,_,none⟩ _ p (Ne.symm n2)) (Below.heap_setCell _ ⟨gr,_,none⟩ _ g (Ne.symm n3))⟩,(Foot.of_below hb).set (.inl (.inr <| .inr <| .inr <| .inl hgr)) _ _,fun j hj => .inl hj⟩
 have hE:=h.ent
 dsimp only at hE ⊢
 rw [List.length_modify,cellsE_send,if_pos hi]
 rw [hn] at hE ⊢
 exact own_setN hE _ _
set_option maxRecDepth 100000 in
theorem xtell_sent (id : Int) (d : ByteArray) (h : XQ w b v p g c k q) (hl : q.s.L.length ≤ 1000) (hp : placeL q.s.L id = some i) :
  Calls Tryz.prog 70 #[.pointer (some ⟨b,1,none⟩),.agg #[.int .i64 2,.int .i64 id,.string d]] w fun e w' => e = .returned (.tuple #[]) ∧ XWent w b v p g c k { q with s:=⟨q.s.L.modify i EI.send,q.s.K⟩ } w':=by
 obtain ⟨hi,-,-⟩:=placeL_some hp
 obtain ⟨AL,AK,cL,cK,rfl,hS⟩:=h.xs
 have hE:=ext_new w (.cells #[.int .i64 2,.int .i64 id,.string d] 128)
 have hR:=Blk.new_ w 128 #[.int .i64 2,.int .i64 id,.string d]
 have cP:=xplace_any id (hS.below hE) hl
 have hz : placeZ q.s.L id = (i : Int):=by unfold placeZ;rw [hp]
 rw [hz] at cP
 obtain ⟨r0,r1,r2,-⟩:=hR.c3
 have h9:=h.below hE
 have hS9:=hS.below hE
 obtain ⟨gr,rfl,hgr,hcr⟩:=hS9.ents (by omega)
 have v6:=(hcr i hi).2.2.2.2.2.2
 have f6:=own_frozenN h9.ent (i * 7 + 6)
 have x1:=hS9.l
 obtain ⟨n,hn⟩ : ∃ n,q.s.L.length = n:=⟨_,rfl⟩
 have HF:=Lib.hid (xsent_end (n:=q.s.L.length) h9 hE hi rfl)
 have HN:=Lib.hid hn
 generalize q.s.L[i].sent = sb at *
 rw [hn] at x1 hi HF ⊢
 have i0 : (0 : Int) ≤ (i : Int):=by omega
 have i1 : (i : Int) < (n : Int):=by omega
 clear hcr h9 hS9 hS h hR hE hp hz hn hl
 go_enter Tryz.func70,Tryz.ntmps70
 go_wp2_with fail
 with_reducible refine cP.mono ?_
 rintro e w1 ⟨rfl,rfl⟩
 clear cP
 go_wp2_with fail
 exact bodyPost_end (v:=.tuple #[]) (results_none (by kernel_rfl) _ _ _) rfl ⟨rfl,HF.out⟩
theorem EntsAt.part {r : Nat} {l : List EI} (h : EntsAt w (some ⟨r,0,none⟩) n l) (i k : Nat) (hk : i + k ≤ n) : EntsAt w (some ⟨r,i * 7,none⟩) k ((l.drop i).take k) := by
 obtain ⟨hn,⟨e,-⟩ | ⟨ad,h1,h2,h3⟩⟩:=h
 ·cases e
 injection h1 with h1
 subst h1
 refine ⟨by rw [List.length_take,List.length_drop];omega,.inr ⟨_,rfl,h2,fun j u hj => ?_⟩⟩
 rw [← cellsE_take,← cellsE_drop,List.getElem?_take] at hj
 split at hj
 ·rw [List.getElem?_drop] at hj
  rw [show (⟨r,i * 7,none⟩ : Addr).add j = (⟨r,0,none⟩ : Addr).add (i * 7 + j) from by unfold Addr.add;split <;> split <;> simp <;> omega];exact h3 _ u hj
 ·cases hj
theorem XQ.ent_ {L : List EI} (h : XQ W b v p g c k q) (hb : Below W.heap.size W W') (ho : W'.ownsRow W.heap.size 23 7 V L.length (cellsE L)) : XQ (W'.setCell ⟨b,1,none⟩ V) b ⟨V,v.k⟩ p g c k { q with s := ⟨L,q.s.K⟩ } := by
 have h':=h.below hb
 have ho0 : W'.ownsRow 0 23 7 V L.length (cellsE L):=own_base ho (Nat.zero_le _)
 have h0:=h'.blk.set_ 1 V
 refine ⟨h0,own_set ho0 (own_type ho0 h'.blk (by decide)) _ _,own_set h'.key (own_type h'.key h'.blk (by decide)) _ _,?_⟩
 exact h'.disk.keep (Below.heap_setCell _ ⟨b,_,none⟩ _ p (Ne.symm h'.bp)) (Below.heap_setCell _ ⟨b,_,none⟩ _ g (Ne.symm h'.bg))
set_option maxRecDepth 100000 in
theorem xtell_end (op id : Int) (d : ByteArray) (h : XQ w b v p g c k q) (hl : q.s.L.length ≤ 1000) (hp : placeL q.s.L id = some i) (hop : op = 3 ∨ op = 4) :
  Calls Tryz.prog 70 #[.pointer (some ⟨b,1,none⟩),.agg #[.int .i64 op,.int .i64 id,.string d]] w fun e w' => e = .returned (.tuple #[]) ∧ XWent w b v p g c k { q with s:=⟨q.s.L.take i ++ q.s.L.drop (i + 1),q.s.K⟩ } w':=by
 obtain ⟨hi,-,-⟩:=placeL_some hp
 obtain ⟨AL,AK,cL,cK,rfl,hS⟩:=h.xs
 have hE:=ext_new w (.cells #[.int .i64 op,.int .i64 id,.string d] 128)
 have hR:=Blk.new_ w 128 #[.int .i64 op,.int .i64 id,.string d]
 have cP:=xplace_any id (hS.below hE) hl
 have hz : placeZ q.s.L id = (i : Int):=by unfold placeZ;rw [hp]
 rw [hz] at cP
 obtain ⟨r0,r1,r2,-⟩:=hR.c3
 have h9:=h.below hE
 obtain ⟨r,rfl,hgr,-⟩:=hS.ents (by omega)
 have hcap : q.s.L.length ≤ cL:=by
  obtain ⟨-,⟨e,e0⟩ | ⟨_,cap,cur,e,-,-,e3,-⟩⟩:=h.ent
  ·cases e
  ·injection e with _ _ e
   omega
 obtain ⟨W0',hW0⟩ : ∃ W,w.alloc (.cells #[.int .i64 op,.int .i64 id,.string d] 128) = W:=⟨_,rfl⟩
 rw [hW0] at cP r0 r1 r2 h9 hE
 have HW:=Lib.hid hW0
 have HO:=Lib.hid hop
 have HE:=Lib.hid hE
 obtain ⟨n,hn⟩ : ∃ n,q.s.L.length = n:=⟨_,rfl⟩
 have HN:=Lib.hid hn
 have H9:=Lib.hid h9
 rw [hn] at hi hl hcap
 clear hS h hR hp hz hn hW0 hE
 go_enter Tryz.func70,Tryz.ntmps70
 go_wp2_with fail
 rw [HW.out]
 with_reducible refine cP.mono ?_
 rintro e w1 ⟨rfl,rfl⟩
 have i0 : (0 : Int) ≤ (i : Int):=by omega
 have i1 : ((i : Int) ≥ 0):=by omega
 clear cP
 rcases hop with rfl | rfl
 all_goals
  go_wp2_with fail
  have hXD:=H9.out.below ((Below.refl _ W0').drew);have hbD : Below w.heap.size w W0'.drew:=HE.out.drew;refine wp_region_held_drew (S:=fun _ => True) (by kernel_rfl) trivial (fun _ => ?_);generalize W0'.drew = W0 at *;have hA:=entsAt_own hXD.ent;rw [HN.out] at hA;have HX1:=Lib.hid (fun (W : World) (hb : Below W0.heap.size W0 W) => (show W.cell? ⟨b,1,none⟩ = some (.slice (some ⟨r,0,none⟩) n cL) from by
   have e:=(hXD.below hb).blk.c6.2.1;dsimp only at e;rw [HN.out] at e;exact e))
  have hEA : EntsAt W0 (if cL = i + 1 then some ⟨r,0,none⟩ else some ⟨r,(i + 1) * 7,none⟩) (n - (i + 1)) ((q.s.L.drop (i + 1)).take (n - (i + 1))):=by
   split
   ·have h0:=hA.part 0 0 (by omega)
    rw [show n - (i + 1) = 0 by omega]
    simpa using h0
   ·exact hA.part (i + 1) (n - (i + 1)) (by omega)
  have hEB : EntsAt W0 (some ⟨r,0,none⟩) i (q.s.L.take i):=by simpa using hA.part 0 i (by omega)
  have k1 : (i : Int) ≤ (cL : Int):=by omega
  have k2 : (n : Int) ≤ (cL : Int):=by omega
  have k3 : IntKind.i64.wrap ((i : Int) + 1) = ((i + 1 : Nat) : Int):=by rw [IntWalk.i64_in _ (by omega)];omega
  have k4 : ((i + 1 : Nat) : Int) ≤ (n : Int):=by omega
  have k5 : (0 : Int) ≤ ((i + 1 : Nat) : Int):=by omega
  have k6 : (0 : Int) ≤ (i : Int) + 1:=by omega
  have k7 : (i : Int) + 1 ≤ (n : Int):=by omega
  have hap : ∀ ty,∃ v w',(Builtin.append_ #[46,46] ty #[.slice none 0 0,.slice (some ⟨r,0,none⟩) i cL]).run Tryz.prog W0 = .ok v w' ∧ (w'.ownsRow W0.heap.size 23 7 v (0 + i) ([] ++ cellsE (q.s.L.take i)) ∧ W0.grownBy w' (Value.slice none 0 0).ownBlock):=fun ty => run_moreE hEB own_nil (by omega) (Nat.le_refl _) ty;have HAP:=Lib.hid hap;have HEA:=Lib.hid hEA;have HXD:=Lib.hid (And.intro hXD hbD);clear hA hEA hEB hap hXD hbD;refine tk_ 0 112 rfl rfl ?_;refine tk_ 1 113 rfl rfl ?_;refine tk_ 2 114 rfl rfl ?_;refine tk_ 3 115 rfl rfl ?_;refine tk_ 4 116 rfl rfl ?_;refine tk_ 6 118 rfl rfl ?_;refine tk_ 9 121 rfl rfl ?_;refine tk_ 10 122 rfl rfl ?_;refine tk_ 11 123 rfl rfl ?_;refine tk_ 13 125 rfl rfl ?_;refine tk_ 14 126 rfl rfl ?_;refine rdy2 5 12 rfl rfl (fun K hK => ?_) (fun K hK => ?_);have x1 : W0.cell? ⟨b,1,none⟩ = some (.slice (some ⟨r,0,none⟩) n cL):=HX1.out _ (Below.refl _ _);go_simp;refine hK.out _ _ trivial (fun _ => ?_);clear hK K x1;refine tk_ 7 119 rfl rfl ?_;refine rdy2 8 12 rfl rfl (fun K hK => ?_) (fun K hK => ?_);refine step_append_x _ (by rfl) _ _ _ (by rfl) (.slice none 0 0) (.slice (some ⟨r,0,none⟩) i cL) ?_ ?_ HAP.out ?_
  ·go_simp
  ·go_simp
  rintro V1 W1 ⟨hown1,hg1⟩;refine hK.out _ _ trivial (fun _ => ?_);clear hK K;have hf1 : Foot (fun _ => False) W0 W1:=(Foot.refl _ W0).grown hg1 (fun k hk => by cases hk);have hb1 : Below W0.heap.size W0 W1:=hf1.below (fun k hk => hk.elim) (Nat.le_refl _);refine rdy1 12 rfl (fun K hK => ?_);have x1 : W1.cell? ⟨b,1,none⟩ = some (.slice (some ⟨r,0,none⟩) n cL):=HX1.out _ hb1;go_simp;refine hK.out _ _ trivial (fun _ => ?_);clear hK K x1;refine tk_ 15 127 rfl rfl ?_;refine rdy1 16 rfl (fun K hK => ?_);have hap : ∀ ty,∃ v w',(Builtin.append_ #[46,46] ty #[V1,.slice (if cL = i + 1 then some ⟨r,0,none⟩ else some ⟨r,(i + 1) * 7,none⟩) (n - (i + 1)) (cL - (i + 1))]).run Tryz.prog W1 = .ok v w' ∧ (w'.ownsRow W0.heap.size 23 7 v (0 + i + (n - (i + 1))) ([] ++ cellsE (q.s.L.take i) ++ cellsE ((q.s.L.drop (i + 1)).take (n - (i + 1)))) ∧ W1.grownBy w' V1.ownBlock):=fun ty => run_moreE (HEA.out.below hb1) hown1 (by omega) hb1.size ty;refine step_append_x _ (by rfl) _ _ _ (by rfl) V1 (.slice (if cL = i + 1 then some ⟨r,0,none⟩ else some ⟨r,(i + 1) * 7,none⟩) (n - (i + 1)) (cL - (i + 1))) ?_ ?_ hap ?_
  ·go_simp
  ·go_simp
  clear hap;rintro V2 W2 ⟨hown2,hg2⟩;refine hK.out _ _ trivial (fun _ => ?_);clear hK K;refine rdy1 17 rfl (fun K hK => ?_);go_simp;refine hK.out _ _ trivial (fun _ => ?_);clear hK K;refine rdy1 18 rfl (fun K hK => ?_);go_simp;refine hK.out _ _ trivial (fun _ => ?_);clear hK K;rotate_left;have x1 : W0.cell? ⟨b,1,none⟩ = some (.slice (some ⟨r,0,none⟩) n cL):=HX1.out _ (Below.refl _ _);go_simp;refine hK.out _ _ trivial (fun _ => ?_);clear hK K x1;refine tk_ 15 127 rfl rfl ?_;refine rdy1 8 rfl (fun K hK => ?_);refine step_append_x _ (by rfl) _ _ _ (by rfl) (.slice none 0 0) (.slice (some ⟨r,0,none⟩) i cL) ?_ ?_ HAP.out ?_
  ·go_simp
  ·go_simp
  rintro V1 W1 ⟨hown1,hg1⟩;refine hK.out _ _ trivial (fun _ => ?_);clear hK K;have hf1 : Foot (fun _ => False) W0 W1:=(Foot.refl _ W0).grown hg1 (fun k hk => by cases hk);have hb1 : Below W0.heap.size W0 W1:=hf1.below (fun k hk => hk.elim) (Nat.le_refl _);refine rdy1 16 rfl (fun K hK => ?_);have hap : ∀ ty,∃ v w',(Builtin.append_ #[46,46] ty #[V1,.slice (if cL = i + 1 then some ⟨r,0,none⟩ else some ⟨r,(i + 1) * 7,none⟩) (n - (i + 1)) (cL - (i + 1))]).run Tryz.prog W1 = .ok v w' ∧ (w'.ownsRow W0.heap.size 23 7 v (0 + i + (n - (i + 1))) ([] ++ cellsE (q.s.L.take i) ++ cellsE ((q.s.L.drop (i + 1)).take (n - (i + 1)))) ∧ W1.grownBy w' V1.ownBlock):=fun ty => run_moreE (HEA.out.below hb1) hown1 (by omega) hb1.size ty;refine step_append_x _ (by rfl) _ _ _ (by rfl) V1 (.slice (if cL = i + 1 then some ⟨r,0,none⟩ else some ⟨r,(i + 1) * 7,none⟩) (n - (i + 1)) (cL - (i + 1))) ?_ ?_ hap ?_
  ·go_simp
  ·go_simp
  clear hap;rintro V2 W2 ⟨hown2,hg2⟩;refine hK.out _ _ trivial (fun _ => ?_);clear hK K;refine rdy1 17 rfl (fun K hK => ?_);go_simp;refine hK.out _ _ trivial (fun _ => ?_);clear hK K;refine rdy1 18 rfl (fun K hK => ?_);go_simp;refine hK.out _ _ trivial (fun _ => ?_);clear hK K;rotate_left;have x1 : W0.cell? ⟨b,1,none⟩ = some (.slice (some ⟨r,0,none⟩) n cL):=HX1.out _ (Below.refl _ _);go_simp;refine hK.out _ _ trivial (fun _ => ?_);clear hK K x1;refine tk_ 15 127 rfl rfl ?_;refine rdy1 5 rfl (fun K hK => ?_);have x1 : W0.cell? ⟨b,1,none⟩ = some (.slice (some ⟨r,0,none⟩) n cL):=HX1.out _ (Below.refl _ _);go_simp;refine hK.out _ _ trivial (fun _ => ?_);clear hK K x1;refine tk_ 7 119 rfl rfl ?_;refine rdy1 8 rfl (fun K hK => ?_);refine step_append_x _ (by rfl) _ _ _ (by rfl) (.slice none 0 0) (.slice (some ⟨r,0,none⟩) i cL) ?_ ?_ HAP.out ?_
  ·go_simp
  ·go_simp
  rintro V1 W1 ⟨hown1,hg1⟩;refine hK.out _ _ trivial (fun _ => ?_);clear hK K;have hf1 : Foot (fun _ => False) W0 W1:=(Foot.refl _ W0).grown hg1 (fun k hk => by cases hk);have hb1 : Below W0.heap.size W0 W1:=hf1.below (fun k hk => hk.elim) (Nat.le_refl _);refine rdy1 16 rfl (fun K hK => ?_);have hap : ∀ ty,∃ v w',(Builtin.append_ #[46,46] ty #[V1,.slice (if cL = i + 1 then some ⟨r,0,none⟩ else some ⟨r,(i + 1) * 7,none⟩) (n - (i + 1)) (cL - (i + 1))]).run Tryz.prog W1 = .ok v w' ∧ (w'.ownsRow W0.heap.size 23 7 v (0 + i + (n - (i + 1))) ([] ++ cellsE (q.s.L.take i) ++ cellsE ((q.s.L.drop (i + 1)).take (n - (i + 1)))) ∧ W1.grownBy w' V1.ownBlock):=fun ty => run_moreE (HEA.out.below hb1) hown1 (by omega) hb1.size ty;refine step_append_x _ (by rfl) _ _ _ (by rfl) V1 (.slice (if cL = i + 1 then some ⟨r,0,none⟩ else some ⟨r,(i + 1) * 7,none⟩) (n - (i + 1)) (cL - (i + 1))) ?_ ?_ hap ?_
  ·go_simp
  ·go_simp
  clear hap;rintro V2 W2 ⟨hown2,hg2⟩;refine hK.out _ _ trivial (fun _ => ?_);clear hK K;refine rdy1 17 rfl (fun K hK => ?_);go_simp;refine hK.out _ _ trivial (fun _ => ?_);clear hK K;refine rdy1 18 rfl (fun K hK => ?_);go_simp;refine hK.out _ _ trivial (fun _ => ?_);clear hK K;rotate_left
  all_goals
   have hb2 : Below W0.heap.size W0 W2:=(hf1.grown hg2 (fun k hk => .inr (hown1.lt k hk.symm).1)).below (fun k hk => hk.elim) (Nat.le_refl _);obtain ⟨WL,hWL⟩ : ∃ WL,q.s.L.take i ++ q.s.L.drop (i + 1) = WL:=⟨_,rfl⟩
   have hwl : WL.length = 0 + i + (n - (i + 1)):=by rw [← hWL,List.length_append,List.length_take,List.length_drop,HN.out];omega
   rw [show (q.s.L.drop (i + 1)).take (n - (i + 1)) = q.s.L.drop (i + 1) from List.take_of_length_le (by rw [List.length_drop,HN.out];omega),List.nil_append,← cellsE_app,hWL,← hwl] at hown2;obtain ⟨-,AW,cW,rfl,-⟩:=rowE_own hown2;have hq:=HXD.out.1.ent_ hb2 hown2;have hft:=(Foot.of_below (F:=XF b ⟨.slice (some ⟨r,0,none⟩) n cL,.slice AK q.s.K.length cK⟩ p g) (HXD.out.2.trans (hb2.mono HXD.out.2.size))).set (.inl (.inl rfl)) 1 (.slice AW WL.length cW);have HF:=Lib.hid (show XWent w b ⟨.slice (some ⟨r,0,none⟩) n cL,.slice AK q.s.K.length cK⟩ p g c k { q with s:=⟨q.s.L.take i ++ q.s.L.drop (i + 1),q.s.K⟩ } (W2.setCell ⟨b,1,none⟩ (.slice AW WL.length cW)) from by
    rw [hWL];refine ⟨_,hq,hft,?_⟩;rintro jj (hj | hj | hj | hj | hj)
    ·exact .inl (.inl hj)
    ·exact .inl (.inr (.inl hj))
    ·exact .inl (.inr (.inr (.inl hj)))
    ·exact .inr (Nat.le_trans HXD.out.2.size (hown2.lt jj hj.symm).1)
    ·exact .inl (.inr (.inr (.inr (.inr hj)))))
   obtain ⟨u0,u1,-,-,-,-,-,g1,-⟩:=(HXD.out.1.below hb2).blk.c6;clear hq hft hwl hWL hown1 hown2 hg1 hg2 hf1 hb1 hb2 k1 k2 k3 k4 k5 k6 k7 HAP HEA HX1 HXD;refine rdy1 19 rfl (fun K hK => ?_);go_simp;refine hK.out _ _ trivial (fun _ => ?_);clear hK K;refine wpAnyH_done (by kernel_rfl) ?_ _;try simp only [Act.put,List.setIfInBounds_toArray,List.set_cons_succ,List.set_cons_zero]
   generalize (if cL = i + 1 then (some ⟨r,0,none⟩ : Option Addr) else some ⟨r,(i + 1) * 7,none⟩) = AD at *;go_wp2_with fail
   exact bodyPost_end (v:=.tuple #[]) (results_none (by kernel_rfl) _ _ _) rfl ⟨rfl,HF.out⟩
theorem infoXK : (Tryz.prog.info? 158).map (fun i => (i.zero,i.size,i.bytes)) = some (some (.agg #[.int .i64 0,.string ByteArray.empty]),2,24) := by kernel_rfl
theorem app_key {ops : Array Oper} {o : Oper} {a : Act} {K : Act → World → Prop} {Q : Exit → Act → World → Prop} {E : Prop} {xs : List Value} {id : Int} {t : ByteArray} (hgd : o.guard = none) (s x : Operand)
  (ho : o.op = .call { callee:=.builtin .append,args:=#[s,x],argTypes:=#[113,113] }) (hown : w.ownsRow 0 158 2 (.slice A n c1) n xs) (hN : Blk w g 158 #[.int .i64 id,.string t]) (hs : a.eval s = .slice A n c1) (hx : a.eval x = .slice (some ⟨g,0,none⟩) 1 1) (hl : n ≤ 1000000)
  (h : ∀ g' cap w',w'.ownsRow 0 158 2 (.slice (some ⟨g',0,none⟩) (n + 1) cap) (n + 1) (xs ++ [.int .i64 id,.string t]) → w.grownBy w' (Value.slice A n c1).ownBlock → ((Value.slice A n c1).ownBlock = some g' ∨ g' = w.heap.size) → g' < w'.heap.size → K (a.put o.dst (.slice (some ⟨g',0,none⟩) (n + 1) cap)) w') :
  if Region.wanted o (yielded ops a.tmps) = true then Oper.wp Tryz.prog o a w K Q else E:=by
 obtain ⟨i,hi,hz0,hz1,hz2⟩:=info_parts infoXK
 exact step_append_lies w hgd s x _ ho 0 158 i (.agg #[.int .i64 0,.string ByteArray.empty]) 2 24 Tryz.underlying113 hi hz0 hz1 hz2 rfl (by omega) (.slice A n c1) n xs hs hown ⟨g,0,none⟩ 1 1 [.int .i64 id,.string t] hx rfl (Blk.cells_ (ds:=[.int .i64 id,.string t]) hN) (by simp [Value.oneCell']) (by omega) (by unfold maxLen;omega) (by omega) (Nat.zero_le _) _ rfl h
theorem XQ.key_ {vl : Value} {g1 cap : Nat} {x : KI} (h : XQ W b ⟨vl,.slice A n c1⟩ p g c k q) (hn : q.s.K.length = n) (ho : W'.ownsRow 0 158 2 (.slice (some ⟨g1,0,none⟩) (n + 1) cap) (n + 1) (cellsK q.s.K ++ [.int .i64 x.id,.string x.text])) (hg : W.grownBy W' (Value.slice A n c1).ownBlock) :
  XQ (W'.setCell ⟨b,2,none⟩ (.slice (some ⟨g1,0,none⟩) (n + 1) cap)) b ⟨vl,.slice (some ⟨g1,0,none⟩) (n + 1) cap⟩ p g c k { q with s:=⟨q.s.L,q.s.K ++ [x]⟩ }:=by
 have hB:=h.blk.kept (hg.block _ h.blk.lt (own_type h.key h.blk (by decide)))
 have hE:=own_keep h.ent (fun j hj => hg.block _ (own_lt h.ent hj) (own_two h.ent h.key (by decide) hj))
 have hD:=h.disk.keep (hg.block _ h.disk.disk.lt (own_type h.key h.disk.disk (by decide))) (hg.block _ h.disk.glt (own_two h.disk.row h.key (by decide) rfl))
 refine ⟨hB.set_ 2 _,own_set hE (own_type hE hB (by decide)) _ _,?_,hD.keep (Below.heap_setCell _ ⟨b,_,none⟩ _ p (Ne.symm h.bp)) (Below.heap_setCell _ ⟨b,_,none⟩ _ g (Ne.symm h.bg))⟩
 dsimp only
 rw [List.length_append,hn,show cellsK (q.s.K ++ [x]) = cellsK q.s.K ++ [.int .i64 x.id,.string x.text] by simp [cellsK,KI.cs]]
 exact own_set ho (own_type ho hB (by decide)) _ _
set_option maxRecDepth 100000 in
theorem xtell_key (id : Int) (d : ByteArray) (h : XQ w b v p g c k q) (hok : q.s.Ok) (hd : d.size ≤ 1000000) :
  Calls Tryz.prog 70 #[.pointer (some ⟨b,1,none⟩),.agg #[.int .i64 5,.int .i64 id,.string d]] w fun e w' => e = .returned (.tuple #[]) ∧ XWent w b v p g c k { q with s:=q.s.tell ⟨5,id,d⟩ } w':=by
 have hl:=hok.len
 have hlk:=hok.most
 obtain ⟨AL,AK,cL,cK,rfl,hS⟩:=h.xs
 have HT:=Lib.hid (show q.s.tell ⟨5,id,d⟩ = if 1 ≤ id ∧ 1 ≤ d.size ∧ d.size ≤ 120 ∧ q.s.free id d = true then ⟨q.s.L,q.s.K ++ [⟨id,d⟩]⟩ else q.s from rfl)
 have hE:=ext_new w (.cells #[.int .i64 5,.int .i64 id,.string d] 128)
 have hR:=Blk.new_ w 128 #[.int .i64 5,.int .i64 id,.string d]
 have cP:=xplace_any id (hS.below hE) (by omega)
 have cF:=xfree_any id d (hS.below hE) (by omega)
 obtain ⟨r0,r1,r2,-⟩:=hR.c3
 have hst:=XWent.stay h hE
 have h9:=h.below hE
 obtain ⟨W0',hW0⟩ : ∃ W,w.alloc (.cells #[.int .i64 5,.int .i64 id,.string d] 128) = W:=⟨_,rfl⟩
 rw [hW0] at cP cF r0 r1 r2 h9 hE hst hR
 obtain ⟨rb,hrb⟩ : ∃ rb,w.heap.size = rb:=⟨_,rfl⟩
 rw [hrb] at r0 r1 r2 hR
 have HW:=Lib.hid (And.intro hW0 hrb)
 have HE:=Lib.hid hE
 obtain ⟨nL,hnL⟩ : ∃ n,q.s.L.length = n:=⟨_,rfl⟩
 obtain ⟨nK,hnK⟩ : ∃ n,q.s.K.length = n:=⟨_,rfl⟩
 rw [hnL,hnK] at h9 hst ⊢
 have HN:=Lib.hid hnK
 have HST:=Lib.hid hst
 have H9:=Lib.hid h9
 have HRB:=Lib.hid hR
 have HL:=Lib.hid (And.intro hl hlk)
 have hz:=fun (l : List EI) => (show (∃ z : Int,placeZ l id = z) from ⟨_,rfl⟩)
 obtain ⟨z,hz⟩:=hz q.s.L
 rw [hz] at cP
 clear hS h hR hz hW0 hE hst h9 hl hlk hok hnL hnK hrb
 go_enter Tryz.func70,Tryz.ntmps70
 go_wp2_with fail
 rw [HW.out.1,HW.out.2]
 with_reducible refine cP.mono ?_
 rintro e w1 ⟨rfl,rfl⟩
 clear cP
 by_cases c1 : 1 ≤ id
 ·by_cases c2 : (1 : Int) ≤ (d.size : Int)
  ·by_cases c3 : (d.size : Int) ≤ 120
   ·go_wp2_with fail
    with_reducible refine cF.mono ?_
    rintro e w2 ⟨rfl,rfl⟩;clear cF
    cases hfr : q.s.free id d
    ·have HF:=Lib.hid (show XWent w b ⟨.slice AL nL cL,.slice AK nK cK⟩ p g c k { q with s:=q.s.tell ⟨5,id,d⟩ } W0' from by rw [HT.out,if_neg (fun e => by rw [hfr] at e;exact absurd e.2.2.2 (by decide))];exact HST.out)
     clear HT HST;go_wp2_with fail
     exact bodyPost_end (v:=.tuple #[]) (results_none (by kernel_rfl) _ _ _) rfl ⟨rfl,HF.out⟩
    ·have HFR:=Lib.hid hfr
     have HC:=Lib.hid (And.intro c1 <| And.intro c2 c3);clear hfr c1 c2 c3;go_wp2_with fail
     have hq:=H9.out.below ((Below.refl _ W0').drew);have hft : Foot (XF b ⟨.slice AL nL cL,.slice AK nK cK⟩ p g) w W0'.drew:=Foot.of_below HE.out.drew;refine wp_region_held_drew (S:=fun W => Blk W rb 128 #[.int .i64 5,.int .i64 id,.string d]) (by kernel_rfl) HRB.out (fun hHeld => ?_);generalize W0'.drew = W0 at *;refine tk_ 0 82 rfl rfl ?_ (fun wx hSx => by obtain ⟨-,s1,s2,-⟩:=hSx.c3;go_simp;try with_reducible rfl);refine tk_ 1 83 rfl rfl ?_ (fun wx hSx => by obtain ⟨-,s1,s2,-⟩:=hSx.c3;go_simp;try with_reducible rfl);refine tk_ 2 84 rfl rfl ?_ (fun wx hSx => by obtain ⟨-,s1,s2,-⟩:=hSx.c3;go_simp;try with_reducible rfl);refine tk_ 3 85 rfl rfl ?_ (fun wx hSx => by obtain ⟨-,s1,s2,-⟩:=hSx.c3;go_simp;try with_reducible rfl);refine tk_ 5 87 rfl rfl ?_ (fun wx hSx => by obtain ⟨-,s1,s2,-⟩:=hSx.c3;go_simp;try with_reducible rfl);refine tk_ 6 88 rfl rfl ?_ (fun wx hSx => by obtain ⟨-,s1,s2,-⟩:=hSx.c3;go_simp;try with_reducible rfl);refine tk_ 7 89 rfl rfl ?_ (fun wx hSx => by obtain ⟨-,s1,s2,-⟩:=hSx.c3;go_simp;try with_reducible rfl);refine tk_ 8 90 rfl rfl ?_ (fun wx hSx => by obtain ⟨-,s1,s2,-⟩:=hSx.c3;go_simp;try with_reducible rfl);refine tk_ 9 91 rfl rfl ?_ (fun wx hSx => by obtain ⟨-,s1,s2,-⟩:=hSx.c3;go_simp;try with_reducible rfl);refine rdy2 4 10 rfl rfl ?_ ?_
     ·intro K hK
      have x1 : W0.cell? ⟨b,2,none⟩ = some (.slice AK nK cK):=hq.blk.c6.2.2.1;go_simp;refine hK.out _ _ hHeld (fun hHeld => ?_);clear hK K x1;refine rdy1 10 rfl ?_;intro K hK;have hN:=Blk.new_ W0 158 #[.int .i64 id,.string d];have hEE:=ext_new W0 (.cells #[.int .i64 id,.string d] 158);go_simp;refine hK.out _ _ (hHeld.below hEE) (fun hHeld => ?_);clear hK K;replace hq:=hq.below hEE;replace hft:=hft.ext hEE;clear hEE;generalize W0.alloc (.cells #[.int .i64 id,.string d] 158) = W1 at *;have hk0 : W1.ownsRow 0 158 2 (.slice AK nK cK) q.s.K.length (cellsK q.s.K):=hq.key;rw [HN.out] at hk0;refine rdy1 11 rfl ?_;intro K hK;refine app_key rfl _ _ rfl hk0 hN (by go_simp) (by go_simp) (by have:=HL.out.2;have:=HN.out;omega) ?_;rintro g1 cap W2 ho hg hor hlt;refine hK.out _ _ (hHeld.kept (hg.block _ hHeld.lt (own_type hk0 hHeld (by decide)))) (fun hHeld => ?_);clear hK K;refine tk_ 12 94 rfl rfl ?_;refine tk_ 13 95 rfl rfl ?_;have HF:=Lib.hid (show XWent w b ⟨.slice AL nL cL,.slice AK nK cK⟩ p g c k { q with s:=q.s.tell ⟨5,id,d⟩ } (W2.setCell ⟨b,2,none⟩ (.slice (some ⟨g1,0,none⟩) (nK + 1) cap)) from by
       rw [HT.out,if_pos ⟨HC.out.1,by have:=HC.out.2.1;omega,by have:=HC.out.2.2;omega,HFR.out⟩];refine ⟨_,hq.key_ (x:=⟨id,d⟩) HN.out ho hg,(hft.grown hg (fun kk hk => .inl (.inr <| .inr <| .inr <| .inr hk))).set (.inl (.inl rfl)) 2 _,?_⟩;rintro jj (hj | hj | hj | hj | hj)
       ·exact .inl (.inl hj)
       ·exact .inl (.inr (.inl hj))
       ·exact .inl (.inr (.inr (.inl hj)))
       ·exact .inl (.inr (.inr (.inr (.inl hj))))
       ·rcases hor with e | e
        ·exact .inl (.inr (.inr (.inr (.inr (hj.trans e.symm)))))
        ·injection hj with hj
         rw [hj,e];exact .inr hft.size)
      obtain ⟨-,-,u2,-,-,-,-,-,g2,-⟩:=(hq.blk.kept (hg.block _ hq.blk.lt (own_type hk0 hq.blk (by decide)))).c6;have hHeld2:=hHeld.set_other (g':=b) (fun e => by rw [e] at hHeld;exact absurd (hHeld.symm.trans (hq.blk.kept (hg.block _ hq.blk.lt (own_type hk0 hq.blk (by decide))))) (by simp)) 2 (.slice (some ⟨g1,0,none⟩) (nK + 1) cap);clear ho hg hor hk0 hN hq hft HT HST;refine rdy1 14 rfl ?_;intro K hK;go_simp;refine hK.out _ _ hHeld2 (fun hHeld => ?_);clear hK K hHeld hHeld2;refine wpAnyH_done (by kernel_rfl) ?_ _;try simp only [Act.put,List.setIfInBounds_toArray,List.set_cons_succ,List.set_cons_zero]
      go_wp2_with fail
      exact bodyPost_end (v:=.tuple #[]) (results_none (by kernel_rfl) _ _ _) rfl ⟨rfl,HF.out⟩
     ·intro K hK
      have hN:=Blk.new_ W0 158 #[.int .i64 id,.string d];have hEE:=ext_new W0 (.cells #[.int .i64 id,.string d] 158);go_simp;refine hK.out _ _ (hHeld.below hEE) (fun hHeld => ?_);clear hK K;replace hq:=hq.below hEE;replace hft:=hft.ext hEE;clear hEE;generalize W0.alloc (.cells #[.int .i64 id,.string d] 158) = W1 at *;refine rdy1 4 rfl ?_;intro K hK;have x1 : W1.cell? ⟨b,2,none⟩ = some (.slice AK nK cK):=hq.blk.c6.2.2.1;go_simp;refine hK.out _ _ hHeld (fun hHeld => ?_);clear hK K x1;have hk0 : W1.ownsRow 0 158 2 (.slice AK nK cK) q.s.K.length (cellsK q.s.K):=hq.key;rw [HN.out] at hk0;refine rdy1 11 rfl ?_;intro K hK;refine app_key rfl _ _ rfl hk0 hN (by go_simp) (by go_simp) (by have:=HL.out.2;have:=HN.out;omega) ?_;rintro g1 cap W2 ho hg hor hlt;refine hK.out _ _ (hHeld.kept (hg.block _ hHeld.lt (own_type hk0 hHeld (by decide)))) (fun hHeld => ?_);clear hK K;refine tk_ 12 94 rfl rfl ?_;refine tk_ 13 95 rfl rfl ?_;have HF:=Lib.hid (show XWent w b ⟨.slice AL nL cL,.slice AK nK cK⟩ p g c k { q with s:=q.s.tell ⟨5,id,d⟩ } (W2.setCell ⟨b,2,none⟩ (.slice (some ⟨g1,0,none⟩) (nK + 1) cap)) from by
       rw [HT.out,if_pos ⟨HC.out.1,by have:=HC.out.2.1;omega,by have:=HC.out.2.2;omega,HFR.out⟩];refine ⟨_,hq.key_ (x:=⟨id,d⟩) HN.out ho hg,(hft.grown hg (fun kk hk => .inl (.inr <| .inr <| .inr <| .inr hk))).set (.inl (.inl rfl)) 2 _,?_⟩;rintro jj (hj | hj | hj | hj | hj)
       ·exact .inl (.inl hj)
       ·exact .inl (.inr (.inl hj))
       ·exact .inl (.inr (.inr (.inl hj)))
       ·exact .inl (.inr (.inr (.inr (.inl hj))))
       ·rcases hor with e | e
        ·exact .inl (.inr (.inr (.inr (.inr (hj.trans e.symm)))))
        ·injection hj with hj
         rw [hj,e];exact .inr hft.size)
      obtain ⟨-,-,u2,-,-,-,-,-,g2,-⟩:=(hq.blk.kept (hg.block _ hq.blk.lt (own_type hk0 hq.blk (by decide)))).c6;have hHeld2:=hHeld.set_other (g':=b) (fun e => by rw [e] at hHeld;exact absurd (hHeld.symm.trans (hq.blk.kept (hg.block _ hq.blk.lt (own_type hk0 hq.blk (by decide))))) (by simp)) 2 (.slice (some ⟨g1,0,none⟩) (nK + 1) cap);clear ho hg hor hk0 hN hq hft HT HST;refine rdy1 14 rfl ?_;intro K hK;go_simp;refine hK.out _ _ hHeld2 (fun hHeld => ?_);clear hK K hHeld hHeld2;refine wpAnyH_done (by kernel_rfl) ?_ _;try simp only [Act.put,List.setIfInBounds_toArray,List.set_cons_succ,List.set_cons_zero]
      go_wp2_with fail
      exact bodyPost_end (v:=.tuple #[]) (results_none (by kernel_rfl) _ _ _) rfl ⟨rfl,HF.out⟩
   ·have HF:=Lib.hid (show XWent w b ⟨.slice AL nL cL,.slice AK nK cK⟩ p g c k { q with s:=q.s.tell ⟨5,id,d⟩ } W0' from by rw [HT.out,if_neg (fun e => c3 (by omega))];exact HST.out)
    clear HT HST;go_wp2_with fail
    exact bodyPost_end (v:=.tuple #[]) (results_none (by kernel_rfl) _ _ _) rfl ⟨rfl,HF.out⟩
  ·have HF:=Lib.hid (show XWent w b ⟨.slice AL nL cL,.slice AK nK cK⟩ p g c k { q with s:=q.s.tell ⟨5,id,d⟩ } W0' from by rw [HT.out,if_neg (fun e => c2 (by omega))];exact HST.out)
   clear HT HST;go_wp2_with fail
   exact bodyPost_end (v:=.tuple #[]) (results_none (by kernel_rfl) _ _ _) rfl ⟨rfl,HF.out⟩
 ·have HF:=Lib.hid (show XWent w b ⟨.slice AL nL cL,.slice AK nK cK⟩ p g c k { q with s:=q.s.tell ⟨5,id,d⟩ } W0' from by rw [HT.out,if_neg (fun e => c1 e.1)];exact HST.out)
  clear HT HST;go_wp2_with fail
  exact bodyPost_end (v:=.tuple #[]) (results_none (by kernel_rfl) _ _ _) rfl ⟨rfl,HF.out⟩
end Go.Proofs.YtmebjdbkngehiaaGreatDoor
