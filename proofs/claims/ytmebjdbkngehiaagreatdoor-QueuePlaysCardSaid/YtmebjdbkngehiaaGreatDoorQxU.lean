/-
  QueuePlays. Conditions: the program's variables hold what GInv says.
-/
import Derived.Test.YtmebjdbkngehiaaGreatDoorQiF
import Derived.Test.YtmebjdbkngehiaaGreatDoorQhJ
namespace Go.Proofs.YtmebjdbkngehiaaGreatDoor
open Go.RowKit Go.Shelf
set_option maxHeartbeats 40000000
variable {d : DN} {K : KN} {w : World} {p g : Nat}
theorem newN_lost (hf : d.Fit) : (newN d).2.2.1.length ≤ 60 := by
 unfold newN
 split
 ·exact Nat.zero_le _
 ·rename_i hd
  split
  ·exact Nat.zero_le _
  ·rename_i h9
   split
   ·exact Nat.le_trans (List.length_filter_le _ _) (open_qw hf (by simpa using hd) (by omega)).ok.len
   ·exact Nat.zero_le _
theorem act_lost (hf : K.d.Fit) (x : QO) : (K.act x).2.lost.length ≤ 60 := by
 unfold KN.act
 split
 ·exact Nat.zero_le _
 ·split
  ·split <;> exact Nat.zero_le _
  ·split
   ·exact Nat.zero_le _
   ·split
    ·exact newN_lost (DN.restart_fit hf).1
    ·exact newN_lost (DN.arm_fit (DN.restart_fit hf).1 _ _).1
theorem newN_n (hf : d.Fit) (hL : d.L.length ≤ 256) : (newN d).1.n ≤ d.n + 30840 ∧ (newN d).1.L.length = d.L.length := by
 unfold newN
 split
 ·exact ⟨Nat.le_add_right _ _,rfl⟩
 ·rename_i hd
  split
  ·exact ⟨Nat.le_add_right _ _,rfl⟩
  ·rename_i h9
   have hqw:=open_qw hf (by simpa using hd) (by omega);have h1:=drops_qw (lostL (openN d).s.L) hqw rfl fun e he => (EI.right_iff.1 (hqw.ok.ents e (List.mem_filter.1 he).1)).2.1;have h2 : (lostL (openN d).s.L).length * (2 * (openN d).d.L.length + 2) ≤ 60 * 514:=Nat.mul_le_mul (Nat.le_trans (List.length_filter_le _ _) hqw.ok.len) (by show 2 * d.L.length + 2 ≤ 514;omega);have h3 : (openN d).d = d:=rfl;rw [h3] at h1 h2;split
   ·exact ⟨by show ((openN d).drops (lostL (openN d).s.L)).1.d.n ≤ _;omega,h1.2.1⟩
   ·exact ⟨by show ((openN d).drops (lostL (openN d).s.L)).1.d.n ≤ _;omega,h1.2.1⟩
theorem act_n (hf : K.d.Fit) (hq : ∀ q,K.q = some q → QW q ∧ q.d = K.d) (hL : K.d.L.length ≤ 256) (x : QO) : (K.act x).1.d.n ≤ K.d.n + 30840 := by
 have ha : ∀ d : DN,(d.arm x.a x.b).1.n = d.n ∧ (d.arm x.a x.b).1.L = d.L:=fun d => by unfold DN.arm;split <;> exact ⟨rfl,rfl⟩
 unfold KN.act
 split
 ·exact Nat.le_add_right _ _
 ·rename_i h0
  split
  ·rename_i h3
   cases hk : K.q with
   | none => exact Nat.le_add_right _ _
   | some q =>
    obtain ⟨h1,h2⟩:=hq q hk;show (q.call x).1.d.n ≤ _;rw [← h2] at hL ⊢;unfold QN.call;split
    ·have:=(put_qw h1 x.e).2.2;omega
    ·have:=(became_qw h1 (op:=x.kind + 1) (by omega) x.a).2.2
     show (q.became (x.kind + 1) x.a).1.d.n ≤ _;omega
  ·split
   ·show (K.d.arm x.a x.b).1.n ≤ _
    rw [(ha K.d).1];exact Nat.le_add_right _ _
   ·split
    ·exact (newN_n (DN.restart_fit hf).1 hL).1
    ·have h:=(newN_n (d:=(K.d.restart.arm x.a x.b).1) (DN.arm_fit (DN.restart_fit hf).1 _ _).1 (by rw [(ha _).2];exact hL)).1
     rw [(ha K.d.restart).1] at h;exact h
theorem pair_some {o : Option (QC × QV)} (h : PairAt w p g o K) : ∀ q,K.q = some q → QW q ∧ q.d = K.d := fun q hq => by
 obtain ⟨c,v,q',-,h2,h3,h4,h5⟩:=h.some_ q hq
 exact ⟨h3,h5⟩
theorem rdC_at {A : Option Addr} {xs : List QO} (h : RdC w A xs) (hp : 0 < xs.length) : ∃ a,A = some a ∧ ∀ W,Below w.heap.size w W → ∀ j (hj : j < xs.length),OpAt W (a.add (j * 10)) xs[j] := by
 obtain ⟨a,rfl,-⟩:=h hp
 refine ⟨a,rfl,fun W hb j hj => ?_⟩
 obtain ⟨a',e,-,h3⟩:=(h.below hb) hp
 injection e with e
 subst e
 exact h3 j hj
theorem ext_below {n : Nat} {a b c : World} (h : Below n a b) (k : Below n b c) : Below n a c := ⟨k.os.trans h.os,k.tape.trans h.tape,k.output.trans h.output,Nat.le_trans h.size k.size,fun j hj => (k.block j hj).trans (h.block j hj)⟩
theorem duo_new {w0 W5 w6 w7 : World} {p' g' c' kb mb : Nat} {K0 : KN} {o3 : Option (QC × QV)} {o4 : Option (Nat × XV)} {u u' : Option Addr} (h : Duo w0 p g p' g' c' kb mb K0 K0 none none W5) (h6 : PairWent W5 p g none K o3 w6) (h7 : XPWent w6 p' g' c' none K o4 w7) (hu : qPtr o3 = .pointer u) (hu' : xPtr o4 = .pointer u') :
  Duo w0 p g p' g' c' kb mb K K o3 o4 ((w7.setCell ⟨kb,1,none⟩ (.pointer u)).setCell ⟨mb,1,none⟩ (.pointer u')) ∧ Blk w7 kb 41 #[.pointer (some ⟨p,0,none⟩),qPtr none] ∧ Blk w7 mb 45 #[.pointer (some ⟨p',0,none⟩),xPtr none] ∧ W5.heap.size ≤ w6.heap.size ∧ w6.heap.size ≤ w7.heap.size:=by
 obtain ⟨k0,hx⟩:=h.two
 obtain ⟨k',hx7⟩:=h7.at_
 have s6:=h6.foot.size
 have s7:=h7.foot.size
 have d6:=h.desk.kept (h6.foot.block kb h.desk.lt h.n1.1)
 have m6:=h.mod.kept (h6.foot.block mb h.mod.lt h.n1.2)
 have d7:=d6.kept (h7.foot.block kb d6.lt h.n2.1)
 have m7:=m6.kept (h7.foot.block mb m6.lt h.n2.2)
 have hk1 : ∀ j,j < W5.heap.size → ¬ KF none p g j → ¬ KF o3 p g j:=fun j hj hn q => (h6.new_ j q).elim hn fun e => Nat.lt_irrefl _ (Nat.lt_of_lt_of_le hj e)
 have hk2 : ∀ j,j < w6.heap.size → ¬ XKF none p' g' j → ¬ XKF o4 p' g' j:=fun j hj hn q => (h7.new_ j q).elim hn fun e => Nat.lt_irrefl _ (Nat.lt_of_lt_of_le hj e)
 have hx0 : ∀ j,XKF none p' g' j → j < W5.heap.size:=fun j hj => hx.lt hj
 have n3 : ∀ j,KF o3 p g j → ¬ XKF none p' g' j:=fun j hj q => (h6.new_ j hj).elim (h.ap j q).2 fun e => Nat.lt_irrefl _ (Nat.lt_of_lt_of_le (hx0 j q) e)
 have ap : ∀ j,XKF o4 p' g' j → w0.heap.size ≤ j ∧ ¬ KF o3 p g j:=fun j hj => by
  rcases h7.new_ j hj with q | q
  ·exact ⟨(h.ap j q).1,hk1 j (hx0 j q) (h.ap j q).2⟩
  ·exact ⟨Nat.le_trans h.one.bel.size (Nat.le_trans s6 q),fun e => Nat.lt_irrefl _ (Nat.lt_of_lt_of_le (h6.at_.lt e) q)⟩
 have a1:=hk1 kb h.desk.lt h.n1.1
 have a2:=hk1 mb h.mod.lt h.n1.2
 have b1:=hk2 kb d6.lt h.n2.1
 have b2:=hk2 mb m6.lt h.n2.2
 have P6 : QPlay w0 p g o3 K w6:=h.one.went h6
 have P7 : QPlay w0 p g o3 K w7:=⟨P6.at_.kept fun j hj => h7.foot.block j (P6.at_.lt hj) (n3 j hj),below_foot P6.bel h7.foot (fun i hi => (h.ap i hi).1) P6.bel.size,P6.new_⟩
 refine ⟨⟨⟨P7.at_.kept fun j hj => (set_heap fun e => a2 (by rw [← e];exact hj)).trans (set_heap fun e => a1 (by rw [← e];exact hj)),(P7.bel.setCell (by exact h.lo.1) _).setCell (by exact h.lo.2) _,P7.new_⟩,⟨k',hx7.kept fun j hj => (set_heap fun e => b2 (by rw [← e];exact hj)).trans (set_heap fun e => b1 (by rw [← e];exact hj))⟩,?_,?_,⟨a1,a2⟩,⟨b1,b2⟩,h.ne,ap,h.lo⟩,d7,m7,s6,s7⟩
 ·rw [hu]
  exact (d7.set_ 1 (.pointer u)).set_other (g':=mb) h.ne 1 _
 ·rw [hu']
  exact (m7.set_other (g':=kb) (Ne.symm h.ne) 1 _).set_ 1 (.pointer u')
set_option maxRecDepth 100000 in
theorem law_plays {aA aT aN aW aS : Addr} (hI : GInv w aA aT aN aW aS) (s : Int) (A : Option Addr) (n c : Nat) (xs : List QO) (ha : ArgL w A n xs) : Calls Tryz.prog 12 #[.int .i64 s,.slice A n c] w (Ret (.bool true) w) := by
 have cS:=shown_any hI
 have HA:=Lib.hid ha
 have HI:=Lib.hid hI
 clear ha hI
 go_enter Tryz.func12,Tryz.ntmps12
 go_wp2_with fail
 with_reducible refine cS.mono ?_
 rintro e w1 ⟨rfl,hb1⟩
 have cC:=qcut_any A n c xs w1 HA.out.len (HA.out.row.below hb1) (fun x hx => ⟨(HA.out.in_ x hx).1,(HA.out.in_ x hx).2.1⟩)
 clear cS
 go_wp2_with fail
 with_reducible refine cC.mono ?_
 rintro e w2 ⟨V,rfl,hown,hb2⟩
 obtain ⟨A2,c2,rfl⟩:=own_form hown
 clear cC
 obtain ⟨ys,hys⟩ : ∃ ys,xs.map QO.cut = ys:=⟨_,rfl⟩
 have hyl : xs.length = ys.length:=by rw [← hys,List.length_map]
 have HO:=Lib.hid (show ∀ x ∈ ys,x.Ok from fun x hx => by
  rw [← hys] at hx;obtain ⟨y,hy,rfl⟩:=List.mem_map.1 hx;exact (HA.out.in_ y hy).cut)
 have hy30 : ys.length ≤ 30:=by rw [← hyl,HA.out.len];omega
 rw [hys,hyl] at hown
 rw [hyl]
 have hB2:=ext_trans hb1 hb2
 have HI2:=Lib.hid (HI.out.below hB2)
 have HB2:=Lib.hid hB2
 obtain ⟨-,A3,c3,e3,hrd⟩:=rdC_own hown
 injection e3 with e3 e4 e5
 subst e3
 have HRD:=Lib.hid hrd
 clear hown hys hyl hb1 hb2 HA HI hB2 e4 e5 hrd
 by_cases hs : s < 1 ∨ 256 < s
 ·have c1:=New_no s w2 hs
  have c4:=RNew_no s w2 hs;have hfin:=HB2.out;clear hs;go_wp2_with fail
  with_reducible refine c1.mono ?_
  rintro e w3 ⟨rfl,rfl⟩;clear c1;go_wp2_with fail
  with_reducible refine c4.mono ?_
  rintro e w4 ⟨rfl,rfl⟩;clear c4;go_wp2_with fail
  go_ret;exact ⟨rfl,hfin⟩
 obtain ⟨m,rfl⟩ : ∃ m : Nat,s = (m : Int):=⟨s.toNat,by omega⟩
 have m1 : 1 ≤ m:=by omega
 have m2 : m ≤ 256:=by omega
 have c1:=New_ok m w2 m1 m2
 clear hs
 go_wp2_with fail
 with_reducible refine c1.mono ?_
 intro e w3 hN
 obtain ⟨p,g,rfl,h3⟩:=QPlay.of_new hN m1
 clear hN c1
 have c4:=RNew_ok m w3 m1 m2
 go_wp2_with fail
 with_reducible refine c4.mono ?_
 rintro e w4 ⟨p',g',c',rfl,hp',hg',h4,b4⟩
 clear c4
 obtain ⟨kb,hkb⟩ : ∃ kb,w4.heap.size = kb:=⟨_,rfl⟩
 have hD0 : Duo w2 p g p' g' c' kb (kb + 1) ⟨DN.new m,none⟩ ⟨DN.new m,none⟩ none none ((w4.alloc (.cells #[.pointer (some ⟨p,0,none⟩),.pointer none] 41)).alloc (.cells #[.pointer (some ⟨p',0,none⟩),.pointer none] 45)):=by
  have s3:=h3.bel.size;have s4:=b4.size;have hk : ∀ j,KF none p g j → j < w3.heap.size:=fun j hj => h3.at_.lt hj;have hx : ∀ j,XKF none p' g' j → w3.heap.size ≤ j ∧ j < w4.heap.size:=fun j hj => by
   rcases (xkf_none p' g' j).1 hj with rfl | rfl
   ·exact ⟨hp',h4.disk.lt⟩
   ·exact ⟨hg',h4.glt⟩
  have hbb:=ext_alloc (ext_new w4 (.cells #[.pointer (some ⟨p,0,none⟩),.pointer none] 41)) (.cells #[.pointer (some ⟨p',0,none⟩),.pointer none] 45);refine ⟨(h3.ext b4).ext hbb,⟨0,h4.below hbb,fun _ => rfl,fun q e => (by cases e)⟩,(Blk.at_ hkb.symm).alloc _,Blk.at_ (by simp [hkb]),⟨fun e => by have:=hk _ e;omega,fun e => by have:=hk _ e;omega⟩,⟨fun e => by have:=(hx _ e).2;omega,fun e => by have:=(hx _ e).2;omega⟩,by omega,fun j hj => ⟨by have:=(hx j hj).1;omega,fun e => by have:=hk _ e;have:=(hx j hj).1;omega⟩,by omega,by omega⟩
 have HD0:=Lib.hid hD0
 obtain ⟨k0,hx0⟩:=hD0.two
 have hwx0:=hD0.mod
 clear h3 h4 b4 hp' hg' hD0 hx0 hwx0
 go_wp2_with fail
 generalize (w4.alloc (.cells #[.pointer (some ⟨p,0,none⟩),.pointer none] 41)).alloc (.cells #[.pointer (some ⟨p',0,none⟩),.pointer none] 45) = W5 at *
 have c5:=play_new HD0.out.one HI2.out (Nat.zero_le _)
 dsimp only at c5
 with_reducible refine c5.mono ?_
 rintro e w6 ⟨o3,lv,rfl,hown6,hw6⟩
 obtain ⟨A6,c6,rfl⟩:=own_form hown6
 obtain ⟨k0,hx0⟩:=HD0.out.two
 have hr6:=hx0.disk.keep (hw6.foot.block p' (hx0.disk.disk.lt) (HD0.out.ap p' (.inl (.inl rfl))).2) (hw6.foot.block g' (hx0.disk.glt) (HD0.out.ap g' (.inl (.inr rfl))).2)
 have c7:=xnew_any hr6 (Nat.zero_le _)
 have hfi : (DN.new m).Fit:=hr6.fit
 dsimp only at c7
 clear c5 hx0
 go_wp2_with fail
 with_reducible refine c7.mono ?_
 intro e w7 hN7
 obtain ⟨o4,A7,c7',rfl,hown7,hw7⟩:=xpair_new (o:=none) hN7 hfi
 obtain ⟨u,hu⟩ : ∃ u,qPtr o3 = .pointer u:=by cases o3 <;> exact ⟨_,rfl⟩
 obtain ⟨u',hu'⟩ : ∃ u,xPtr o4 = .pointer u:=by cases o4 <;> exact ⟨_,rfl⟩
 obtain ⟨hD8,d7,m7,s6,s7⟩:=duo_new HD0.out hw6 hw7 hu hu'
 have hl60:=newN_lost hfi
 obtain ⟨rr,hrr⟩ : ∃ rr,newN (DN.new m) = rr:=⟨_,rfl⟩
 have HRR:=Lib.hid (show rr.1.n ≤ 30840 from by have:=(newN_n hfi (by show (List.replicate m _).length ≤ 256;rw [List.length_replicate];exact m2)).1;rw [hrr] at this;have h0 : (DN.new m).n = 0:=rfl;omega)
 rw [hrr] at hown6 hown7 hD8 hl60 ⊢
 obtain ⟨nd,nq,nl,ne⟩:=rr
 dsimp only at hown6 hown7 hD8 hl60 ⊢
 rw [hu,hu']
 obtain ⟨e0,e1,ef0,ef1⟩:=d7.c2
 obtain ⟨g0,g1,gf0,gf1⟩:=m7.c2
 have hne : ¬ kb = kb + 1:=by omega
 have hne2 : ¬ kb + 1 = kb:=by omega
 have hkl : kb + 1 < W5.heap.size:=HD0.out.mod.lt
 have hrow6 : (((w7.setCell ⟨kb,1,none⟩ (.pointer u)).setCell ⟨kb + 1,1,none⟩ (.pointer u')).ownsRow W5.heap.size 23 7 (.slice A6 nl.length c6) nl.length (cellsE nl)):=own_keep hown6 fun j hj => by
  have l1:=own_base_le hown6 hj;have l2:=own_lt hown6 hj;have hxn : ¬ XKF none p' g' j:=fun q => by
   obtain ⟨k9,h9⟩:=HD0.out.two;have:=h9.lt q;omega
  exact ((set_heap (by omega)).trans (set_heap (by omega))).trans (hw7.foot.block j l2 hxn)
 have hrow7 : (((w7.setCell ⟨kb,1,none⟩ (.pointer u)).setCell ⟨kb + 1,1,none⟩ (.pointer u')).ownsRow w6.heap.size 23 7 (.slice A7 nl.length c7') nl.length (cellsE nl)):=own_keep hown7 fun j hj => by
  have l1:=own_base_le hown7 hj;exact (set_heap (by omega)).trans (set_heap (by omega))
 obtain ⟨-,Ax,cx,ex,hR6⟩:=rowE_own hrow6
 injection ex with ex _ ex2
 subst ex
 subst ex2
 obtain ⟨-,Ay,cy,ey,hR7⟩:=rowE_own hrow7
 injection ey with ey _ ey2
 subst ey
 subst ey2
 have cSm:=same_any (c1:=c6) (c2:=c7') hR6 hR7 (by omega) (by omega)
 rw [decide_eq_true rfl] at cSm
 have HD8:=Lib.hid hD8
 clear hown6 hown7 hrow6 hrow7 hR6 hR7 hw6 hw7 hN7 c7 hfi hr6 d7 m7 hD8 HD0 s6 s7 hrr hl60 hu hu'
 go_wp2_with fail
 generalize (w7.setCell ⟨kb,1,none⟩ (.pointer u)).setCell ⟨kb + 1,1,none⟩ (.pointer u') = W8 at *
 with_reducible refine cSm.mono ?_
 rintro e w9 ⟨rfl,hb9⟩
 have hD9:=HD8.out.below hb9
 clear e0 e1 ef0 ef1 g0 g1 gf0 gf1 hb9 HD8 cSm hkl
 go_wp2_with fail
 have hst : nd.n ≤ 30840 * (0 + 1) ∧ Duo w2 p g p' g' c' kb (kb + 1) ⟨nd,nq⟩ ⟨nd,nq⟩ o3 o4 w9:=⟨HRR.out,hD9⟩
 clear hD9
 go_loopw [18] (fun i wr => ∃ (j : Nat) (K : KN) (o : Option (QC × QV)) (o' : Option (Nat × XV)),j ≤ ys.length ∧ i = .int .i64 (j : Int) ∧ K.d.n ≤ 30840 * (j + 1) ∧ Duo w2 p g p' g' c' kb (kb + 1) K K o o' wr) (fun i _ => ys.length - (intOf i).toNat)
 case atStart => exact ⟨0,⟨nd,nq⟩,o3,o4,Nat.zero_le _,rfl,hst.1,hst.2⟩
 case round =>
  obtain ⟨j,K,o,o',hj,rfl,hKn,hD⟩:=hrel;clear hst;by_cases hlt : j < ys.length
  ·obtain ⟨a,rfl,hat⟩:=rdC_at HRD.out (by omega)
   obtain ⟨x0,x1,x2,x3,x4,x5,x6,x7,x8,x9⟩:=hat wr hD.one.bel j hlt;have HAT:=Lib.hid hat;have hdk : K.d.n ≤ 925200:=by omega
   have hxo:=HO.out _ (List.getElem_mem hlt);have hal:=act_lost (K:=K) hD.one.at_.disk.fit ys[j];have hst2:=act_n (K:=K) hD.one.at_.disk.fit (pair_some hD.one.at_) hD.one.at_.disk.len ys[j];have cD:=do_any ys[j] hD.one.at_ hD.desk hD.n1.1 (hD.one.glb HI2.out) hxo (by omega);have HSTP:=Lib.hid (show (K.act ys[j]).1.d.n ≤ 30840 * (j + 1 + 1) from by omega);have hcW:=fun (W : World) (o2 : Option (QC × QV)) (k2 : Nat) (K1 : KN) (hD2 : Duo w2 p g p' g' c' kb (kb + 1) K1 K o2 o' W) (hx2 : XPair W p' g' c' k2 o' K) => mwant_any ys[j] hx2 hD2.mod hD2.n2.2 hxo (by omega);obtain ⟨x,hx⟩ : ∃ x,ys[j] = x:=⟨_,rfl⟩
   rw [hx] at cD hcW HSTP hal x0 x1 x2 x3 x4 x5 x6 x7 x8 x9;obtain ⟨⟨K2,⟨an,al,ae⟩⟩,hr⟩ : ∃ r,K.act x = r:=⟨_,rfl⟩
   rw [hr] at cD hcW HSTP hal;dsimp only at hal;unfold QO.val at cD hcW;have HCW:=Lib.hid hcW;have HD:=Lib.hid hD;have HX:=Lib.hid hx;have i1 : (0 : Int) ≤ (j : Int):=by omega
   have i2 : (j : Int) < (ys.length : Int):=by omega
   clear hcW hxo hst2 hdk hr hat hD hx hKn;go_wp2_with fail
   with_reducible refine cD.mono ?_
   intro e w4 hDo;obtain ⟨o2,A5,c5,rfl,hrow5,hD5,hs5,-⟩:=HD.out.do_ hDo;have hkw:=HD.out.desk.lt;have hmw:=HD.out.mod.lt;have hxw : ∀ i,XKF o' p' g' i → i < wr.heap.size:=fun i hi => by
    obtain ⟨k9,h9⟩:=HD.out.two;exact h9.lt hi
   dsimp only at hrow5 hD5 ⊢;clear x0 x1 x2 x3 x4 x5 x6 x7 x8 x9;have hE5:=ext_new w4 (.cells #[.int .i64 an,.slice A5 al.length c5,.int .i64 ae] 48);have hS5:=Blk.new_ w4 48 #[.int .i64 an,.slice A5 al.length c5,.int .i64 ae];have hD5':=hD5.below hE5;obtain ⟨x0,x1,x2,x3,x4,x5,x6,x7,x8,x9⟩:=HAT.out _ hD5'.one.bel j hlt;rw [HX.out] at x0 x1 x2 x3 x4 x5 x6 x7 x8 x9;have hrow5':=own_below hrow5 hE5;obtain ⟨sb,hsb⟩ : ∃ sb,w4.heap.size = sb:=⟨_,rfl⟩
   obtain ⟨W5,hW5⟩ : ∃ W5,w4.alloc (.cells #[.int .i64 an,.slice A5 al.length c5,.int .i64 ae] 48) = W5:=⟨_,rfl⟩
   rw [hsb] at hS5;rw [hW5] at hS5 hD5' hrow5';have hsl : wr.heap.size ≤ sb:=by rw [← hsb];exact hs5
   have HW5:=Lib.hid (And.intro hW5 hsb);obtain ⟨k5,hx5⟩:=hD5'.two;have cW:=HCW.out W5 o2 k5 K2 hD5' hx5;clear cD hDo hrow5 hD5 hE5 hW5 hsb hs5 hx5;have HD5:=Lib.hid hD5';have HR5:=Lib.hid hrow5';have HS5:=Lib.hid hS5;clear hD5' hrow5' hS5;go_wp2_with fail
   rw [HW5.out.1,HW5.out.2];with_reducible refine cW.mono ?_
   intro e w6 hWa;obtain ⟨o6,A6,c6,rfl,hrow6,hD6,hs6,-⟩:=HD5.out.want_ hWa;dsimp only at hrow6 hD6 ⊢;have hS6:=HS5.out.kept (hWa.foot.block sb HS5.out.lt (fun q => q.elim (fun q => by omega) (fun q => by have:=hxw _ q;omega)));have hrow5':=own_keep HR5.out (fun i hi => hWa.foot.block i (own_lt HR5.out hi) (fun q => by
    have:=own_base_le HR5.out hi;exact q.elim (fun q => by omega) (fun q => by have:=hxw _ q;omega)))
   have hE7:=ext_new w6 (.cells #[.int .i64 an,.slice A6 al.length c6,.int .i64 ae] 48);have hT7:=Blk.new_ w6 48 #[.int .i64 an,.slice A6 al.length c6,.int .i64 ae];have hS7:=hS6.below hE7;have hD7:=hD6.below hE7;have hrow5:=own_below hrow5' hE7;have hrow6':=own_below hrow6 hE7;obtain ⟨tb,htb⟩ : ∃ tb,w6.heap.size = tb:=⟨_,rfl⟩
   obtain ⟨W7,hW7⟩ : ∃ W7,w6.alloc (.cells #[.int .i64 an,.slice A6 al.length c6,.int .i64 ae] 48) = W7:=⟨_,rfl⟩
   rw [htb] at hT7;rw [hW7] at hT7 hS7 hD7 hrow5 hrow6';obtain ⟨-,Ax,cx,ex,hR5⟩:=rowE_own hrow5;injection ex with ex _ ex2
   subst ex;subst ex2;obtain ⟨-,Ay,cy,ey,hR6⟩:=rowE_own hrow6';injection ey with ey _ ey2
   subst ey;subst ey2;have HW7:=Lib.hid (And.intro hW7 htb);clear cW hWa hrow6 hD6 hs6 hS6 hrow5' hE7 hrow5 hrow6' hW7 htb x0 x1 x2 x3 x4 x5 x6 x7 x8 x9 HR5 HS5 HD5 HW5;obtain ⟨k7,hx7⟩:=hD7.two;have hsm:=hD7.one.at_.small;have HC:=Lib.hid (fun (W : World) (hb : Below W7.heap.size W7 W) => (show (W.cell? ⟨sb,0,none⟩ = some (.int .i64 an) ∧ W.cell? ⟨sb,1,none⟩ = some (.slice A5 al.length c5) ∧ W.cell? ⟨sb,2,none⟩ = some (.int .i64 ae)) ∧ (W.cell? ⟨tb,0,none⟩ = some (.int .i64 an) ∧ W.cell? ⟨tb,1,none⟩ = some (.slice A6 al.length c6) ∧ W.cell? ⟨tb,2,none⟩ = some (.int .i64 ae)) ∧ W.cell? ⟨kb,1,none⟩ = some (qPtr o2) ∧ W.cell? ⟨kb + 1,1,none⟩ = some (xPtr o6) ∧ W.cell? ⟨p',4,none⟩ = some (.int .i64 (K2.d.n : Int)) ∧ W.cell? ⟨p',3,none⟩ = some (.bool K2.d.down) from
    ⟨⟨(hS7.below hb).c3.1,(hS7.below hb).c3.2.1,(hS7.below hb).c3.2.2.1⟩,⟨(hT7.below hb).c3.1,(hT7.below hb).c3.2.1,(hT7.below hb).c3.2.2.1⟩,(hD7.desk.below hb).c2.2.1,(hD7.mod.below hb).c2.2.1,(hx7.below hb).disk.disk.c5.2.2.2.2.1,(hx7.below hb).disk.disk.c5.2.2.2.1⟩))
   have HSM:=Lib.hid (fun (W : World) (hb : Below W7.heap.size W7 W) => (show Calls _ _ _ _ (Ret (.bool true) W) from by
    have:=same_any (c1:=c5) (c2:=c6) (hR5.below hb) (hR6.below hb) (by omega) (by omega)
    rwa [decide_eq_true rfl] at this))
   have HEN:=Lib.hid (fun (W : World) (hb : Below W7.heap.size W7 W) => pents_any (hD7.one.at_.below hb));have HXN:=Lib.hid (fun (W : World) (hb : Below W7.heap.size W7 W) => xents_any (hx7.below hb));have HKN:=Lib.hid (fun (W : World) (hb : Below W7.heap.size W7 W) => pkeys_any (hD7.one.at_.below hb));have HXK:=Lib.hid (fun (W : World) (hb : Below W7.heap.size W7 W) => xtxts_any (hx7.below hb));have HWR:=Lib.hid (fun (W : World) (hb : Below W7.heap.size W7 W) => Writes_any (hD7.one.at_.below hb).disk);have HDN:=Lib.hid (fun (W : World) (hb : Below W7.heap.size W7 W) => IsDown_any (hD7.one.at_.below hb).disk);have HEND:=Lib.hid (fun (W : World) (hb : Below W7.heap.size W7 W) => (show Duo w2 p g p' g' c' kb (kb + 1) K2 K2 o2 o6 W from hD7.below hb));have HSZ:=Lib.hid hsm;obtain ⟨en,hen⟩ : ∃ l,K2.ents = l:=⟨_,rfl⟩
   obtain ⟨tx,htx⟩ : ∃ l,K2.txts = l:=⟨_,rfl⟩
   obtain ⟨dn,hdn⟩ : ∃ l,K2.d.n = l:=⟨_,rfl⟩
   obtain ⟨dw,hdw⟩ : ∃ l,K2.d.down = l:=⟨_,rfl⟩
   rw [hen,htx] at HSZ;rw [hen] at HEN HXN;rw [htx] at HKN HXK;rw [hdn] at HC HWR;rw [hdw] at HC HDN;clear hS7 hT7 hD7 hx7 hR5 hR6 hsm hen htx hdn hdw;go_wp2_with fail
   rw [HW7.out.1,HW7.out.2];clear HW7;refine wp_region_held_drew (S:=Below W7.heap.size W7) (by kernel_rfl) (Below.refl _ _).drew (fun hHeld => ?_);generalize W7.drew = W0 at *;refine tk_ 0 97 rfl rfl ?_;refine tk_ 1 98 rfl rfl ?_ (fun wx hSx => by obtain ⟨⟨a0,a1,a2⟩,⟨b0,b1,b2⟩,kk1,mm1,d4,d3⟩:=HC.out _ hSx;go_simp;try with_reducible rfl);refine tk_ 2 99 rfl rfl ?_;refine tk_ 3 100 rfl rfl ?_ (fun wx hSx => by obtain ⟨⟨a0,a1,a2⟩,⟨b0,b1,b2⟩,kk1,mm1,d4,d3⟩:=HC.out _ hSx;go_simp;try with_reducible rfl);refine tk_ 4 101 rfl rfl ?_;refine tk_ 5 102 rfl rfl ?_;refine tk_ 6 103 rfl rfl ?_;refine tk_ 7 104 rfl rfl ?_ (fun wx hSx => by obtain ⟨⟨a0,a1,a2⟩,⟨b0,b1,b2⟩,kk1,mm1,d4,d3⟩:=HC.out _ hSx;go_simp;try with_reducible rfl);refine tk_ 8 105 rfl rfl ?_;refine tk_ 9 106 rfl rfl ?_ (fun wx hSx => by obtain ⟨⟨a0,a1,a2⟩,⟨b0,b1,b2⟩,kk1,mm1,d4,d3⟩:=HC.out _ hSx;go_simp;try with_reducible rfl);refine tk_ 10 107 rfl rfl ?_;refine tk_ 11 108 rfl rfl ?_;refine tk_ 12 109 rfl rfl ?_;refine tk_ 13 110 rfl rfl ?_;refine tk_ 14 111 rfl rfl ?_ (fun wx hSx => by obtain ⟨⟨a0,a1,a2⟩,⟨b0,b1,b2⟩,kk1,mm1,d4,d3⟩:=HC.out _ hSx;go_simp;try with_reducible rfl);refine tk_ 15 112 rfl rfl ?_;refine tk_ 16 113 rfl rfl ?_ (fun wx hSx => by obtain ⟨⟨a0,a1,a2⟩,⟨b0,b1,b2⟩,kk1,mm1,d4,d3⟩:=HC.out _ hSx;go_simp;try with_reducible rfl);refine rdy1 17 rfl ?_;intro KK hKK;go_simp;with_reducible refine (HSM.out _ hHeld).mono ?_
   rintro e v17 ⟨rfl,hb17⟩;try go_wp2_with fail
   have hH2:=ext_trans hHeld hb17;refine hKK.out _ _ hH2 (fun hHeld => ?_);clear hKK KK hH2;refine tk_ 18 115 rfl rfl ?_;refine tk_ 19 116 rfl rfl ?_;refine tk_ 20 117 rfl rfl ?_;refine tk_ 21 118 rfl rfl ?_;refine tk_ 22 119 rfl rfl ?_;refine tk_ 23 120 rfl rfl ?_;refine tk_ 24 121 rfl rfl ?_ (fun wx hSx => by obtain ⟨⟨a0,a1,a2⟩,⟨b0,b1,b2⟩,kk1,mm1,d4,d3⟩:=HC.out _ hSx;go_simp;try with_reducible rfl);refine tk_ 26 123 rfl rfl ?_;refine tk_ 27 124 rfl rfl ?_;refine tk_ 28 125 rfl rfl ?_;refine tk_ 29 126 rfl rfl ?_ (fun wx hSx => by obtain ⟨⟨a0,a1,a2⟩,⟨b0,b1,b2⟩,kk1,mm1,d4,d3⟩:=HC.out _ hSx;go_simp;try with_reducible rfl);refine rdy1 25 rfl ?_;intro KK hKK;go_simp;with_reducible refine (HEN.out _ hHeld).mono ?_
   rintro e v25 ⟨A25,c25,rfl,R25,hb25⟩;try go_wp2_with fail
   have hH2:=ext_trans hHeld hb25;refine hKK.out _ _ hH2 (fun hHeld => ?_);clear hKK KK hH2;refine rdy1 30 rfl ?_;intro KK hKK;go_simp;with_reducible refine (HXN.out _ hHeld).mono ?_
   rintro e v30 ⟨A30,c30,rfl,R30,hb30⟩;try go_wp2_with fail
   have hH2:=ext_trans hHeld hb30;refine hKK.out _ _ hH2 (fun hHeld => ?_);clear hKK KK hH2;refine rdy1 31 rfl ?_;intro KK hKK;go_simp;with_reducible refine (same_any (c1:=c25) (c2:=c30) (R25.below hb30) R30 HSZ.out.1 HSZ.out.1).mono ?_
   rintro e v31 ⟨rfl,hb31⟩;try go_wp2_with fail
   have hH2:=ext_trans hHeld hb31;refine hKK.out _ _ hH2 (fun hHeld => ?_);clear hKK KK hH2;refine tk_ 32 129 rfl rfl ?_;refine tk_ 33 130 rfl rfl ?_;refine tk_ 34 131 rfl rfl ?_;refine tk_ 35 132 rfl rfl ?_;refine tk_ 36 133 rfl rfl ?_;refine tk_ 37 134 rfl rfl ?_;refine tk_ 38 135 rfl rfl ?_ (fun wx hSx => by obtain ⟨⟨a0,a1,a2⟩,⟨b0,b1,b2⟩,kk1,mm1,d4,d3⟩:=HC.out _ hSx;go_simp;try with_reducible rfl);refine tk_ 40 137 rfl rfl ?_;refine tk_ 41 138 rfl rfl ?_;refine tk_ 42 139 rfl rfl ?_;refine tk_ 43 140 rfl rfl ?_ (fun wx hSx => by obtain ⟨⟨a0,a1,a2⟩,⟨b0,b1,b2⟩,kk1,mm1,d4,d3⟩:=HC.out _ hSx;go_simp;try with_reducible rfl);refine rdy1 39 rfl ?_;intro KK hKK;go_simp;with_reducible refine (HKN.out _ hHeld).mono ?_
   rintro e v39 ⟨A39,c39,rfl,R39,hb39⟩;try go_wp2_with fail
   have hH2:=ext_trans hHeld hb39;refine hKK.out _ _ hH2 (fun hHeld => ?_);clear hKK KK hH2;refine rdy1 44 rfl ?_;intro KK hKK;go_simp;with_reducible refine (HXK.out _ hHeld).mono ?_
   rintro e v44 ⟨A44,c44,rfl,R44,hb44⟩;try go_wp2_with fail
   have hH2:=ext_trans hHeld hb44;refine hKK.out _ _ hH2 (fun hHeld => ?_);clear hKK KK hH2;refine rdy1 45 rfl ?_;intro KK hKK;go_simp;with_reducible refine (texts_any (c1:=c39) (c2:=c44) (R39.below hb44) R44 HSZ.out.2 HSZ.out.2).mono ?_
   rintro e v45 ⟨rfl,hb45⟩;try go_wp2_with fail
   have hH2:=ext_trans hHeld hb45;refine hKK.out _ _ hH2 (fun hHeld => ?_);clear hKK KK hH2;refine tk_ 46 143 rfl rfl ?_;refine tk_ 47 144 rfl rfl ?_;refine tk_ 48 145 rfl rfl ?_;refine tk_ 49 146 rfl rfl ?_;refine tk_ 51 148 rfl rfl ?_;refine tk_ 52 149 rfl rfl ?_;refine tk_ 53 150 rfl rfl ?_;refine tk_ 54 151 rfl rfl ?_ (fun wx hSx => by obtain ⟨⟨a0,a1,a2⟩,⟨b0,b1,b2⟩,kk1,mm1,d4,d3⟩:=HC.out _ hSx;go_simp;try with_reducible rfl);refine rdy1 50 rfl ?_;intro KK hKK;go_simp;with_reducible refine (HWR.out _ hHeld).mono ?_
   rintro e v50 ⟨rfl,rfl⟩;try go_wp2_with fail
   have hH2:=hHeld;refine hKK.out _ _ hH2 (fun hHeld => ?_);clear hKK KK hH2;refine tk_ 55 152 rfl rfl ?_;refine tk_ 56 153 rfl rfl ?_;refine tk_ 57 154 rfl rfl ?_;refine tk_ 58 155 rfl rfl ?_;refine tk_ 60 157 rfl rfl ?_;refine tk_ 61 158 rfl rfl ?_;refine tk_ 62 159 rfl rfl ?_;refine tk_ 63 160 rfl rfl ?_ (fun wx hSx => by obtain ⟨⟨a0,a1,a2⟩,⟨b0,b1,b2⟩,kk1,mm1,d4,d3⟩:=HC.out _ hSx;go_simp;try with_reducible rfl);refine rdy1 59 rfl ?_;intro KK hKK;go_simp;with_reducible refine (HDN.out _ hHeld).mono ?_
   rintro e v59 ⟨rfl,rfl⟩;try go_wp2_with fail
   have hH2:=hHeld;refine hKK.out _ _ hH2 (fun hHeld => ?_);clear hKK KK hH2;refine tk_ 64 161 rfl rfl ?_;refine tk_ 65 162 rfl rfl ?_;refine wpAnyH_done (by kernel_rfl) ?_ _;try simp only [Act.put,List.setIfInBounds_toArray,List.set_cons_succ,List.set_cons_zero]
   have hD9:=HEND.out _ hHeld;clear HC HSM HEN HXN HKN HXK HWR HDN HEND hHeld;go_wp2_with fail
   go_roundw
   ·exact ⟨j + 1,K2,o2,o6,by omega,by go_num,HSTP.out,hD9⟩
   ·simp [intOf];omega
  ·obtain rfl : j = ys.length:=by omega
   obtain ⟨k5,hx5⟩:=hD.two;have hp1 : ¬ KF o p g p':=(hD.ap p' (.inl (.inl rfl))).2;have hg1 : ¬ KF o p g g':=(hD.ap g' (.inl (.inr rfl))).2;have hp2 : w2.heap.size ≤ p':=(hD.ap p' (.inl (.inl rfl))).1;have hg2 : w2.heap.size ≤ g':=(hD.ap g' (.inl (.inr rfl))).1;have cR:=play_restart hD.one;have HPD:=Lib.hid (And.intro hD.one <| And.intro hx5.disk <| And.intro hp1 <| And.intro hg1 <| And.intro hp2 hg2);clear hD hx5 hKn hp1 hg1 hp2 hg2 hj hlt;go_wp2_with fail
   with_reducible refine cR.mono ?_
   rintro e w4 ⟨rfl,hw4⟩;obtain ⟨q1,q2,q3,q4,q5,q6⟩:=HPD.out;have hP4:=q1.went hw4;have hr4:=q2.keep (hw4.foot.block p' q2.disk.lt q3) (hw4.foot.block g' q2.glt q4);have n1 : p ≠ p' ∧ p ≠ g':=⟨fun e => q3 (.inl e.symm),fun e => q4 (.inl e.symm)⟩
   have n2 : g ≠ p' ∧ g ≠ g':=⟨fun e => q3 (.inr (.inl e.symm)),fun e => q4 (.inr (.inl e.symm))⟩
   have cR2:=RRestart_any hr4;have HP4:=Lib.hid (And.intro hP4 <| And.intro n1 <| And.intro n2 <| And.intro q5 q6);clear cR hw4 q1 q2 q3 q4 q5 q6 hP4 hr4 n1 n2;go_wp2_with fail
   with_reducible refine cR2.mono ?_
   rintro e w5 ⟨rfl,⟨k6,hr5⟩,hb5⟩;obtain ⟨q1,n1,n2,q5,q6⟩:=HP4.out;have hP5 : QPlay w2 p g none ⟨K.d.restart,none⟩ w5:=⟨q1.at_.kept fun i hi => by
    rcases (kf_none p g i).1 hi with rfl | rfl
    ·exact hb5.block _ (q1.at_.lt hi) n1.1 n1.2
    ·exact hb5.block _ (q1.at_.lt hi) n2.1 n2.2,hb5.below q5 q6 q1.bel.size |> fun h => ext_below q1.bel h,q1.new_⟩
   have e6 : IntKind.i64.wrap (64 * (m : Int)) = 64 * (m : Int):=IntWalk.i64_in _ (by omega);have cB:=DBytes_any 0 (64 * (m : Int)) aN aW aS hP5.at_.disk (HI2.out.below hP5.bel).d hP5.at_.pos (by omega) (by omega);have hR5:=fun (W : World) (hb : Below w5.heap.size w5 W) => RBytes_any 0 (64 * (m : Int)) (hr5.below hb) (by omega) (by omega);dsimp only at cB hR5;obtain ⟨⟨tx,te⟩,htx⟩ : ∃ t,K.d.restart.bytes 0 (64 * (m : Int)) = t:=⟨_,rfl⟩
   rw [htx] at cB hR5;dsimp only at cB hR5;have HR5:=Lib.hid hR5;have hfin:=ext_trans HB2.out hP5.bel;clear hR5 hr5 hb5 hP5 cR2 htx q1 n1 n2 q5 q6 HP4 HPD;go_wp2_with fail
   with_reducible refine cB.mono ?_
   rintro e w6 ⟨rfl,hb6⟩;have cB2:=HR5.out w6 hb6;have hfin6:=ext_trans hfin hb6;clear cB hb6 hfin;go_wp2_with fail
   with_reducible refine cB2.mono ?_
   rintro e w7 ⟨rfl,rfl⟩;clear cB2;go_wp2_with fail
   go_ret;exact ⟨rfl,hfin6⟩
end Go.Proofs.YtmebjdbkngehiaaGreatDoor
