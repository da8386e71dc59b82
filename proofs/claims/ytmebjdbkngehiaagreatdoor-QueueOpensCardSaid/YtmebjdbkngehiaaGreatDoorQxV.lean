/-
  QueueOpens. Conditions: the program's variables hold what GInv says.
-/
import Derived.Test.YtmebjdbkngehiaaGreatDoorQiG
import Derived.Test.YtmebjdbkngehiaaGreatDoorQhO
namespace Go.Proofs.YtmebjdbkngehiaaGreatDoor
open Go.RowKit Go.Shelf
set_option maxHeartbeats 40000000
variable {W w w0 W1 : World} {g c p p' g' c' m j k : Nat} {l : List UInt8} {a : Act} {D : DN}
def zer (n : Nat) : ByteArray := ⟨(List.replicate n (0 : UInt8)).toArray⟩
theorem made_64 : (madeCells (Value.int .u8 0).cells (64 * 1)).toList = cellsB (List.replicate 64 0) := by kernel_rfl
theorem conv_row {base n : Nat} (h : W.ownsRow base 5 1 (.slice (some ⟨g,0,none⟩) n c) n (cellsB l)) (hl : l.length = n) : (convert 36 9 (.slice (some ⟨g,0,none⟩) n c)).run Tryz.prog W = .ok (.string ⟨l.toArray⟩) W := by
 subst hl
 refine run_convert_bytes_back (P:=Tryz.prog) _ 36 9 5 ⟨g,0,none⟩ c l Tryz.underlying36 Tryz.underlying5 Tryz.underlying9 (fun j hj => ?_)
 have hc:=h.cells rfl j (.int .u8 (l[j].toNat : Int)) (by rw [cellsB,List.getElem?_map,List.getElem?_eq_getElem hj];rfl)
 rw [hc]
theorem conv_blk (h : Blk W g 5 (cellsB l).toArray) : (convert 36 9 (.slice (some ⟨g,0,none⟩) l.length c)).run Tryz.prog W = .ok (.string ⟨l.toArray⟩) W := by
 refine run_convert_bytes_back (P:=Tryz.prog) _ 36 9 5 ⟨g,0,none⟩ c l Tryz.underlying36 Tryz.underlying5 Tryz.underlying9 (fun j hj => ?_)
 have hc:=Blk.cells_ (ds:=cellsB l) h j (.int .u8 (l[j].toNat : Int)) (by rw [cellsB,List.getElem?_map,List.getElem?_eq_getElem hj];rfl)
 rw [hc]
def zer63 : List UInt8 := List.replicate 63 0
theorem made_63' : madeCells (Value.int .u8 0).cells (63 * 1) = (cellsB zer63).toArray := by kernel_rfl
theorem u8_wrap (v : Int) : ∃ x : UInt8,IntKind.u8.wrap v = (x.toNat : Int) := by
 refine ⟨UInt8.ofNat (v % 256).toNat,?_⟩
 have h : (UInt8.ofNat (v % 256).toNat).toNat = (v % 256).toNat:=UInt8.toNat_ofNat_of_lt' (by show _ < 256;omega)
 rw [h]
 show IntKind.u8.wrap v = _
 rw [show IntKind.u8.wrap v = v % 256 from rfl]
 omega
def NormPost (F : Act → Value → Value → Act) (R : World → Prop) (a : Act) : Exit → Act → World → Prop
 | .normal,a',w' => ∃ v1 v2,a' = F a v1 v2 ∧ R w'
 | _,_,_ => False
theorem norm_post {F : Act → Value → Value → Act} {R : World → Prop} {a' : Act} (v1 v2 : Value) (h : a' = F a v1 v2) (hR : R w) : NormPost F R a .normal a' w := ⟨v1,v2,h,hR⟩
theorem region_post {P : Program} {c : Code} {Q : Exit → Act → World → Prop} (F : Act → Value → Value → Act) (R : World → Prop) (h : c.wp P (NormPost F R a) a w) (hR : ∀ v1 v2 w',R w' → Q .normal (F a v1 v2) w') : c.wp P Q a w :=
 Code.wp_mono (fun e a' w' q => by
  cases e with
  | normal =>
   obtain ⟨v1,v2,ha,hd⟩:=q;subst ha;exact hR v1 v2 w' hd
  | _ => exact q.elim) h
structure DW (w0 : World) (p g p' g' c' m : Nat) (D : DN) (j : Nat) (W : World) : Prop where
 one : DAt W p g D
 two : ∃ k,RAt W p' g' c' k D
 bel : Below w0.heap.size w0 W
 h1 : w0.heap.size ≤ p ∧ w0.heap.size ≤ g
 h2 : w0.heap.size ≤ p' ∧ w0.heap.size ≤ g'
 ne : (p ≠ p' ∧ p ≠ g') ∧ (g ≠ p' ∧ g ≠ g')
 n : D.n ≤ j
 len : D.L.length = m
theorem DW.below {W' : World} (h : DW w0 p g p' g' c' m D j W) (hb : Below W.heap.size W W') : DW w0 p g p' g' c' m D j W' := by
 obtain ⟨k,hk⟩:=h.two
 exact ⟨h.one.below hb,⟨k,hk.below hb⟩,ext_trans h.bel hb,h.h1,h.h2,h.ne,h.n,h.len⟩
theorem DW.newb (_h : DW w0 p g p' g' c' m D j W) (T : TypeId) (ds : Array Value) : Blk (W.alloc (.cells ds T)) W.heap.size T ds := Blk.new_ W T ds
theorem DW.mk63 (_h : DW w0 p g p' g' c' m D j W) : (Instr.makeSlice 36 (.int .i64 63) (.int .i64 63)).run Tryz.prog W = .ok (.slice (some ⟨W.heap.size,0,none⟩) 63 63) (W.alloc (.cells (cellsB zer63).toArray 5)) := by
 obtain ⟨b0,hb0,hbz,hb1,hb2⟩:=info_parts infoU8
 have hmk:=run_makeSlice (P:=Tryz.prog) (w:=W) 36 5 b0 _ Tryz.underlying36 hb0 hbz .i64 .i64 63 63 (by decide) (by decide) (by rw [hb1];decide) (by rw [hb2];decide) (by decide)
 rw [hb1,show ((63 : Int)).toNat = 63 from rfl,made_63'] at hmk
 exact hmk
theorem DW.mid (h : DW w0 p g p' g' c' m D j W) (hk : RAt W p' g' c' k D) (b1 : But2 p g W W1) : RAt W1 p' g' c' k D :=
 hk.keep (b1.block _ hk.disk.lt (Ne.symm h.ne.1.1) (Ne.symm h.ne.2.1)) (b1.block _ hk.glt (Ne.symm h.ne.1.2) (Ne.symm h.ne.2.2))
theorem DW.go {W2 : World} (h : DW w0 p g p' g' c' m D j W) (i : Int) (s : List UInt8) (h1 : DAt W1 p g (D.write i s).1) (b1 : But2 p g W W1) (h2 : RAt W2 p' g' c' k (D.write i s).1) (b2 : But2 p' g' W1 W2) : DW w0 p g p' g' c' m (D.write i s).1 (j + 1) W2 := by
 obtain ⟨q1,q2,q3⟩:=DN.write_fit h.one.fit i s
 refine ⟨⟨h1.disk.kept (b2.block _ h1.disk.lt h.ne.1.1 h.ne.1.2),h1.secs.kept (b2.block _ h1.secs.lt h.ne.2.1 h.ne.2.2),h1.ne,h1.fit,h1.len,h1.left,h1.n⟩,⟨k,h2⟩,?_,h.h1,h.h2,h.ne,by have:=h.n;omega,q2.trans h.len⟩
 have c1:=ext_below h.bel (b1.below h.h1.1 h.h1.2 h.bel.size)
 exact ext_below c1 (b2.below h.h2.1 h.h2.2 c1.size)
theorem DW.duo {kb : Nat} (h : DW w0 p g p' g' c' m D j W) (hm : 1 ≤ m) (hkb : W.heap.size = kb) : Duo w0 p g p' g' c' kb (kb + 1) ⟨D,none⟩ ⟨D,none⟩ none none ((W.alloc (.cells #[.pointer (some ⟨p,0,none⟩),.pointer none] 41)).alloc (.cells #[.pointer (some ⟨p',0,none⟩),.pointer none] 45)) := by
 obtain ⟨k,hk⟩:=h.two
 have hbb:=ext_alloc (ext_new W (.cells #[.pointer (some ⟨p,0,none⟩),.pointer none] 41)) (.cells #[.pointer (some ⟨p',0,none⟩),.pointer none] 45)
 have q1 : ∀ i,KF none p g i → i < kb ∧ w0.heap.size ≤ i:=fun i hi => by
  rw [← hkb];rcases (kf_none p g i).1 hi with rfl | rfl
  ·exact ⟨h.one.disk.lt,h.h1.1⟩
  ·exact ⟨h.one.secs.lt,h.h1.2⟩
 have q2 : ∀ i,XKF none p' g' i → i < kb ∧ w0.heap.size ≤ i:=fun i hi => by
  rw [← hkb];rcases (xkf_none p' g' i).1 hi with rfl | rfl
  ·exact ⟨hk.disk.lt,h.h2.1⟩
  ·exact ⟨hk.glt,h.h2.2⟩
 have hs:=h.bel.size
 have hP : QPlay w0 p g none ⟨D,none⟩ W:=⟨⟨h.one,by show 0 < D.L.length;rw [h.len];omega,fun _ => rfl,fun q hq => (by cases hq)⟩,h.bel,fun i hi => (q1 i hi).2⟩
 refine ⟨hP.ext hbb,⟨k,hk.below hbb,fun _ => rfl,fun q e => (by cases e)⟩,(Blk.at_ hkb.symm).alloc _,Blk.at_ (by simp [hkb]),⟨fun e => by have:=(q1 _ e).1;omega,fun e => by have:=(q1 _ e).1;omega⟩,⟨fun e => by have:=(q2 _ e).1;omega,fun e => by have:=(q2 _ e).1;omega⟩,by omega,fun i hi => ⟨(q2 i hi).2,fun e => ?_⟩,by omega,by omega⟩
 rcases (kf_none p g i).1 e with rfl | rfl
 ·rcases (xkf_none p' g' i).1 hi with e | e
  ·exact h.ne.1.1 e
  ·exact h.ne.1.2 e
 ·rcases (xkf_none p' g' i).1 hi with e | e
  ·exact h.ne.2.1 e
  ·exact h.ne.2.2 e
set_option maxRecDepth 100000 in
theorem law_opens {aA aT aN aW aS : Addr} (hI : GInv w aA aT aN aW aS) (sc : Int) (t : ByteArray) (ht : t.size ≤ 9223372036854775807) (fb : Int) (x : QO) (hx : x.In) : Calls Tryz.prog 3 #[.int .i64 sc,.string t,.int .i64 fb,x.val] w (Ret (.bool true) w) := by
 have HX:=Lib.hid hx.cut
 have HXI:=Lib.hid hx
 have HI:=Lib.hid hI
 clear hx
 obtain ⟨xk,xa,xn,⟨e0,e1,e2,e3,e4,e5,e6⟩⟩:=x
 have hE:=ext_new w (.cells #[.int .i64 xk,.int .i64 xa,.int .i64 xn,.int .i64 e0,.int .i64 e1,.string e2,.string e3,.int .i64 e4,.bool e5,.bool e6] 25)
 have hX:=Blk.new_ w 25 #[.int .i64 xk,.int .i64 xa,.int .i64 xn,.int .i64 e0,.int .i64 e1,.string e2,.string e3,.int .i64 e4,.bool e5,.bool e6]
 have cS:=shown_any (hI.below hE)
 unfold QO.val
 dsimp only
 clear hI
 go_enter Tryz.func3,Tryz.ntmps3
 go_wp2_with fail
 with_reducible refine cS.mono ?_
 rintro e w1 ⟨rfl,hb1⟩
 have hX1:=hX.below hb1
 have hB1:=ext_trans hE hb1
 obtain ⟨xb,hxb⟩ : ∃ xb,w.heap.size = xb:=⟨_,rfl⟩
 have hwx : w.heap.size ≤ xb:=Nat.le_of_eq hxb
 rw [hxb] at hX1 ⊢
 have HWX:=Lib.hid hwx
 clear cS hX hE hb1 hxb hwx
 obtain ⟨x0,x1,x2,x3,x4,x5,x6,x7,x8,x9⟩:=op_cells hX1
 have hE:=ext_new w1 (.cells #[.int .i64 xk,.int .i64 xa,.int .i64 xn,.int .i64 e0,.int .i64 e1,.string e2,.string e3,.int .i64 e4,.bool e5,.bool e6] 25)
 have hR:=Blk.new_ w1 25 #[.int .i64 xk,.int .i64 xa,.int .i64 xn,.int .i64 e0,.int .i64 e1,.string e2,.string e3,.int .i64 e4,.bool e5,.bool e6]
 have hX2:=hX1.below hE
 have hB2:=ext_trans hB1 hE
 have cC:=qcut_any (some ⟨w1.heap.size,0,none⟩) 1 1 [⟨xk,xa,xn,⟨e0,e1,e2,e3,e4,e5,e6⟩⟩] _ rfl (rdC_one hR) (by
  intro y hy;obtain rfl:=List.mem_singleton.1 hy;exact ⟨HXI.out.1,HXI.out.2.1⟩)
 obtain ⟨m2,hm2⟩ : ∃ m : Nat,m = min t.size 2000:=⟨_,rfl⟩
 have hms : m2 ≤ t.size:=by omega
 clear hX1 hB1 hE hR
 go_wp2_with fail
 clear x0 x1 x2 x3 x4 x5 x6 x7 x8 x9
 with_reducible refine cC.mono ?_
 rintro e w3 ⟨V,rfl,hown,hb3⟩
 obtain ⟨y,hy⟩ : ∃ y,(QO.mk xk xa xn ⟨e0,e1,e2,e3,e4,e5,e6⟩).cut = y:=⟨_,rfl⟩
 rw [show [QO.mk xk xa xn ⟨e0,e1,e2,e3,e4,e5,e6⟩].map QO.cut = [y] from by rw [← hy];rfl] at hown
 obtain ⟨-,r,c3,rfl,hr,hy0⟩:=op_own_one hown
 have hX3:=hX2.below hb3
 have hB3:=ext_trans hB2 hb3
 have HY : y.Ok:=by rw [← hy];exact HX.out
 obtain ⟨yk,ya,yn,⟨f0,f1,f2,f3,f4,f5,f6⟩⟩:=y
 obtain ⟨x0,x1,x2,x3,x4,x5,x6,x7,x8,x9⟩:=hy0
 dsimp only at x0 x1 x2 x3 x4 x5 x6 x7 x8 x9
 replace HY:=Lib.hid HY
 clear cC hown hy hX2 hB2 hb3 HX HXI
 obtain ⟨z0,z1,z2,z3,z4,z5,z6,z7,z8,z9⟩ : w3.frozen? ⟨xb,0,none⟩ = false ∧ w3.frozen? ⟨xb,1,none⟩ = false ∧ w3.frozen? ⟨xb,2,none⟩ = false ∧ w3.frozen? ⟨xb,3,none⟩ = false ∧ w3.frozen? ⟨xb,4,none⟩ = false ∧ w3.frozen? ⟨xb,5,none⟩ = false ∧ w3.frozen? ⟨xb,6,none⟩ = false ∧ w3.frozen? ⟨xb,7,none⟩ = false ∧ w3.frozen? ⟨xb,8,none⟩ = false ∧ w3.frozen? ⟨xb,9,none⟩ = false:=⟨hX3.frozen 0,hX3.frozen 1,hX3.frozen 2,hX3.frozen 3,hX3.frozen 4,hX3.frozen 5,hX3.frozen 6,hX3.frozen 7,hX3.frozen 8,hX3.frozen 9⟩
 obtain ⟨c0,c1,c2,c3',c4,c5,c6,c7,c8,c9⟩:=op_cells hX3
 have hX4:=blk_set10 hX3 (.int .i64 yk) (.int .i64 ya) (.int .i64 yn) (.int .i64 f0) (.int .i64 f1) (.string f2) (.string f3) (.int .i64 f4) (.bool f5) (.bool f6)
 have hB4:=below_set10 hB3 HWX.out (.int .i64 yk) (.int .i64 ya) (.int .i64 yn) (.int .i64 f0) (.int .i64 f1) (.string f2) (.string f3) (.int .i64 f4) (.bool f5) (.bool f6)
 obtain ⟨W4,hW4⟩ : ∃ W4,W4 = (((((((((w3.setCell ⟨xb,0,none⟩ (.int .i64 yk)).setCell ⟨xb,1,none⟩ (.int .i64 ya)).setCell ⟨xb,2,none⟩ (.int .i64 yn)).setCell ⟨xb,3,none⟩ (.int .i64 f0)).setCell ⟨xb,4,none⟩ (.int .i64 f1)).setCell ⟨xb,5,none⟩ (.string f2)).setCell ⟨xb,6,none⟩ (.string f3)).setCell ⟨xb,7,none⟩ (.int .i64 f4)).setCell ⟨xb,8,none⟩ (.bool f5)).setCell ⟨xb,9,none⟩ (.bool f6):=⟨_,rfl⟩
 rw [← hW4] at hX4 hB4
 have HW4:=Lib.hid hW4
 have HX4:=Lib.hid (And.intro hX4 hB4)
 clear hX4 hB4 hX3 hW4
 go_wp2_with fail
 rw [← HW4.out]
 clear x0 x1 x2 x3 x4 x5 x6 x7 x8 x9 z0 z1 z2 z3 z4 z5 z6 z7 z8 z9 c0 c1 c2 c3' c4 c5 c6 c7 c8 c9 HW4 hr
 by_cases hs : sc < 1 ∨ 256 < sc
 ·have d1:=New_no sc W4 hs
  have d4:=RNew_no sc W4 hs;have hfin:=HX4.out.2;clear hs;with_reducible refine d1.mono ?_
  rintro e w5 ⟨rfl,rfl⟩;clear d1;go_wp2_with fail
  with_reducible refine d4.mono ?_
  rintro e w6 ⟨rfl,rfl⟩;clear d4;go_wp2_with fail
  go_ret;exact ⟨rfl,hfin⟩
 obtain ⟨m,rfl⟩ : ∃ m : Nat,sc = (m : Int):=⟨sc.toNat,by omega⟩
 have m1 : 1 ≤ m:=by omega
 have hm256 : m ≤ 256:=by omega
 have d1:=New_ok m W4 m1 hm256
 clear hs
 with_reducible refine d1.mono ?_
 intro e w5 hN
 obtain ⟨p,g,rfl,h5⟩:=QPlay.of_new hN m1
 clear hN d1
 have d4:=RNew_ok m w5 m1 hm256
 go_wp2_with fail
 with_reducible refine d4.mono ?_
 rintro e w6 ⟨p',g',c',rfl,hp',hg',h6,b6⟩
 clear d4
 obtain ⟨i8,hi8,hz0,hz1,hz2⟩:=info_parts infoU8
 have hzm : i8.bytes * 64 ≤ 281474976710656:=by rw [hz2];decide
 have hzm3 : i8.bytes * 63 ≤ 281474976710656:=by rw [hz2];decide
 have hmm : 64 ≤ maxLen:=by unfold maxLen;omega
 have hmm3 : 63 ≤ maxLen:=by unfold maxLen;omega
 have HZM:=Lib.hid (And.intro hzm3 hmm3)
 have hsz : (t.extract 0 (min (t.size : Int) 2000).toNat).size ≤ 2000:=by rw [ByteArray.size_extract];omega
 generalize t.extract 0 (min (t.size : Int) 2000).toNat = s2 at *
 have hz64 : (zer 64).size = 64:=rfl
 have hcat : ¬ (9223372036854775807 < s2.size + (zer 64).size):=by rw [hz64];omega
 clear hzm3 hmm3 hm2 hms ht
 go_wp2_with (at_make;refine wpList_make_full _ rfl _ _ 36 rfl w6.heap.size 5 i8 (.int .u8 0) 1 Tryz.underlying36 hi8 hz0 hz1 .i64 .i64 64 64 64 rfl rfl rfl rfl hzm hmm (Nat.le_refl _) ?_;intro w7 hown hgrow;rw [made_64] at hown;have hcv:=conv_row hown (List.length_replicate ..);rw [show (⟨(List.replicate 64 (0 : UInt8)).toArray⟩ : ByteArray) = zer 64 from rfl] at hcv)
 have hb7 : Below w6.heap.size w6 w7:=(Below.refl _ w6).grown hgrow (Nat.le_refl _) (fun k e => by cases e)
 have hDW : DW W4 p g p' g' c' m (DN.new m) 0 w7:=by
  have hx : ∀ j,KF none p g j → j < w5.heap.size:=fun j hj => h5.at_.lt hj;have s5:=h5.bel.size;refine (⟨h5.at_.disk.below b6,⟨0,h6⟩,ext_trans h5.bel b6,⟨h5.new_ p (.inl rfl),h5.new_ g (.inr (.inl rfl))⟩,⟨by omega,by omega⟩,⟨⟨?_,?_⟩,⟨?_,?_⟩⟩,Nat.le_refl _,by show (List.replicate m _).length = m;exact List.length_replicate ..⟩ : DW W4 p g p' g' c' m (DN.new m) 0 w6).below hb7
  ·intro e;have:=hx p (.inl rfl);omega
  ·intro e;have:=hx p (.inl rfl);omega
  ·intro e;have:=hx g (.inr (.inl rfl));omega
  ·intro e;have:=hx g (.inr (.inl rfl));omega
 have hsx : (s2 ++ zer 64).size = s2.size + 64:=by rw [ByteArray.size_append];rfl
 clear h5 h6 b6 hp' hg' hown hgrow hb7 hcv hcat hzm hmm hz64
 generalize s2 ++ zer 64 = sx at *
 generalize DN.new m = D0 at *
 go_loopw [14] (fun i wr => ∃ (j : Nat) (D : DN),j ≤ 33 ∧ i = .int .i64 (j : Int) ∧ DW W4 p g p' g' c' m D j wr) (fun i _ => 40 - (intOf i).toNat)
 case atStart => exact ⟨0,_,by omega,rfl,hDW⟩
 case round =>
  obtain ⟨j,D,hj,rfl,hD⟩:=hrel;clear hDW;by_cases hlt : 64 * j + 64 ≤ sx.size
  ·have l1 : (64 : Int) * (j : Int) + 64 ≤ (sx.size : Int):=by omega
   have l2 : (0 : Int) ≤ 64 * (j : Int):=by omega
   have l3 : (64 : Int) * (j : Int) ≤ 64 * (j : Int) + 64:=by omega
   have hDn:=hD.n;have cW:=fun tx => Write_any ((j : Int) + 1) tx hD.one (HI.out.below (ext_trans HX4.out.2 hD.bel)).d.s (by omega);have HD:=Lib.hid hD;have HCW:=Lib.hid cW;clear hD cW;go_wp2_with fail
   with_reducible refine (HCW.out _).mono ?_
   rintro e w8 ⟨rfl,hd8,hb8⟩;obtain ⟨k,hk⟩:=HD.out.two;have cR:=fun tx => RWrite_any ((j : Int) + 1) tx (HD.out.mid hk hb8) (by omega);have HCR:=Lib.hid cR;have HD8:=Lib.hid (And.intro hd8 hb8);clear cR hd8 hb8 hk HCW;go_wp2_with fail
   with_reducible refine (HCR.out _).mono ?_
   rintro e w9 ⟨rfl,⟨k2,hr9⟩,hb9⟩;have hD9:=HD.out.go _ _ HD8.out.1 HD8.out.2 hr9 hb9;clear hr9 hb9 HCR HD8 HD;go_wp2_with fail
   go_roundw
   case rel => exact ⟨j + 1,_,by omega,by go_num,hD9⟩
   case measure => simp [intOf];omega
  ·have l1 : ¬ (64 : Int) * (j : Int) + 64 ≤ (sx.size : Int):=by omega
   have HD:=Lib.hid hD;clear hD;go_wp2_with fail
   obtain ⟨x8,hx8⟩:=u8_wrap fb;obtain ⟨z,hz⟩ : ∃ z : ByteArray,(⟨#[x8]⟩ : ByteArray) ++ ⟨zer63.toArray⟩ = z:=⟨_,rfl⟩
   refine region_post (fun a v1 v2 => (((((((a.put (some 89) (.int .i64 fb)).put (some 90) (.int .u8 (x8.toNat : Int))).put (some 91) v1).put (some 92) (.string ⟨#[x8]⟩)).put (some 93) v2).put (some 94) (.string ⟨zer63.toArray⟩)).put (some 95) (.string z)).put (some 15) (.string z)) (fun W => DW W4 p g p' g' c' m D j W) ?_ ?_;rotate_left
   ·intro v91 v93 W10 hD10
    simp only [Act.put,List.setIfInBounds_toArray,List.set_cons_succ,List.set_cons_zero];clear HD hx8 hz;go_wp2_with fail
    have cW:=Write_any 0 z hD10.one (HI.out.below (ext_trans HX4.out.2 hD10.bel)).d.s (by have:=hD10.n;omega);have HD10:=Lib.hid hD10;clear hD10;with_reducible refine cW.mono ?_
    rintro e w11 ⟨rfl,hd11,hb11⟩;obtain ⟨k11,hk11⟩:=HD10.out.two;have cR:=RWrite_any 0 z (HD10.out.mid hk11 hb11) (by have:=HD10.out.n;omega);have HD11:=Lib.hid (And.intro hd11 hb11);clear cW hd11 hb11 hk11;go_wp2_with fail
    with_reducible refine cR.mono ?_
    rintro e w12 ⟨rfl,⟨k12,hr12⟩,hb12⟩;have hD12:=HD10.out.go _ _ HD11.out.1 HD11.out.2 hr12 hb12;obtain ⟨D2,hD2⟩ : ∃ D2,(D.write 0 z.data.toList).1 = D2:=⟨_,rfl⟩
    rw [hD2] at hD12;have hn2 : D2.n ≤ 40:=by have:=hD12.n;omega
    obtain ⟨kb,hkb⟩ : ∃ kb,w12.heap.size = kb:=⟨_,rfl⟩
    have HDU:=Lib.hid (hD12.duo m1 hkb);have e0:=HDU.out.desk.c2.1;have e1:=HDU.out.mod.c2.1;clear cR hr12 hb12 HD10 HD11 hD12 hD2;go_wp2_with fail
    clear e0 e1;generalize (w12.alloc (.cells #[.pointer (some ⟨p,0,none⟩),.pointer none] 41)).alloc (.cells #[.pointer (some ⟨p',0,none⟩),.pointer none] 45) = W13 at *;clear hkb;have cD:=do_any (QO.mk 5 0 0 EI.nil) HDU.out.one.at_ HDU.out.desk HDU.out.n1.1 (HDU.out.one.glb (HI.out.below HX4.out.2)) ⟨(by decide : EI.nil.key.size ≤ 1000000),(by decide : EI.nil.data.size ≤ 1000000),(by decide : (0 : Int) ≤ 9223372036854775807)⟩ (by first | omega | (show D2.n ≤ _;omega));have hcW:=fun (W : World) (o2 : Option (QC × QV)) (k2 : Nat) (K1 : KN) (hD2 : Duo W4 p g p' g' c' kb (kb + 1) K1 (KN.mk D2 none) o2 none W) (hx2 : XPair W p' g' c' k2 none (KN.mk D2 none)) => mwant_any (QO.mk 5 0 0 EI.nil) hx2 hD2.mod hD2.n2.2 ⟨(by decide : EI.nil.key.size ≤ 1000000),(by decide : EI.nil.data.size ≤ 1000000),(by decide : (0 : Int) ≤ 9223372036854775807)⟩ (by first | omega | (show D2.n ≤ _;omega));have hal:=act_lost (K:=(KN.mk D2 none)) HDU.out.one.at_.disk.fit (QO.mk 5 0 0 EI.nil);have hst2:=act_n (K:=(KN.mk D2 none)) HDU.out.one.at_.disk.fit (pair_some HDU.out.one.at_) HDU.out.one.at_.disk.len (QO.mk 5 0 0 EI.nil);obtain ⟨⟨K2,⟨an,al,ae⟩⟩,hr⟩ : ∃ r,KN.act (KN.mk D2 none) (QO.mk 5 0 0 EI.nil) = r:=⟨_,rfl⟩
    rw [hr] at cD hcW hal hst2;rw [show (QO.mk 5 0 0 EI.nil).val = .agg #[.int .i64 5,.int .i64 0,.int .i64 0,.int .i64 0,.int .i64 0,.string ⟨#[]⟩,.string ⟨#[]⟩,.int .i64 0,.bool false,.bool false] from rfl] at cD;rw [show (QO.mk 5 0 0 EI.nil).val = .agg #[.int .i64 5,.int .i64 0,.int .i64 0,.int .i64 0,.int .i64 0,.string ⟨#[]⟩,.string ⟨#[]⟩,.int .i64 0,.bool false,.bool false] from rfl] at hcW;dsimp only at hal hst2;have HCW:=Lib.hid hcW;have HN2:=Lib.hid (show K2.d.n ≤ 40000 from by first | omega | (have : (KN.mk D2 none).d.n = D2.n:=rfl;omega));clear hcW hst2 hr;with_reducible refine cD.mono ?_
    intro e w4 hDo;obtain ⟨o2,A5,c5,rfl,hrow5,hD5,hs5,-⟩:=HDU.out.do_ hDo;have hmw:=HDU.out.mod.lt;have hxw : ∀ i,XKF none p' g' i → i < W13.heap.size:=fun i hi => by
     obtain ⟨k9,h9⟩:=HDU.out.two;exact h9.lt hi
    dsimp only at hrow5 hD5 ⊢;have hE5:=ext_new w4 (.cells #[.int .i64 an,.slice A5 al.length c5,.int .i64 ae] 48);have hS5:=Blk.new_ w4 48 #[.int .i64 an,.slice A5 al.length c5,.int .i64 ae];have hD5':=hD5.below hE5;have hrow5':=own_below hrow5 hE5;obtain ⟨sb,hsb⟩ : ∃ sb,w4.heap.size = sb:=⟨_,rfl⟩
    obtain ⟨W5,hW5⟩ : ∃ W5,w4.alloc (.cells #[.int .i64 an,.slice A5 al.length c5,.int .i64 ae] 48) = W5:=⟨_,rfl⟩
    rw [hsb] at hS5;rw [hW5] at hS5 hD5' hrow5';have hsl : W13.heap.size ≤ sb:=by rw [← hsb];exact hs5
    have HW5:=Lib.hid (And.intro hW5 hsb);obtain ⟨k5,hx5⟩:=hD5'.two;have cW:=HCW.out W5 o2 k5 K2 hD5' hx5;clear cD hDo hrow5 hD5 hE5 hW5 hsb hs5 hx5;have HD5:=Lib.hid hD5';have HR5:=Lib.hid hrow5';have HS5:=Lib.hid hS5;clear hD5' hrow5' hS5;go_wp2_with fail
    rw [HW5.out.1,HW5.out.2];with_reducible refine cW.mono ?_
    intro e w6 hWa;obtain ⟨o6,A6,c6,rfl,hrow6,hD6,hs6,-⟩:=HD5.out.want_ hWa;dsimp only at hrow6 hD6 ⊢;have hS6:=HS5.out.kept (hWa.foot.block sb HS5.out.lt (fun q => q.elim (fun q => by omega) (fun q => by have:=hxw _ q;omega)));have hrow5':=own_keep HR5.out (fun i hi => hWa.foot.block i (own_lt HR5.out hi) (fun q => by
     have:=own_base_le HR5.out hi;exact q.elim (fun q => by omega) (fun q => by have:=hxw _ q;omega)))
    have hE7:=ext_new w6 (.cells #[.int .i64 an,.slice A6 al.length c6,.int .i64 ae] 48);have hT7:=Blk.new_ w6 48 #[.int .i64 an,.slice A6 al.length c6,.int .i64 ae];have hS7:=hS6.below hE7;have hD7:=hD6.below hE7;have hrow5:=own_below hrow5' hE7;have hrow6':=own_below hrow6 hE7;obtain ⟨tb,htb⟩ : ∃ tb,w6.heap.size = tb:=⟨_,rfl⟩
    obtain ⟨W7,hW7⟩ : ∃ W7,w6.alloc (.cells #[.int .i64 an,.slice A6 al.length c6,.int .i64 ae] 48) = W7:=⟨_,rfl⟩
    rw [htb] at hT7;rw [hW7] at hT7 hS7 hD7 hrow5 hrow6';obtain ⟨-,Ax,cx,ex,hR5⟩:=rowE_own hrow5;injection ex with ex _ ex2
    subst ex;subst ex2;obtain ⟨-,Ay,cy,ey,hR6⟩:=rowE_own hrow6';injection ey with ey _ ey2
    subst ey;subst ey2;have HW7:=Lib.hid (And.intro hW7 htb);clear cW hWa hrow6 hD6 hs6 hS6 hrow5' hE7 hrow5 hrow6' hW7 htb HR5 HS5 HD5 HW5 hxw hmw hsl HCW;obtain ⟨k7,hx7⟩:=hD7.two;have hsm:=hD7.one.at_.small;have HC:=Lib.hid (fun (W : World) (hb : Below W7.heap.size W7 W) => (show (W.cell? ⟨sb,0,none⟩ = some (.int .i64 an) ∧ W.cell? ⟨sb,1,none⟩ = some (.slice A5 al.length c5) ∧ W.cell? ⟨sb,2,none⟩ = some (.int .i64 ae)) ∧ (W.cell? ⟨tb,0,none⟩ = some (.int .i64 an) ∧ W.cell? ⟨tb,1,none⟩ = some (.slice A6 al.length c6) ∧ W.cell? ⟨tb,2,none⟩ = some (.int .i64 ae)) ∧ W.cell? ⟨kb,1,none⟩ = some (qPtr o2) ∧ W.cell? ⟨kb + 1,1,none⟩ = some (xPtr o6) ∧ W.cell? ⟨p',4,none⟩ = some (.int .i64 (K2.d.n : Int)) from
     ⟨⟨(hS7.below hb).c3.1,(hS7.below hb).c3.2.1,(hS7.below hb).c3.2.2.1⟩,⟨(hT7.below hb).c3.1,(hT7.below hb).c3.2.1,(hT7.below hb).c3.2.2.1⟩,(hD7.desk.below hb).c2.2.1,(hD7.mod.below hb).c2.2.1,(hx7.below hb).disk.disk.c5.2.2.2.2.1⟩))
    have HSM:=Lib.hid (fun (W : World) (hb : Below W7.heap.size W7 W) => (show Calls _ _ _ _ (Ret (.bool true) W) from by
     have:=same_any (c1:=c5) (c2:=c6) (hR5.below hb) (hR6.below hb) (by omega) (by omega)
     rwa [decide_eq_true rfl] at this))
    have HEN:=Lib.hid (fun (W : World) (hb : Below W7.heap.size W7 W) => pents_any (hD7.one.at_.below hb));have HXN:=Lib.hid (fun (W : World) (hb : Below W7.heap.size W7 W) => xents_any (hx7.below hb));have HKN:=Lib.hid (fun (W : World) (hb : Below W7.heap.size W7 W) => pkeys_any (hD7.one.at_.below hb));have HXK:=Lib.hid (fun (W : World) (hb : Below W7.heap.size W7 W) => xtxts_any (hx7.below hb));have HWR:=Lib.hid (fun (W : World) (hb : Below W7.heap.size W7 W) => Writes_any (hD7.one.at_.below hb).disk);have HEND:=Lib.hid (fun (W : World) (hb : Below W7.heap.size W7 W) => hD7.below hb);have HSZ:=Lib.hid hsm;obtain ⟨en,hen⟩ : ∃ l,K2.ents = l:=⟨_,rfl⟩
    obtain ⟨tx,htx⟩ : ∃ l,K2.txts = l:=⟨_,rfl⟩
    obtain ⟨dn,hdn⟩ : ∃ l,K2.d.n = l:=⟨_,rfl⟩
    rw [hen,htx] at HSZ;rw [hen] at HEN HXN;rw [htx] at HKN HXK;rw [hdn] at HC HWR;clear hS7 hT7 hD7 hx7 hR5 hR6 hsm hen htx hdn hal;go_wp2_with fail
    rw [HW7.out.1,HW7.out.2];clear HW7;refine wp_region_held_drew (S:=Below W7.heap.size W7) (by kernel_rfl) (Below.refl _ _).drew (fun hHeld => ?_);generalize W7.drew = W0 at *;refine tk_ 0 114 rfl rfl ?_;refine tk_ 1 115 rfl rfl ?_ (fun wx hSx => by obtain ⟨⟨a0,a1,a2⟩,⟨b0,b1,b2⟩,kk1,mm1,d4⟩:=HC.out _ hSx;go_simp;try with_reducible rfl);refine tk_ 2 116 rfl rfl ?_;refine tk_ 3 117 rfl rfl ?_ (fun wx hSx => by obtain ⟨⟨a0,a1,a2⟩,⟨b0,b1,b2⟩,kk1,mm1,d4⟩:=HC.out _ hSx;go_simp;try with_reducible rfl);refine tk_ 4 118 rfl rfl ?_;refine tk_ 5 119 rfl rfl ?_;refine tk_ 6 120 rfl rfl ?_;refine tk_ 7 121 rfl rfl ?_ (fun wx hSx => by obtain ⟨⟨a0,a1,a2⟩,⟨b0,b1,b2⟩,kk1,mm1,d4⟩:=HC.out _ hSx;go_simp;try with_reducible rfl);refine tk_ 8 122 rfl rfl ?_;refine tk_ 9 123 rfl rfl ?_ (fun wx hSx => by obtain ⟨⟨a0,a1,a2⟩,⟨b0,b1,b2⟩,kk1,mm1,d4⟩:=HC.out _ hSx;go_simp;try with_reducible rfl);refine rdy1 10 rfl ?_;intro KK hKK;go_simp;with_reducible refine (HSM.out _ hHeld).mono ?_
    rintro e v10 ⟨rfl,hb10⟩;try go_wp2_with fail
    have hH2:=ext_trans hHeld hb10;refine hKK.out _ _ hH2 (fun hHeld => ?_);clear hKK KK hH2;refine tk_ 11 125 rfl rfl ?_;refine tk_ 12 126 rfl rfl ?_;refine tk_ 13 127 rfl rfl ?_;refine tk_ 14 128 rfl rfl ?_;refine tk_ 15 129 rfl rfl ?_;refine tk_ 16 130 rfl rfl ?_;refine tk_ 17 131 rfl rfl ?_ (fun wx hSx => by obtain ⟨⟨a0,a1,a2⟩,⟨b0,b1,b2⟩,kk1,mm1,d4⟩:=HC.out _ hSx;go_simp;try with_reducible rfl);refine tk_ 19 133 rfl rfl ?_;refine tk_ 20 134 rfl rfl ?_;refine tk_ 21 135 rfl rfl ?_;refine tk_ 22 136 rfl rfl ?_ (fun wx hSx => by obtain ⟨⟨a0,a1,a2⟩,⟨b0,b1,b2⟩,kk1,mm1,d4⟩:=HC.out _ hSx;go_simp;try with_reducible rfl);refine rdy1 18 rfl ?_;intro KK hKK;go_simp;with_reducible refine (HEN.out _ hHeld).mono ?_
    rintro e v18 ⟨A18,c18,rfl,R18,hb18⟩;try go_wp2_with fail
    have hH2:=ext_trans hHeld hb18;refine hKK.out _ _ hH2 (fun hHeld => ?_);clear hKK KK hH2;refine rdy1 23 rfl ?_;intro KK hKK;go_simp;with_reducible refine (HXN.out _ hHeld).mono ?_
    rintro e v23 ⟨A23,c23,rfl,R23,hb23⟩;try go_wp2_with fail
    have hH2:=ext_trans hHeld hb23;refine hKK.out _ _ hH2 (fun hHeld => ?_);clear hKK KK hH2;refine rdy1 24 rfl ?_;intro KK hKK;go_simp;with_reducible refine (same_any (c1:=c18) (c2:=c23) (R18.below hb23) R23 HSZ.out.1 HSZ.out.1).mono ?_
    rintro e v24 ⟨rfl,hb24⟩;try go_wp2_with fail
    have hH2:=ext_trans hHeld hb24;refine hKK.out _ _ hH2 (fun hHeld => ?_);clear hKK KK hH2;refine tk_ 25 139 rfl rfl ?_;refine tk_ 26 140 rfl rfl ?_;refine tk_ 27 141 rfl rfl ?_;refine tk_ 28 142 rfl rfl ?_;refine tk_ 29 143 rfl rfl ?_;refine tk_ 30 144 rfl rfl ?_;refine tk_ 31 145 rfl rfl ?_ (fun wx hSx => by obtain ⟨⟨a0,a1,a2⟩,⟨b0,b1,b2⟩,kk1,mm1,d4⟩:=HC.out _ hSx;go_simp;try with_reducible rfl);refine tk_ 33 147 rfl rfl ?_;refine tk_ 34 148 rfl rfl ?_;refine tk_ 35 149 rfl rfl ?_;refine tk_ 36 150 rfl rfl ?_ (fun wx hSx => by obtain ⟨⟨a0,a1,a2⟩,⟨b0,b1,b2⟩,kk1,mm1,d4⟩:=HC.out _ hSx;go_simp;try with_reducible rfl);refine rdy1 32 rfl ?_;intro KK hKK;go_simp;with_reducible refine (HKN.out _ hHeld).mono ?_
    rintro e v32 ⟨A32,c32,rfl,R32,hb32⟩;try go_wp2_with fail
    have hH2:=ext_trans hHeld hb32;refine hKK.out _ _ hH2 (fun hHeld => ?_);clear hKK KK hH2;refine rdy1 37 rfl ?_;intro KK hKK;go_simp;with_reducible refine (HXK.out _ hHeld).mono ?_
    rintro e v37 ⟨A37,c37,rfl,R37,hb37⟩;try go_wp2_with fail
    have hH2:=ext_trans hHeld hb37;refine hKK.out _ _ hH2 (fun hHeld => ?_);clear hKK KK hH2;refine rdy1 38 rfl ?_;intro KK hKK;go_simp;with_reducible refine (texts_any (c1:=c32) (c2:=c37) (R32.below hb37) R37 HSZ.out.2 HSZ.out.2).mono ?_
    rintro e v38 ⟨rfl,hb38⟩;try go_wp2_with fail
    have hH2:=ext_trans hHeld hb38;refine hKK.out _ _ hH2 (fun hHeld => ?_);clear hKK KK hH2;refine tk_ 39 153 rfl rfl ?_;refine tk_ 40 154 rfl rfl ?_;refine wpAnyH_done (by kernel_rfl) ?_ _;try simp only [Act.put,List.setIfInBounds_toArray,List.set_cons_succ,List.set_cons_zero]
    have HDV:=Lib.hid (HEND.out _ hHeld);clear HC HSM HEN HXN HKN HXK HWR HEND hHeld HDU HSZ R18 R23 R32 R37 hb10 hb18 hb23 hb24 hb32 hb37 hb38;generalize o6 = o' at *;obtain ⟨W22,hW22⟩ : ∃ W22,v38 = W22:=⟨_,rfl⟩
    rw [hW22] at HDV ⊢;clear hW22;have cD:=do_any (QO.mk yk ya yn ⟨f0,f1,f2,f3,f4,f5,f6⟩) HDV.out.one.at_ HDV.out.desk HDV.out.n1.1 (HDV.out.one.glb (HI.out.below HX4.out.2)) HY.out (by have:=HN2.out;omega);have hcW:=fun (W : World) (o2 : Option (QC × QV)) (k2 : Nat) (K1 : KN) (hD2 : Duo W4 p g p' g' c' kb (kb + 1) K1 K2 o2 o' W) (hx2 : XPair W p' g' c' k2 o' K2) => mwant_any (QO.mk yk ya yn ⟨f0,f1,f2,f3,f4,f5,f6⟩) hx2 hD2.mod hD2.n2.2 HY.out (by have:=HN2.out;omega);have hal:=act_lost (K:=K2) HDV.out.one.at_.disk.fit (QO.mk yk ya yn ⟨f0,f1,f2,f3,f4,f5,f6⟩);have hst2:=act_n (K:=K2) HDV.out.one.at_.disk.fit (pair_some HDV.out.one.at_) HDV.out.one.at_.disk.len (QO.mk yk ya yn ⟨f0,f1,f2,f3,f4,f5,f6⟩);obtain ⟨⟨K3,⟨an,al,ae⟩⟩,hr⟩ : ∃ r,KN.act K2 (QO.mk yk ya yn ⟨f0,f1,f2,f3,f4,f5,f6⟩) = r:=⟨_,rfl⟩
    rw [hr] at cD hcW hal hst2;rw [show (QO.mk yk ya yn ⟨f0,f1,f2,f3,f4,f5,f6⟩).val = .agg #[.int .i64 yk,.int .i64 ya,.int .i64 yn,.int .i64 f0,.int .i64 f1,.string f2,.string f3,.int .i64 f4,.bool f5,.bool f6] from rfl] at cD;rw [show (QO.mk yk ya yn ⟨f0,f1,f2,f3,f4,f5,f6⟩).val = .agg #[.int .i64 yk,.int .i64 ya,.int .i64 yn,.int .i64 f0,.int .i64 f1,.string f2,.string f3,.int .i64 f4,.bool f5,.bool f6] from rfl] at hcW;dsimp only at hal hst2;have HCW:=Lib.hid hcW;have HN2:=Lib.hid (show K3.d.n ≤ 80000 from by have:=HN2.out;omega);clear hcW hst2 hr;have hXb:=HX4.out.1.below HDV.out.one.bel;obtain ⟨x0,x1,x2,x3,x4,x5,x6,x7,x8,x9⟩:=op_cells hXb;clear hXb;go_wp2_with fail
    with_reducible refine cD.mono ?_
    intro e w4 hDo;obtain ⟨o2,A5,c5,rfl,hrow5,hD5,hs5,-⟩:=HDV.out.do_ hDo;have hmw:=HDV.out.mod.lt;have hxw : ∀ i,XKF o' p' g' i → i < W22.heap.size:=fun i hi => by
     obtain ⟨k9,h9⟩:=HDV.out.two;exact h9.lt hi
    dsimp only at hrow5 hD5 ⊢;clear x0 x1 x2 x3 x4 x5 x6 x7 x8 x9;have hE5:=ext_new w4 (.cells #[.int .i64 an,.slice A5 al.length c5,.int .i64 ae] 48);have hS5:=Blk.new_ w4 48 #[.int .i64 an,.slice A5 al.length c5,.int .i64 ae];have hD5':=hD5.below hE5;have hrow5':=own_below hrow5 hE5;have hXb:=HX4.out.1.below hD5'.one.bel;obtain ⟨x0,x1,x2,x3,x4,x5,x6,x7,x8,x9⟩:=op_cells hXb;clear hXb;obtain ⟨sb,hsb⟩ : ∃ sb,w4.heap.size = sb:=⟨_,rfl⟩
    obtain ⟨W5,hW5⟩ : ∃ W5,w4.alloc (.cells #[.int .i64 an,.slice A5 al.length c5,.int .i64 ae] 48) = W5:=⟨_,rfl⟩
    rw [hsb] at hS5;rw [hW5] at hS5 hD5' hrow5';have hsl : W22.heap.size ≤ sb:=by rw [← hsb];exact hs5
    have HW5:=Lib.hid (And.intro hW5 hsb);obtain ⟨k5,hx5⟩:=hD5'.two;have cW:=HCW.out W5 o2 k5 K3 hD5' hx5;clear cD hDo hrow5 hD5 hE5 hW5 hsb hs5 hx5;have HD5:=Lib.hid hD5';have HR5:=Lib.hid hrow5';have HS5:=Lib.hid hS5;clear hD5' hrow5' hS5;go_wp2_with fail
    rw [HW5.out.1,HW5.out.2];with_reducible refine cW.mono ?_
    intro e w6 hWa;obtain ⟨o6,A6,c6,rfl,hrow6,hD6,hs6,-⟩:=HD5.out.want_ hWa;dsimp only at hrow6 hD6 ⊢;have hS6:=HS5.out.kept (hWa.foot.block sb HS5.out.lt (fun q => q.elim (fun q => by omega) (fun q => by have:=hxw _ q;omega)));have hrow5':=own_keep HR5.out (fun i hi => hWa.foot.block i (own_lt HR5.out hi) (fun q => by
     have:=own_base_le HR5.out hi;exact q.elim (fun q => by omega) (fun q => by have:=hxw _ q;omega)))
    have hE7:=ext_new w6 (.cells #[.int .i64 an,.slice A6 al.length c6,.int .i64 ae] 48);have hT7:=Blk.new_ w6 48 #[.int .i64 an,.slice A6 al.length c6,.int .i64 ae];have hS7:=hS6.below hE7;have hD7:=hD6.below hE7;have hrow5:=own_below hrow5' hE7;have hrow6':=own_below hrow6 hE7;obtain ⟨tb,htb⟩ : ∃ tb,w6.heap.size = tb:=⟨_,rfl⟩
    obtain ⟨W7,hW7⟩ : ∃ W7,w6.alloc (.cells #[.int .i64 an,.slice A6 al.length c6,.int .i64 ae] 48) = W7:=⟨_,rfl⟩
    rw [htb] at hT7;rw [hW7] at hT7 hS7 hD7 hrow5 hrow6';obtain ⟨-,Ax,cx,ex,hR5⟩:=rowE_own hrow5;injection ex with ex _ ex2
    subst ex;subst ex2;obtain ⟨-,Ay,cy,ey,hR6⟩:=rowE_own hrow6';injection ey with ey _ ey2
    subst ey;subst ey2;have HW7:=Lib.hid (And.intro hW7 htb);clear cW hWa hrow6 hD6 hs6 hS6 hrow5' hE7 hrow5 hrow6' hW7 htb HR5 HS5 HD5 HW5 hxw hmw hsl HCW;clear x0 x1 x2 x3 x4 x5 x6 x7 x8 x9;obtain ⟨k7,hx7⟩:=hD7.two;have hsm:=hD7.one.at_.small;have HC:=Lib.hid (fun (W : World) (hb : Below W7.heap.size W7 W) => (show (W.cell? ⟨sb,0,none⟩ = some (.int .i64 an) ∧ W.cell? ⟨sb,1,none⟩ = some (.slice A5 al.length c5) ∧ W.cell? ⟨sb,2,none⟩ = some (.int .i64 ae)) ∧ (W.cell? ⟨tb,0,none⟩ = some (.int .i64 an) ∧ W.cell? ⟨tb,1,none⟩ = some (.slice A6 al.length c6) ∧ W.cell? ⟨tb,2,none⟩ = some (.int .i64 ae)) ∧ W.cell? ⟨kb,1,none⟩ = some (qPtr o2) ∧ W.cell? ⟨kb + 1,1,none⟩ = some (xPtr o6) ∧ W.cell? ⟨p',4,none⟩ = some (.int .i64 (K3.d.n : Int)) from
     ⟨⟨(hS7.below hb).c3.1,(hS7.below hb).c3.2.1,(hS7.below hb).c3.2.2.1⟩,⟨(hT7.below hb).c3.1,(hT7.below hb).c3.2.1,(hT7.below hb).c3.2.2.1⟩,(hD7.desk.below hb).c2.2.1,(hD7.mod.below hb).c2.2.1,(hx7.below hb).disk.disk.c5.2.2.2.2.1⟩))
    have HSM:=Lib.hid (fun (W : World) (hb : Below W7.heap.size W7 W) => (show Calls _ _ _ _ (Ret (.bool true) W) from by
     have:=same_any (c1:=c5) (c2:=c6) (hR5.below hb) (hR6.below hb) (by omega) (by omega)
     rwa [decide_eq_true rfl] at this))
    have HEN:=Lib.hid (fun (W : World) (hb : Below W7.heap.size W7 W) => pents_any (hD7.one.at_.below hb));have HXN:=Lib.hid (fun (W : World) (hb : Below W7.heap.size W7 W) => xents_any (hx7.below hb));have HKN:=Lib.hid (fun (W : World) (hb : Below W7.heap.size W7 W) => pkeys_any (hD7.one.at_.below hb));have HXK:=Lib.hid (fun (W : World) (hb : Below W7.heap.size W7 W) => xtxts_any (hx7.below hb));have HWR:=Lib.hid (fun (W : World) (hb : Below W7.heap.size W7 W) => Writes_any (hD7.one.at_.below hb).disk);have HEND:=Lib.hid (fun (W : World) (hb : Below W7.heap.size W7 W) => hD7.below hb);have HSZ:=Lib.hid hsm;obtain ⟨en,hen⟩ : ∃ l,K3.ents = l:=⟨_,rfl⟩
    obtain ⟨tx,htx⟩ : ∃ l,K3.txts = l:=⟨_,rfl⟩
    obtain ⟨dn,hdn⟩ : ∃ l,K3.d.n = l:=⟨_,rfl⟩
    rw [hen,htx] at HSZ;rw [hen] at HEN HXN;rw [htx] at HKN HXK;rw [hdn] at HC HWR;clear hS7 hT7 hD7 hx7 hR5 hR6 hsm hen htx hdn hal;go_wp2_with fail
    rw [HW7.out.1,HW7.out.2];clear HW7;refine wp_region_held_drew (S:=Below W7.heap.size W7) (by kernel_rfl) (Below.refl _ _).drew (fun hHeld => ?_);generalize W7.drew = W0 at *;refine tk_ 0 161 rfl rfl ?_;refine tk_ 1 162 rfl rfl ?_;refine tk_ 2 163 rfl rfl ?_;refine tk_ 3 164 rfl rfl ?_ (fun wx hSx => by obtain ⟨⟨a0,a1,a2⟩,⟨b0,b1,b2⟩,kk1,mm1,d4⟩:=HC.out _ hSx;go_simp;try with_reducible rfl);refine tk_ 4 165 rfl rfl ?_;refine tk_ 5 166 rfl rfl ?_ (fun wx hSx => by obtain ⟨⟨a0,a1,a2⟩,⟨b0,b1,b2⟩,kk1,mm1,d4⟩:=HC.out _ hSx;go_simp;try with_reducible rfl);refine tk_ 6 167 rfl rfl ?_;refine tk_ 7 168 rfl rfl ?_;refine tk_ 8 169 rfl rfl ?_;refine tk_ 9 170 rfl rfl ?_;refine tk_ 10 171 rfl rfl ?_ (fun wx hSx => by obtain ⟨⟨a0,a1,a2⟩,⟨b0,b1,b2⟩,kk1,mm1,d4⟩:=HC.out _ hSx;go_simp;try with_reducible rfl);refine tk_ 11 172 rfl rfl ?_;refine tk_ 12 173 rfl rfl ?_ (fun wx hSx => by obtain ⟨⟨a0,a1,a2⟩,⟨b0,b1,b2⟩,kk1,mm1,d4⟩:=HC.out _ hSx;go_simp;try with_reducible rfl);refine tk_ 13 174 rfl rfl ?_;refine tk_ 14 175 rfl rfl ?_;refine tk_ 15 176 rfl rfl ?_;refine tk_ 16 177 rfl rfl ?_;refine tk_ 17 178 rfl rfl ?_;refine tk_ 18 179 rfl rfl ?_;refine tk_ 19 180 rfl rfl ?_ (fun wx hSx => by obtain ⟨⟨a0,a1,a2⟩,⟨b0,b1,b2⟩,kk1,mm1,d4⟩:=HC.out _ hSx;go_simp;try with_reducible rfl);refine tk_ 21 182 rfl rfl ?_;refine tk_ 22 183 rfl rfl ?_;refine tk_ 23 184 rfl rfl ?_;refine tk_ 24 185 rfl rfl ?_ (fun wx hSx => by obtain ⟨⟨a0,a1,a2⟩,⟨b0,b1,b2⟩,kk1,mm1,d4⟩:=HC.out _ hSx;go_simp;try with_reducible rfl);refine rdy1 20 rfl ?_;intro KK hKK;go_simp;with_reducible refine (HEN.out _ hHeld).mono ?_
    rintro e v20 ⟨A20,c20,rfl,R20,hb20⟩;try go_wp2_with fail
    have hH2:=ext_trans hHeld hb20;refine hKK.out _ _ hH2 (fun hHeld => ?_);clear hKK KK hH2;refine rdy1 25 rfl ?_;intro KK hKK;go_simp;with_reducible refine (HXN.out _ hHeld).mono ?_
    rintro e v25 ⟨A25,c25,rfl,R25,hb25⟩;try go_wp2_with fail
    have hH2:=ext_trans hHeld hb25;refine hKK.out _ _ hH2 (fun hHeld => ?_);clear hKK KK hH2;refine rdy1 26 rfl ?_;intro KK hKK;go_simp;with_reducible refine (same_any (c1:=c20) (c2:=c25) (R20.below hb25) R25 HSZ.out.1 HSZ.out.1).mono ?_
    rintro e v26 ⟨rfl,hb26⟩;try go_wp2_with fail
    have hH2:=ext_trans hHeld hb26;refine hKK.out _ _ hH2 (fun hHeld => ?_);clear hKK KK hH2;refine tk_ 27 188 rfl rfl ?_;refine tk_ 28 189 rfl rfl ?_;refine tk_ 29 190 rfl rfl ?_;refine tk_ 31 192 rfl rfl ?_;refine tk_ 32 193 rfl rfl ?_;refine tk_ 33 194 rfl rfl ?_;refine tk_ 34 195 rfl rfl ?_ (fun wx hSx => by obtain ⟨⟨a0,a1,a2⟩,⟨b0,b1,b2⟩,kk1,mm1,d4⟩:=HC.out _ hSx;go_simp;try with_reducible rfl);refine rdy1 30 rfl ?_;intro KK hKK;go_simp;with_reducible refine (HWR.out _ hHeld).mono ?_
    rintro e v30 ⟨rfl,rfl⟩;try go_wp2_with fail
    have hH2:=hHeld;refine hKK.out _ _ hH2 (fun hHeld => ?_);clear hKK KK hH2;refine tk_ 35 196 rfl rfl ?_;refine tk_ 36 197 rfl rfl ?_;refine tk_ 37 8 rfl rfl ?_;refine wpAnyH_done (by kernel_rfl) ?_ _;try simp only [Act.put,List.setIfInBounds_toArray,List.set_cons_succ,List.set_cons_zero]
    have hfin:=(HEND.out _ hHeld).one.bel;clear HC HSM HEN HXN HKN HXK HWR HEND HDV HSZ;go_wp2_with fail
    go_ret;exact ⟨rfl,ext_trans HX4.out.2 hfin⟩
   have HD:=HD.out.below ((Below.refl _ _).drew);refine wp_region_held_drew (S:=fun _ => True) (by kernel_rfl) trivial (fun _ => ?_);generalize wr.drew = W9 at *;refine tk_ 0 89 rfl rfl ?_;refine tk_ 1 90 rfl rfl ?_;refine rdy2 2 4 rfl rfl (fun K hK => ?q2) (fun K hK => ?q4)
   case' q2 =>
    have hN2:=HD.newb 5 #[.int .u8 (x8.toNat : Int)];try simp only [World.size_alloc] at hN2
    go_simp;replace HD:=HD.below (ext_new _ (.cells #[.int .u8 (x8.toNat : Int)] 5));try replace hN4:=hN4.alloc (.cells #[.int .u8 (x8.toNat : Int)] 5)
    refine hK.out _ _ trivial (fun _ => ?_);clear hK K
   case' q4 =>
    have hmk:=HD.mk63;have hN4:=HD.newb 5 (cellsB zer63).toArray;try simp only [World.size_alloc] at hN4 hmk
    go_simp;replace HD:=HD.below (ext_new _ (.cells (cellsB zer63).toArray 5));try replace hN2:=hN2.alloc (.cells (cellsB zer63).toArray 5)
    refine hK.out _ _ trivial (fun _ => ?_);clear hK K hmk
   case' q2 => refine rdy2 3 4 rfl rfl (fun K hK => ?q23) (fun K hK => ?q24)
   case' q4 => refine rdy2 2 5 rfl rfl (fun K hK => ?q42) (fun K hK => ?q45)
   case' q23 =>
    have hcv:=conv_blk (l:=[x8]) (c:=1) hN2;change (convert _ _ (.slice _ 1 1)).run _ _ = _ at hcv;go_simp;refine hK.out _ _ trivial (fun _ => ?_);clear hK K hcv
   case' q24 =>
    have hmk:=HD.mk63;have hN4:=HD.newb 5 (cellsB zer63).toArray;try simp only [World.size_alloc] at hN4 hmk
    go_simp;replace HD:=HD.below (ext_new _ (.cells (cellsB zer63).toArray 5));try replace hN2:=hN2.alloc (.cells (cellsB zer63).toArray 5)
    refine hK.out _ _ trivial (fun _ => ?_);clear hK K hmk
   case' q42 =>
    have hN2:=HD.newb 5 #[.int .u8 (x8.toNat : Int)];try simp only [World.size_alloc] at hN2
    go_simp;replace HD:=HD.below (ext_new _ (.cells #[.int .u8 (x8.toNat : Int)] 5));try replace hN4:=hN4.alloc (.cells #[.int .u8 (x8.toNat : Int)] 5)
    refine hK.out _ _ trivial (fun _ => ?_);clear hK K
   case' q45 =>
    have hcv:=conv_blk (l:=zer63) (c:=63) hN4;change (convert _ _ (.slice _ 63 63)).run _ _ = _ at hcv;go_simp;refine hK.out _ _ trivial (fun _ => ?_);clear hK K hcv
   case' q23 => refine rdy1 4 rfl (fun K hK => ?_)
   case' q24 => refine rdy2 3 5 rfl rfl (fun K hK => ?q243) (fun K hK => ?q245)
   case' q42 => refine rdy2 3 5 rfl rfl (fun K hK => ?q423) (fun K hK => ?q425)
   case' q45 => refine rdy1 2 rfl (fun K hK => ?_)
   case' q23 =>
    have hmk:=HD.mk63;have hN4:=HD.newb 5 (cellsB zer63).toArray;try simp only [World.size_alloc] at hN4 hmk
    go_simp;replace HD:=HD.below (ext_new _ (.cells (cellsB zer63).toArray 5));try replace hN2:=hN2.alloc (.cells (cellsB zer63).toArray 5)
    refine hK.out _ _ trivial (fun _ => ?_);clear hK K hmk
   case' q243 | q423 =>
    have hcv:=conv_blk (l:=[x8]) (c:=1) hN2;change (convert _ _ (.slice _ 1 1)).run _ _ = _ at hcv;go_simp;refine hK.out _ _ trivial (fun _ => ?_);clear hK K hcv
   case' q245 | q425 =>
    have hcv:=conv_blk (l:=zer63) (c:=63) hN4;change (convert _ _ (.slice _ 63 63)).run _ _ = _ at hcv;go_simp;refine hK.out _ _ trivial (fun _ => ?_);clear hK K hcv
   case' q45 =>
    have hN2:=HD.newb 5 #[.int .u8 (x8.toNat : Int)];try simp only [World.size_alloc] at hN2
    go_simp;replace HD:=HD.below (ext_new _ (.cells #[.int .u8 (x8.toNat : Int)] 5));try replace hN4:=hN4.alloc (.cells #[.int .u8 (x8.toNat : Int)] 5)
    refine hK.out _ _ trivial (fun _ => ?_);clear hK K
   case' q23 => refine rdy1 5 rfl (fun K hK => ?_)
   case' q243 => refine rdy1 5 rfl (fun K hK => ?_)
   case' q423 => refine rdy1 5 rfl (fun K hK => ?_)
   case' q245 => refine rdy1 3 rfl (fun K hK => ?_)
   case' q425 => refine rdy1 3 rfl (fun K hK => ?_)
   case' q45 => refine rdy1 3 rfl (fun K hK => ?_)
   case' q23 | q243 | q423 =>
    have hcv:=conv_blk (l:=zer63) (c:=63) hN4;change (convert _ _ (.slice _ 63 63)).run _ _ = _ at hcv;go_simp;refine hK.out _ _ trivial (fun _ => ?_);clear hK K hcv
   case' q245 | q425 | q45 =>
    have hcv:=conv_blk (l:=[x8]) (c:=1) hN2;change (convert _ _ (.slice _ 1 1)).run _ _ = _ at hcv;go_simp;refine hK.out _ _ trivial (fun _ => ?_);clear hK K hcv
   all_goals
    refine wpAnyH_tk (i:=6) (v:=?_) (some 95) rfl rfl ?_ ?_;rotate_left
    ·intro wx hSx
     go_simp;rw [if_neg (by decide)]
    refine tk_ 7 15 rfl rfl ?_;refine wpAnyH_done (by kernel_rfl) ?_ _;try simp only [Act.put,List.setIfInBounds_toArray,List.set_cons_succ,List.set_cons_zero]
    refine norm_post ?_ ?_ ?_ HD;rotate_left 2
    ·try rw [hz]
     simp only [List.setIfInBounds_toArray,List.set_cons_succ,List.set_cons_zero];try with_reducible rfl
end Go.Proofs.YtmebjdbkngehiaaGreatDoor
