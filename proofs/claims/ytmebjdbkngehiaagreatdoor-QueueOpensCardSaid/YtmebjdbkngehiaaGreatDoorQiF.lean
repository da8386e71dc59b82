/-
  The document's disk and queue in memory, as a pair, and more of the kind. Conditions: as the theorems' own hypotheses say.
-/
import Derived.Test.YtmebjdbkngehiaaGreatDoorQxO
import Derived.Test.YtmebjdbkngehiaaGreatDoorQiE
import Derived.Test.YtmebjdbkngehiaaGreatDoorQhL
import Derived.Test.YtmebjdbkngehiaaGreatDoorQhN
import Derived.Test.YtmebjdbkngehiaaGreatDoorQhE
namespace Go.Proofs.YtmebjdbkngehiaaGreatDoor
open Go.RowKit Go.Shelf
set_option maxHeartbeats 8000000
variable {w w' W w6 w0 W1 : World} {p g c k b mb ob c' p' g' kb : Nat} {o o' : Option (Nat × XV)} {K K1 K2 : KN} {v : XV} {d : DN} {e : Ending} {r : KN × AN} {x : QO} {q : QN}
def xPtr : Option (Nat × XV) → Value
 | none => .pointer none
 | some bv => .pointer (some ⟨bv.1,0,none⟩)
def XKF (o : Option (Nat × XV)) (p g : Nat) (j : Nat) : Prop := (j = p ∨ j = g) ∨ ∃ bv,o = some bv ∧ XF bv.1 bv.2 p g j
theorem xkf_some (b : Nat) (v : XV) (p g j : Nat) : XKF (some (b,v)) p g j ↔ XF b v p g j := by
 constructor
 ·rintro ((h | h) | ⟨bv,h1,h2⟩)
  ·exact .inr (.inl h)
  ·exact .inr (.inr (.inl h))
  ·injection h1 with h1
   subst h1;exact h2
 ·exact fun h => .inr ⟨_,rfl,h⟩
theorem xkf_none (p g j : Nat) : XKF none p g j ↔ (j = p ∨ j = g) := ⟨fun h => h.elim (fun e => e) (fun ⟨_,h,_⟩ => (by cases h)),.inl⟩
structure XPair (w : World) (p g c k : Nat) (o : Option (Nat × XV)) (K : KN) : Prop where
 disk : RAt w p g c k K.d
 none_ : K.q = none → o = none
 some_ : ∀ q,K.q = some q → ∃ b v,o = some (b,v) ∧ QW q ∧ XQ w b v p g c k q ∧ q.d = K.d
theorem XPair.kept (h : XPair w p g c k o K) (hb : ∀ j,XKF o p g j → w'.heap[j]? = w.heap[j]?) : XPair w' p g c k o K :=
 ⟨h.disk.keep (hb p (.inl (.inl rfl))) (hb g (.inl (.inr rfl))),h.none_,fun q hq => by
  obtain ⟨b,v,h1,h2,h3,h4⟩:=h.some_ q hq;exact ⟨b,v,h1,h2,h3.keptF fun j hj => hb j (by rw [h1];exact (xkf_some b v p g j).2 hj),h4⟩⟩
theorem XPair.lt (h : XPair w p g c k o K) {j : Nat} (hj : XKF o p g j) : j < w.heap.size := by
 rcases hj with (rfl | rfl) | ⟨bv,h1,h2⟩
 ·exact h.disk.disk.lt
 ·exact h.disk.glt
 ·cases hq : K.q with
  | none => rw [h.none_ hq] at h1;cases h1
  | some q =>
   obtain ⟨b,v,e,-,h3,-⟩:=h.some_ q hq;rw [e] at h1;injection h1 with h1
   subst h1;exact h3.lt h2
theorem XPair.below (h : XPair w p g c k o K) (hb : Below w.heap.size w w') : XPair w' p g c k o K := h.kept fun j hj => hb.block j (h.lt hj)
structure XPWent (w : World) (p g c : Nat) (o : Option (Nat × XV)) (K : KN) (o' : Option (Nat × XV)) (w' : World) : Prop where
 at_ : ∃ k,XPair w' p g c k o' K
 foot : Foot (XKF o p g) w w'
 new_ : ∀ j,XKF o' p g j → XKF o p g j ∨ w.heap.size ≤ j
theorem XPWent.pre {w1 w2 : World} (hf : Foot (XKF o p g) w w1) (h : XPWent w1 p g c o K o' w2) : XPWent w p g c o K o' w2 :=
 ⟨h.at_,hf.trans h.foot fun _ q => .inl q,fun j hj => (h.new_ j hj).imp (fun q => q) fun q => Nat.le_trans hf.size q⟩
theorem xpw_call {q' : QN} (hw : XWent w b v p g c k q' w') (hQ : QW q') : ∃ o',XPWent w p g c (some (b,v)) ⟨q'.d,some q'⟩ o' w' ∧ xPtr o' = xPtr (some (b,v)) := by
 obtain ⟨v',h1,h2,h3⟩:=hw
 refine ⟨some (b,v'),⟨⟨k,h1.disk,fun e => (by cases e),fun x hx => ?_⟩,h2.mono fun j hj => (xkf_some b v p g j).2 hj,fun j hj => ?_⟩,rfl⟩
 ·injection hx with hx
  subst hx;exact ⟨b,v',rfl,hQ,h1,rfl⟩
 ·rw [xkf_some] at hj ⊢
  exact h3 j hj
theorem but2_xkf (hb : But2 p g w w') : Foot (XKF o p g) w w' :=
 ⟨hb.os,hb.tape,hb.output,hb.size,fun j hj hn => hb.block j hj (fun e => hn (.inl (.inl e))) (fun e => hn (.inl (.inr e)))⟩
theorem xpw_turn {k' : Nat} (h : XPair w p g c k o K) (hd : RAt w' p g c k' d) (hb : But2 p g w w') (hl : d.L.length = K.d.L.length) (hdn : d.down = K.d.down) : XPWent w p g c o ⟨d,K.q.map fun q => { q with d := d }⟩ o w' := by
 refine ⟨⟨k',hd,fun e => ?_,fun q hq => ?_⟩,but2_xkf hb,fun j hj => .inl hj⟩
 ·cases hq : K.q with
  | none => exact h.none_ hq
  | some q => dsimp only at e;rw [hq] at e;cases e
 ·cases hkq : K.q with
  | none => dsimp only at hq;rw [hkq] at hq;cases hq
  | some q0 =>
   dsimp only at hq;rw [hkq] at hq;injection hq with hq
   subst hq;obtain ⟨b,v,h1,h3,h4,h5⟩:=h.some_ q0 hkq;refine ⟨b,v,h1,⟨h3.ok,?_,hd.fit,fun e => ?_,fun e => ?_⟩,h4.disk_ hd hb,rfl⟩
   ·show 9 ≤ d.L.length
    rw [hl,← h5];exact h3.nine
   ·show d.down = false
    rw [hdn,← h5];exact h3.up e
   ·show q0.tail ≤ szN d.L.length
    rw [hl,← h5];exact h3.tail e
theorem xpair_new (h : XNewAt p g c (newN d) w e w') (hf : d.Fit) : ∃ o' A c',e = .returned (.tuple #[xPtr o',.slice A (newN d).2.2.1.length c',.int .i64 (newN d).2.2.2]) ∧ w'.ownsRow w.heap.size 23 7 (.slice A (newN d).2.2.1.length c') (newN d).2.2.1.length (cellsE (newN d).2.2.1) ∧ XPWent w p g c o ⟨(newN d).1,(newN d).2.1⟩ o' w' := by
 obtain ⟨qv,lv,k',h1,h2,h3,h4,h5⟩:=h
 have hl:=newN_len hf
 obtain ⟨A,c',rfl⟩:=own_form h2
 cases hq : (newN d).2.1 with
 | none =>
  rw [hq] at h5;dsimp only at h5;subst h5;refine ⟨none,A,c',h1,h2,⟨⟨k',h4,fun _ => rfl,fun q e => (by cases e)⟩,h3.mono fun j hj => .inl hj,fun j hj => .inl (.inl ((xkf_none p g j).1 hj))⟩⟩
 | some q =>
  rw [hq] at h5;dsimp only at h5;obtain ⟨b,v,rfl,h6,h7⟩:=h5;obtain ⟨l1,l2,-⟩:=hl q hq;refine ⟨some (b,v),A,c',h1,h2,⟨⟨k',h4,fun e => (by cases e),fun x hx => ?_⟩,h3.mono fun j hj => .inl hj,fun j hj => ?_⟩⟩
  ·injection hx with hx
   subst hx;exact ⟨b,v,rfl,l1,h6,l2⟩
  ·rw [xkf_some] at hj
   exact (h7 j hj).imp .inl (fun q => q)
structure WantAt (w : World) (mb p g c : Nat) (o : Option (Nat × XV)) (r : KN × AN) (e : Ending) (w' : World) : Prop where
 ex : ∃ o' A c' k,e = .returned (.agg #[.int .i64 r.2.n,.slice A r.2.lost.length c',.int .i64 r.2.err]) ∧ w'.ownsRow w.heap.size 23 7 (.slice A r.2.lost.length c') r.2.lost.length (cellsE r.2.lost) ∧ Blk w' mb 45 #[.pointer (some ⟨p,0,none⟩),xPtr o'] ∧ XPair w' p g c k o' r.1 ∧ ∀ j,XKF o' p g j → XKF o p g j ∨ w.heap.size ≤ j
 foot : Foot (fun j => j = mb ∨ XKF o p g j) w w'
theorem want_fin {wf : World} {A : Option Addr} (hob : w.heap.size = ob) (hb : Below ob w W) (hs : W.heap.size = ob + 3) (h : XPWent W p g c o r.1 o' w6) (hm : Blk wf mb 45 #[.pointer (some ⟨p,0,none⟩),xPtr o']) (hmb : mb < ob) (hnk : ¬ XKF o p g mb) (hlo : ∀ j,XKF o p g j → j < ob)
  (hrow : w6.ownsRow (ob + 3) 23 7 (.slice A r.2.lost.length c') r.2.lost.length (cellsE r.2.lost)) (hf : ∀ j,j ≠ mb → j ≠ ob + 1 → j ≠ ob + 1 + 1 → wf.heap[j]? = w6.heap[j]?) (hos : wf.os = w6.os ∧ wf.tape = w6.tape ∧ wf.output = w6.output ∧ wf.heap.size = w6.heap.size) :
  WantAt w mb p g c o r (.returned (.agg #[.int .i64 r.2.n,.slice A r.2.lost.length c',.int .i64 r.2.err])) wf:=by
 obtain ⟨k,hk⟩:=h.at_
 have s1:=h.foot.size
 have hn : ∀ j,XKF o' p g j → j ≠ mb ∧ j ≠ ob + 1 ∧ j ≠ ob + 1 + 1:=fun j hj => by
  rcases h.new_ j hj with q | q
  ·have:=hlo j q
   exact ⟨fun e => by subst e;exact hnk q,by omega,by omega⟩
  ·exact ⟨by omega,by omega,by omega⟩
 refine ⟨⟨o',A,c',k,rfl,own_base (own_keep hrow fun j hj => ?_) (by omega),hm,hk.kept fun j hj => hf j (hn j hj).1 (hn j hj).2.1 (hn j hj).2.2,fun j hj => (h.new_ j hj).imp (fun q => q) fun q => by omega⟩,⟨hos.1.trans (h.foot.os.trans hb.os),hos.2.1.trans (h.foot.tape.trans hb.tape),hos.2.2.1.trans (h.foot.output.trans hb.output),by omega,fun j hj hn => ?_⟩⟩
 ·have:=own_base_le hrow hj
  exact hf j (by omega) (by omega) (by omega)
 ·rw [hf j (fun e => hn (.inl e)) (by omega) (by omega),h.foot.block j (by omega) fun e => hn (.inr e)]
  exact hb.block j (by omega)
structure WF3 (w W : World) (mb ob p : Nat) (o : Option (Nat × XV)) (x : QO) : Prop where
 mod : Blk W mb 45 #[.pointer (some ⟨p,0,none⟩),xPtr o]
 op : Blk W ob 25 (opX x)
 res : Blk W (ob + 1) 48 sdA
 r : Blk W (ob + 1 + 1) 48 sdA
 bel : Below ob w W
 size : W.heap.size = ob + 3
theorem wf3_new (x : QO) (hob : w.heap.size = ob) (hm : Blk w mb 45 #[.pointer (some ⟨p,0,none⟩),xPtr o]) : WF3 w (((w.alloc (.cells (opX x) 25)).alloc (.cells sdA 48)).alloc (.cells sdA 48)) mb ob p o x :=
 ⟨((hm.alloc _).alloc _).alloc _,((Blk.at_ (w:=w) hob.symm).alloc _).alloc _,(Blk.at_ (by simp [hob])).alloc _,Blk.at_ (by simp [hob]),by rw [← hob];exact ext_alloc (ext_alloc (ext_new w _) _) _,by simp [hob]⟩
theorem WF3.foot (h : WF3 w W mb ob p o x) (hf : Foot (XKF o p g) W w6) (hnk : ¬ XKF o p g mb) (hlo : ∀ j,XKF o p g j → j < ob) :
  Blk w6 mb 45 #[.pointer (some ⟨p,0,none⟩),xPtr o] ∧ Blk w6 ob 25 (opX x) ∧ Blk w6 (ob + 1) 48 sdA ∧ Blk w6 (ob + 1 + 1) 48 sdA :=
 ⟨h.mod.kept (hf.block _ h.mod.lt hnk),h.op.kept (hf.block _ h.op.lt fun e => by have:=hlo _ e;omega),h.res.kept (hf.block _ h.res.lt fun e => by have:=hlo _ e;omega),h.r.kept (hf.block _ h.r.lt fun e => by have:=hlo _ e;omega)⟩
theorem WF3.drew (h : WF3 w W mb ob p o x) : WF3 w W.drew mb ob p o x := ⟨h.mod,h.op,h.res,h.r,h.bel.drew,h.size⟩
theorem same4_refl (w : World) : w.os = w.os ∧ w.tape = w.tape ∧ w.output = w.output ∧ w.heap.size = w.heap.size := ⟨rfl,rfl,rfl,rfl⟩
set_option maxRecDepth 100000 in
theorem want_none (x : QO) (h : XPair w p g c k none K) (hm : Blk w mb 45 #[.pointer (some ⟨p,0,none⟩),.pointer none]) (hnk : ¬ XKF none p g mb) (h0 : 0 ≤ x.kind) (h3 : x.kind ≤ 3) (hq : K.q = none) :
  Calls Tryz.prog 20 #[.pointer (some ⟨mb,0,none⟩),x.val] w (WantAt w mb p g c none (K.act x)):=by
 rw [act_none h0 h3 hq]
 obtain ⟨ob,hob⟩ : ∃ ob,w.heap.size = ob:=⟨_,rfl⟩
 have hF:=wf3_new (o:=none) (p:=p) x hob hm
 have hml : mb < ob:=by rw [← hob];exact hm.lt
 have hlo : ∀ j,XKF none p g j → j < ob:=fun j hj => by rw [← hob];exact h.lt hj
 obtain ⟨xk,xa,xb,⟨y0,y1,y2,y3,y4,y5,y6⟩⟩:=x
 dsimp only at h0 h3 hF
 have hbw:=ext_alloc (ext_alloc (ext_new w (.cells #[.int .i64 xk,.int .i64 xa,.int .i64 xb,.int .i64 y0,.int .i64 y1,.string y2,.string y3,.int .i64 y4,.bool y5,.bool y6] 25)) (.cells sdA 48)) (.cells sdA 48)
 have hp:=h.below hbw
 have k0 : xk ≥ 0:=h0
 have HFF:=Lib.hid hF
 obtain ⟨e0,e1,-⟩:=hF.mod.c2
 obtain ⟨j0,j1,j2,j3,j4,j5,j6,j7,j8,j9⟩:=op_cells hF.op
 obtain ⟨r0,r1,r2,rf0,rf1,rf2⟩:=hF.res.c3
 dsimp only [xPtr] at e1
 have hp2:=h.below (ext_alloc (ext_alloc (ext_new w (.cells #[.int .i64 xk,.int .i64 xa,.int .i64 xb,.int .i64 y0,.int .i64 y1,.string y2,.string y3,.int .i64 y4,.bool y5,.bool y6] 25)) (.cells #[.int .i64 0,.slice none 0 0,.int .i64 1] 48)) (.cells sdA 48))
 have HRES:=Lib.hid (show Blk (((w.alloc (.cells #[.int .i64 xk,.int .i64 xa,.int .i64 xb,.int .i64 y0,.int .i64 y1,.string y2,.string y3,.int .i64 y4,.bool y5,.bool y6] 25)).alloc (.cells #[.int .i64 0,.slice none 0 0,.int .i64 1] 48)).alloc (.cells sdA 48)) (ob + 1) 48 #[.int .i64 0,.slice none 0 0,.int .i64 1] from (Blk.at_ (by simp [hob])).alloc _)
 have HW:=Lib.hid (show WantAt w mb p g c none (K,⟨0,[],1⟩) (.returned (.agg #[.int .i64 0,.slice none 0 0,.int .i64 1])) (((w.alloc (.cells #[.int .i64 xk,.int .i64 xa,.int .i64 xb,.int .i64 y0,.int .i64 y1,.string y2,.string y3,.int .i64 y4,.bool y5,.bool y6] 25)).alloc (.cells #[.int .i64 0,.slice none 0 0,.int .i64 1] 48)).alloc (.cells sdA 48)) from
  want_fin (o':=none) (r:=(K,⟨0,[],1⟩)) (w6:=((w.alloc (.cells #[.int .i64 xk,.int .i64 xa,.int .i64 xb,.int .i64 y0,.int .i64 y1,.string y2,.string y3,.int .i64 y4,.bool y5,.bool y6] 25)).alloc (.cells #[.int .i64 0,.slice none 0 0,.int .i64 1] 48)).alloc (.cells sdA 48)) (W:=((w.alloc (.cells #[.int .i64 xk,.int .i64 xa,.int .i64 xb,.int .i64 y0,.int .i64 y1,.string y2,.string y3,.int .i64 y4,.bool y5,.bool y6] 25)).alloc (.cells #[.int .i64 0,.slice none 0 0,.int .i64 1] 48)).alloc (.cells sdA 48)) hob (by rw [← hob];exact ext_alloc (ext_alloc (ext_new w _) _) _) (by simp [hob]) ⟨⟨k,hp2⟩,Foot.refl _ _,fun j hj => .inl hj⟩ (((hm.alloc _).alloc _).alloc _) hml hnk hlo own_nil (fun j a b c => rfl) (same4_refl _))
 unfold QO.val
 dsimp only
 clear h hm hF hlo hp hp2 hbw
 go_enter Tryz.func20,Tryz.ntmps20
 go_wp2_with fail
 refine bodyPost_ret (v:=_) (ret_said (pt:=4) (by kernel_rfl) rfl HRES.out) rfl ?_
 exact HW.out
set_option maxRecDepth 100000 in
theorem want_1 (xa xb : Int) (xe : EI) (hq : K.q = some q) (hQ : QW q) (h : XQ w b v p g c k q) (hm : Blk w mb 45 #[.pointer (some ⟨p,0,none⟩),.pointer (some ⟨b,0,none⟩)]) (hnk : ¬ XKF (some (b,v)) p g mb) (hok : (QO.mk 1 xa xb xe).Ok) (hn : q.d.n ≤ 930000) :
  Calls Tryz.prog 20 #[.pointer (some ⟨mb,0,none⟩),(QO.mk 1 xa xb xe).val] w (WantAt w mb p g c (some (b,v)) (K.act (QO.mk 1 xa xb xe))):=by
 rw [act_some (show (0 : Int) ≤ 1 by decide) (show ((1 : Int)) ≤ 3 by decide) hq,show q.call (QO.mk 1 xa xb xe) = ((q.became 2 xa).1,0,(q.became 2 xa).2) from rfl]
 obtain ⟨ob,hob⟩ : ∃ ob,w.heap.size = ob:=⟨_,rfl⟩
 have hF:=wf3_new (o:=some (b,v)) (p:=p) (QO.mk 1 xa xb xe) hob hm
 dsimp only [opX] at hF
 have hml : mb < ob:=by rw [← hob];exact hm.lt
 have hlo : ∀ j,XKF (some (b,v)) p g j → j < ob:=fun j hj => by rw [← hob];exact h.lt ((xkf_some b v p g j).1 hj)
 have hbw:=ext_alloc (ext_alloc (ext_new w (.cells (opC 1 xa xb xe) 25)) (.cells sdA 48)) (.cells sdA 48)
 have hX:=h.below hbw
 have HML:=Lib.hid hml
 obtain ⟨e0,e1,-⟩:=hF.mod.c2
 obtain ⟨j0,j1,j2,j3,j4,j5,j6,j7,j8,j9⟩:=op_cells hF.op
 dsimp only [xPtr] at e1
 have HF:=Lib.hid hF
 have HX:=Lib.hid hX
 have HOK:=Lib.hid hok
 unfold QO.val
 dsimp only
 clear h hm hF hX hbw hok
 go_enter Tryz.func20,Tryz.ntmps20
 go_wp2_with fail
 have hFd:=HF.out.drew
 have hXd:=HX.out.below (Below.refl _ _).drew
 clear HF HX e0 e1 j0 j1 j2 j3 j4 j5 j6 j7 j8 j9
 generalize ((w.alloc (.cells (opC 1 xa xb xe) 25)).alloc (.cells sdA 48)).alloc (.cells sdA 48) = W at *
 refine wp_region_held_drew (S:=fun V => Blk V mb 45 #[.pointer (some ⟨p,0,none⟩),.pointer (some ⟨b,0,none⟩)] ∧ Blk V ob 25 (opC 1 xa xb xe)) (by kernel_rfl) ⟨hFd.mod,hFd.op⟩ (fun hHeld => ?_)
 generalize W.drew = W0 at *
 have cC:=xSent_any xa hXd hQ (by omega)
 refine tk_ 0 41 rfl rfl ?_
 refine tk_ 1 42 rfl rfl ?_
 refine tk_ 2 43 rfl rfl ?_
 refine tk_ 3 44 rfl rfl ?_ (fun wx hSx => by obtain ⟨e0,e1,-⟩:=hSx.1.c2;go_simp;try with_reducible rfl)
 refine tk_ 4 45 rfl rfl ?_
 refine tk_ 5 46 rfl rfl ?_ (fun wx hSx => by obtain ⟨j0,j1,j2,j3,j4,j5,j6,j7,j8,j9⟩:=op_cells hSx.2;go_simp;try with_reducible rfl)
 refine rdy1 6 rfl ?_
 intro KK hKK
 go_simp
 with_reducible refine cC.mono ?_
 rintro ev w6 ⟨rfl,k6,hw⟩
 obtain ⟨o',hpw,hxo⟩:=xpw_call hw (became_qw hQ (by omega) xa).1
 obtain ⟨m6,o6,res6,r6⟩:=hFd.foot hpw.foot hnk hlo
 obtain ⟨s0,s1,s2,sf0,sf1,sf2⟩:=r6.c3
 obtain ⟨r0,r1,r2,rf0,rf1,rf2⟩:=res6.c3
 try go_wp2_with fail
 refine hKK.out _ _ ⟨m6,o6⟩ (fun hHeld => ?_)
 clear hKK KK cC hw
 refine tk_ 7 48 rfl rfl ?_
 refine rdy1 8 rfl ?_
 intro KK hKK
 go_simp
 refine hKK.out _ _ ⟨hHeld.1.set_other (by have:=HML.out;omega) _ _,hHeld.2.set_other (by omega) _ _⟩ (fun hHeld => ?_)
 clear hKK KK
 refine wpAnyH_done (by kernel_rfl) ?_ _
 try simp only [Act.put,List.setIfInBounds_toArray,List.set_cons_succ,List.set_cons_zero]
 have hml:=HML.out
 have HRES:=Lib.hid (show Blk (((((w6).setCell ⟨ob + 1 + 1,2,none⟩ (.int .i64 (q.became 2 xa).2)).setCell ⟨ob + 1,0,none⟩ (.int .i64 0)).setCell ⟨ob + 1,1,none⟩ (.slice none 0 0)).setCell ⟨ob + 1,2,none⟩ (.int .i64 (q.became 2 xa).2)) (ob + 1) 48 #[.int .i64 0,.slice none 0 0,.int .i64 (q.became 2 xa).2] from ((((res6.set_other (g':=ob + 1 + 1) (by omega) 2 (.int .i64 (q.became 2 xa).2)).set_ 0 (.int .i64 0)).set_ 1 (.slice none 0 0)).set_ 2 (.int .i64 (q.became 2 xa).2)))
 have HWT:=Lib.hid (show WantAt w mb p g c (some (b,v)) (⟨(((q.became 2 xa).1,0,(q.became 2 xa).2)).1.d,some (((q.became 2 xa).1,0,(q.became 2 xa).2)).1⟩,⟨(((q.became 2 xa).1,0,(q.became 2 xa).2)).2.1,[],(((q.became 2 xa).1,0,(q.became 2 xa).2)).2.2⟩) (.returned (.agg #[.int .i64 (((q.became 2 xa).1,0,(q.became 2 xa).2)).2.1,.slice none 0 0,.int .i64 (((q.became 2 xa).1,0,(q.became 2 xa).2)).2.2])) (((((w6).setCell ⟨ob + 1 + 1,2,none⟩ (.int .i64 (q.became 2 xa).2)).setCell ⟨ob + 1,0,none⟩ (.int .i64 0)).setCell ⟨ob + 1,1,none⟩ (.slice none 0 0)).setCell ⟨ob + 1,2,none⟩ (.int .i64 (q.became 2 xa).2)) from
  want_fin (o':=o') (w6:=w6) (A:=none) (c':=0) hob hFd.bel hFd.size hpw (by rw [hxo];exact ((((m6.set_other (g':=ob + 1 + 1) (by omega) 2 (.int .i64 (q.became 2 xa).2)).set_other (g':=ob + 1) (by omega) 0 (.int .i64 0)).set_other (g':=ob + 1) (by omega) 1 (.slice none 0 0)).set_other (g':=ob + 1) (by omega) 2 (.int .i64 (q.became 2 xa).2))) hml hnk hlo own_nil (fun j a b c => (set_heap b).trans ((set_heap b).trans ((set_heap b).trans ((set_heap c))))) (same4_set (same4_set (same4_set (same4_set (same4_refl _) _ _) _ _) _ _) _ _))
 clear hpw m6 o6 res6 r6 hFd hXd hHeld hxo
 go_wp2_with fail
 refine bodyPost_ret (v:=_) (ret_said (pt:=4) (by kernel_rfl) rfl HRES.out) rfl ?_
 exact HWT.out
set_option maxRecDepth 100000 in
theorem want_2 (xa xb : Int) (xe : EI) (hq : K.q = some q) (hQ : QW q) (h : XQ w b v p g c k q) (hm : Blk w mb 45 #[.pointer (some ⟨p,0,none⟩),.pointer (some ⟨b,0,none⟩)]) (hnk : ¬ XKF (some (b,v)) p g mb) (hok : (QO.mk 2 xa xb xe).Ok) (hn : q.d.n ≤ 930000) :
  Calls Tryz.prog 20 #[.pointer (some ⟨mb,0,none⟩),(QO.mk 2 xa xb xe).val] w (WantAt w mb p g c (some (b,v)) (K.act (QO.mk 2 xa xb xe))):=by
 rw [act_some (show (0 : Int) ≤ 2 by decide) (show ((2 : Int)) ≤ 3 by decide) hq,show q.call (QO.mk 2 xa xb xe) = ((q.became 3 xa).1,0,(q.became 3 xa).2) from rfl]
 obtain ⟨ob,hob⟩ : ∃ ob,w.heap.size = ob:=⟨_,rfl⟩
 have hF:=wf3_new (o:=some (b,v)) (p:=p) (QO.mk 2 xa xb xe) hob hm
 dsimp only [opX] at hF
 have hml : mb < ob:=by rw [← hob];exact hm.lt
 have hlo : ∀ j,XKF (some (b,v)) p g j → j < ob:=fun j hj => by rw [← hob];exact h.lt ((xkf_some b v p g j).1 hj)
 have hbw:=ext_alloc (ext_alloc (ext_new w (.cells (opC 2 xa xb xe) 25)) (.cells sdA 48)) (.cells sdA 48)
 have hX:=h.below hbw
 have HML:=Lib.hid hml
 obtain ⟨e0,e1,-⟩:=hF.mod.c2
 obtain ⟨j0,j1,j2,j3,j4,j5,j6,j7,j8,j9⟩:=op_cells hF.op
 dsimp only [xPtr] at e1
 have HF:=Lib.hid hF
 have HX:=Lib.hid hX
 have HOK:=Lib.hid hok
 unfold QO.val
 dsimp only
 clear h hm hF hX hbw hok
 go_enter Tryz.func20,Tryz.ntmps20
 go_wp2_with fail
 have hFd:=HF.out.drew
 have hXd:=HX.out.below (Below.refl _ _).drew
 clear HF HX e0 e1 j0 j1 j2 j3 j4 j5 j6 j7 j8 j9
 generalize ((w.alloc (.cells (opC 2 xa xb xe) 25)).alloc (.cells sdA 48)).alloc (.cells sdA 48) = W at *
 refine wp_region_held_drew (S:=fun V => Blk V mb 45 #[.pointer (some ⟨p,0,none⟩),.pointer (some ⟨b,0,none⟩)] ∧ Blk V ob 25 (opC 2 xa xb xe)) (by kernel_rfl) ⟨hFd.mod,hFd.op⟩ (fun hHeld => ?_)
 generalize W.drew = W0 at *
 have cC:=xDone_any xa hXd hQ (by omega)
 refine tk_ 0 51 rfl rfl ?_
 refine tk_ 1 52 rfl rfl ?_
 refine tk_ 2 53 rfl rfl ?_
 refine tk_ 3 54 rfl rfl ?_ (fun wx hSx => by obtain ⟨e0,e1,-⟩:=hSx.1.c2;go_simp;try with_reducible rfl)
 refine tk_ 4 55 rfl rfl ?_
 refine tk_ 5 56 rfl rfl ?_ (fun wx hSx => by obtain ⟨j0,j1,j2,j3,j4,j5,j6,j7,j8,j9⟩:=op_cells hSx.2;go_simp;try with_reducible rfl)
 refine rdy1 6 rfl ?_
 intro KK hKK
 go_simp
 with_reducible refine cC.mono ?_
 rintro ev w6 ⟨rfl,k6,hw⟩
 obtain ⟨o',hpw,hxo⟩:=xpw_call hw (became_qw hQ (by omega) xa).1
 obtain ⟨m6,o6,res6,r6⟩:=hFd.foot hpw.foot hnk hlo
 obtain ⟨s0,s1,s2,sf0,sf1,sf2⟩:=r6.c3
 obtain ⟨r0,r1,r2,rf0,rf1,rf2⟩:=res6.c3
 try go_wp2_with fail
 refine hKK.out _ _ ⟨m6,o6⟩ (fun hHeld => ?_)
 clear hKK KK cC hw
 refine tk_ 7 58 rfl rfl ?_
 refine rdy1 8 rfl ?_
 intro KK hKK
 go_simp
 refine hKK.out _ _ ⟨hHeld.1.set_other (by have:=HML.out;omega) _ _,hHeld.2.set_other (by omega) _ _⟩ (fun hHeld => ?_)
 clear hKK KK
 refine wpAnyH_done (by kernel_rfl) ?_ _
 try simp only [Act.put,List.setIfInBounds_toArray,List.set_cons_succ,List.set_cons_zero]
 have hml:=HML.out
 have HRES:=Lib.hid (show Blk (((((w6).setCell ⟨ob + 1 + 1,2,none⟩ (.int .i64 (q.became 3 xa).2)).setCell ⟨ob + 1,0,none⟩ (.int .i64 0)).setCell ⟨ob + 1,1,none⟩ (.slice none 0 0)).setCell ⟨ob + 1,2,none⟩ (.int .i64 (q.became 3 xa).2)) (ob + 1) 48 #[.int .i64 0,.slice none 0 0,.int .i64 (q.became 3 xa).2] from ((((res6.set_other (g':=ob + 1 + 1) (by omega) 2 (.int .i64 (q.became 3 xa).2)).set_ 0 (.int .i64 0)).set_ 1 (.slice none 0 0)).set_ 2 (.int .i64 (q.became 3 xa).2)))
 have HWT:=Lib.hid (show WantAt w mb p g c (some (b,v)) (⟨(((q.became 3 xa).1,0,(q.became 3 xa).2)).1.d,some (((q.became 3 xa).1,0,(q.became 3 xa).2)).1⟩,⟨(((q.became 3 xa).1,0,(q.became 3 xa).2)).2.1,[],(((q.became 3 xa).1,0,(q.became 3 xa).2)).2.2⟩) (.returned (.agg #[.int .i64 (((q.became 3 xa).1,0,(q.became 3 xa).2)).2.1,.slice none 0 0,.int .i64 (((q.became 3 xa).1,0,(q.became 3 xa).2)).2.2])) (((((w6).setCell ⟨ob + 1 + 1,2,none⟩ (.int .i64 (q.became 3 xa).2)).setCell ⟨ob + 1,0,none⟩ (.int .i64 0)).setCell ⟨ob + 1,1,none⟩ (.slice none 0 0)).setCell ⟨ob + 1,2,none⟩ (.int .i64 (q.became 3 xa).2)) from
  want_fin (o':=o') (w6:=w6) (A:=none) (c':=0) hob hFd.bel hFd.size hpw (by rw [hxo];exact ((((m6.set_other (g':=ob + 1 + 1) (by omega) 2 (.int .i64 (q.became 3 xa).2)).set_other (g':=ob + 1) (by omega) 0 (.int .i64 0)).set_other (g':=ob + 1) (by omega) 1 (.slice none 0 0)).set_other (g':=ob + 1) (by omega) 2 (.int .i64 (q.became 3 xa).2))) hml hnk hlo own_nil (fun j a b c => (set_heap b).trans ((set_heap b).trans ((set_heap b).trans ((set_heap c))))) (same4_set (same4_set (same4_set (same4_set (same4_refl _) _ _) _ _) _ _) _ _))
 clear hpw m6 o6 res6 r6 hFd hXd hHeld hxo
 go_wp2_with fail
 refine bodyPost_ret (v:=_) (ret_said (pt:=4) (by kernel_rfl) rfl HRES.out) rfl ?_
 exact HWT.out
set_option maxRecDepth 100000 in
theorem want_3 (xa xb : Int) (xe : EI) (hq : K.q = some q) (hQ : QW q) (h : XQ w b v p g c k q) (hm : Blk w mb 45 #[.pointer (some ⟨p,0,none⟩),.pointer (some ⟨b,0,none⟩)]) (hnk : ¬ XKF (some (b,v)) p g mb) (hok : (QO.mk 3 xa xb xe).Ok) (hn : q.d.n ≤ 930000) :
  Calls Tryz.prog 20 #[.pointer (some ⟨mb,0,none⟩),(QO.mk 3 xa xb xe).val] w (WantAt w mb p g c (some (b,v)) (K.act (QO.mk 3 xa xb xe))):=by
 rw [act_some (show (0 : Int) ≤ 3 by decide) (show ((3 : Int)) ≤ 3 by decide) hq,show q.call (QO.mk 3 xa xb xe) = ((q.became 4 xa).1,0,(q.became 4 xa).2) from rfl]
 obtain ⟨ob,hob⟩ : ∃ ob,w.heap.size = ob:=⟨_,rfl⟩
 have hF:=wf3_new (o:=some (b,v)) (p:=p) (QO.mk 3 xa xb xe) hob hm
 dsimp only [opX] at hF
 have hml : mb < ob:=by rw [← hob];exact hm.lt
 have hlo : ∀ j,XKF (some (b,v)) p g j → j < ob:=fun j hj => by rw [← hob];exact h.lt ((xkf_some b v p g j).1 hj)
 have hbw:=ext_alloc (ext_alloc (ext_new w (.cells (opC 3 xa xb xe) 25)) (.cells sdA 48)) (.cells sdA 48)
 have hX:=h.below hbw
 have HML:=Lib.hid hml
 obtain ⟨e0,e1,-⟩:=hF.mod.c2
 obtain ⟨j0,j1,j2,j3,j4,j5,j6,j7,j8,j9⟩:=op_cells hF.op
 dsimp only [xPtr] at e1
 have HF:=Lib.hid hF
 have HX:=Lib.hid hX
 have HOK:=Lib.hid hok
 unfold QO.val
 dsimp only
 clear h hm hF hX hbw hok
 go_enter Tryz.func20,Tryz.ntmps20
 go_wp2_with fail
 have hFd:=HF.out.drew
 have hXd:=HX.out.below (Below.refl _ _).drew
 clear HF HX e0 e1 j0 j1 j2 j3 j4 j5 j6 j7 j8 j9
 generalize ((w.alloc (.cells (opC 3 xa xb xe) 25)).alloc (.cells sdA 48)).alloc (.cells sdA 48) = W at *
 refine wp_region_held_drew (S:=fun V => Blk V mb 45 #[.pointer (some ⟨p,0,none⟩),.pointer (some ⟨b,0,none⟩)] ∧ Blk V ob 25 (opC 3 xa xb xe)) (by kernel_rfl) ⟨hFd.mod,hFd.op⟩ (fun hHeld => ?_)
 generalize W.drew = W0 at *
 have cC:=xDrop_any xa hXd hQ (by omega)
 refine tk_ 0 61 rfl rfl ?_
 refine tk_ 1 62 rfl rfl ?_
 refine tk_ 2 63 rfl rfl ?_
 refine tk_ 3 64 rfl rfl ?_ (fun wx hSx => by obtain ⟨e0,e1,-⟩:=hSx.1.c2;go_simp;try with_reducible rfl)
 refine tk_ 4 65 rfl rfl ?_
 refine tk_ 5 66 rfl rfl ?_ (fun wx hSx => by obtain ⟨j0,j1,j2,j3,j4,j5,j6,j7,j8,j9⟩:=op_cells hSx.2;go_simp;try with_reducible rfl)
 refine rdy1 6 rfl ?_
 intro KK hKK
 go_simp
 with_reducible refine cC.mono ?_
 rintro ev w6 ⟨rfl,k6,hw⟩
 obtain ⟨o',hpw,hxo⟩:=xpw_call hw (became_qw hQ (by omega) xa).1
 obtain ⟨m6,o6,res6,r6⟩:=hFd.foot hpw.foot hnk hlo
 obtain ⟨s0,s1,s2,sf0,sf1,sf2⟩:=r6.c3
 obtain ⟨r0,r1,r2,rf0,rf1,rf2⟩:=res6.c3
 try go_wp2_with fail
 refine hKK.out _ _ ⟨m6,o6⟩ (fun hHeld => ?_)
 clear hKK KK cC hw
 refine tk_ 7 68 rfl rfl ?_
 refine rdy1 8 rfl ?_
 intro KK hKK
 go_simp
 refine hKK.out _ _ ⟨hHeld.1.set_other (by have:=HML.out;omega) _ _,hHeld.2.set_other (by omega) _ _⟩ (fun hHeld => ?_)
 clear hKK KK
 refine wpAnyH_done (by kernel_rfl) ?_ _
 try simp only [Act.put,List.setIfInBounds_toArray,List.set_cons_succ,List.set_cons_zero]
 have hml:=HML.out
 have HRES:=Lib.hid (show Blk (((((w6).setCell ⟨ob + 1 + 1,2,none⟩ (.int .i64 (q.became 4 xa).2)).setCell ⟨ob + 1,0,none⟩ (.int .i64 0)).setCell ⟨ob + 1,1,none⟩ (.slice none 0 0)).setCell ⟨ob + 1,2,none⟩ (.int .i64 (q.became 4 xa).2)) (ob + 1) 48 #[.int .i64 0,.slice none 0 0,.int .i64 (q.became 4 xa).2] from ((((res6.set_other (g':=ob + 1 + 1) (by omega) 2 (.int .i64 (q.became 4 xa).2)).set_ 0 (.int .i64 0)).set_ 1 (.slice none 0 0)).set_ 2 (.int .i64 (q.became 4 xa).2)))
 have HWT:=Lib.hid (show WantAt w mb p g c (some (b,v)) (⟨(((q.became 4 xa).1,0,(q.became 4 xa).2)).1.d,some (((q.became 4 xa).1,0,(q.became 4 xa).2)).1⟩,⟨(((q.became 4 xa).1,0,(q.became 4 xa).2)).2.1,[],(((q.became 4 xa).1,0,(q.became 4 xa).2)).2.2⟩) (.returned (.agg #[.int .i64 (((q.became 4 xa).1,0,(q.became 4 xa).2)).2.1,.slice none 0 0,.int .i64 (((q.became 4 xa).1,0,(q.became 4 xa).2)).2.2])) (((((w6).setCell ⟨ob + 1 + 1,2,none⟩ (.int .i64 (q.became 4 xa).2)).setCell ⟨ob + 1,0,none⟩ (.int .i64 0)).setCell ⟨ob + 1,1,none⟩ (.slice none 0 0)).setCell ⟨ob + 1,2,none⟩ (.int .i64 (q.became 4 xa).2)) from
  want_fin (o':=o') (w6:=w6) (A:=none) (c':=0) hob hFd.bel hFd.size hpw (by rw [hxo];exact ((((m6.set_other (g':=ob + 1 + 1) (by omega) 2 (.int .i64 (q.became 4 xa).2)).set_other (g':=ob + 1) (by omega) 0 (.int .i64 0)).set_other (g':=ob + 1) (by omega) 1 (.slice none 0 0)).set_other (g':=ob + 1) (by omega) 2 (.int .i64 (q.became 4 xa).2))) hml hnk hlo own_nil (fun j a b c => (set_heap b).trans ((set_heap b).trans ((set_heap b).trans ((set_heap c))))) (same4_set (same4_set (same4_set (same4_set (same4_refl _) _ _) _ _) _ _) _ _))
 clear hpw m6 o6 res6 r6 hFd hXd hHeld hxo
 go_wp2_with fail
 refine bodyPost_ret (v:=_) (ret_said (pt:=4) (by kernel_rfl) rfl HRES.out) rfl ?_
 exact HWT.out
set_option maxRecDepth 100000 in
theorem want_0 (xa xb : Int) (xe : EI) (hq : K.q = some q) (hQ : QW q) (h : XQ w b v p g c k q) (hm : Blk w mb 45 #[.pointer (some ⟨p,0,none⟩),.pointer (some ⟨b,0,none⟩)]) (hnk : ¬ XKF (some (b,v)) p g mb) (hok : (QO.mk 0 xa xb xe).Ok) (hn : q.d.n ≤ 930000) :
  Calls Tryz.prog 20 #[.pointer (some ⟨mb,0,none⟩),(QO.mk 0 xa xb xe).val] w (WantAt w mb p g c (some (b,v)) (K.act (QO.mk 0 xa xb xe))):=by
 rw [act_some (show (0 : Int) ≤ 0 by decide) (show ((0 : Int)) ≤ 3 by decide) hq,show q.call (QO.mk 0 xa xb xe) = (q.put xe) from rfl]
 obtain ⟨ob,hob⟩ : ∃ ob,w.heap.size = ob:=⟨_,rfl⟩
 have hF:=wf3_new (o:=some (b,v)) (p:=p) (QO.mk 0 xa xb xe) hob hm
 dsimp only [opX] at hF
 have hml : mb < ob:=by rw [← hob];exact hm.lt
 have hlo : ∀ j,XKF (some (b,v)) p g j → j < ob:=fun j hj => by rw [← hob];exact h.lt ((xkf_some b v p g j).1 hj)
 have hbw:=ext_alloc (ext_alloc (ext_new w (.cells (opC 0 xa xb xe) 25)) (.cells sdA 48)) (.cells sdA 48)
 have hX:=h.below hbw
 have HML:=Lib.hid hml
 obtain ⟨e0,e1,-⟩:=hF.mod.c2
 obtain ⟨j0,j1,j2,j3,j4,j5,j6,j7,j8,j9⟩:=op_cells hF.op
 dsimp only [xPtr] at e1
 have HF:=Lib.hid hF
 have HX:=Lib.hid hX
 have HOK:=Lib.hid hok
 unfold QO.val
 dsimp only
 clear h hm hF hX hbw hok
 go_enter Tryz.func20,Tryz.ntmps20
 go_wp2_with fail
 have hFd:=HF.out.drew
 have hXd:=HX.out.below (Below.refl _ _).drew
 clear HF HX e0 e1 j0 j1 j2 j3 j4 j5 j6 j7 j8 j9
 generalize ((w.alloc (.cells (opC 0 xa xb xe) 25)).alloc (.cells sdA 48)).alloc (.cells sdA 48) = W at *
 refine wp_region_held_drew (S:=fun V => Blk V mb 45 #[.pointer (some ⟨p,0,none⟩),.pointer (some ⟨b,0,none⟩)] ∧ Blk V ob 25 (opC 0 xa xb xe)) (by kernel_rfl) ⟨hFd.mod,hFd.op⟩ (fun hHeld => ?_)
 generalize W.drew = W0 at *
 have cC:=xput_any xe hXd hQ HOK.out.1 HOK.out.2.1 (by omega)
 unfold EI.val at cC
 refine tk_ 0 28 rfl rfl ?_
 refine tk_ 1 29 rfl rfl ?_
 refine tk_ 2 30 rfl rfl ?_
 refine tk_ 3 31 rfl rfl ?_ (fun wx hSx => by obtain ⟨e0,e1,-⟩:=hSx.1.c2;go_simp;try with_reducible rfl)
 refine tk_ 4 32 rfl rfl ?_
 refine tk_ 5 33 rfl rfl ?_ (fun wx hSx => by obtain ⟨j0,j1,j2,j3,j4,j5,j6,j7,j8,j9⟩:=op_cells hSx.2;go_simp;try with_reducible rfl)
 refine rdy1 6 rfl ?_
 intro KK hKK
 go_simp
 with_reducible refine cC.mono ?_
 rintro ev w6 ⟨rfl,k6,hw⟩
 obtain ⟨o',hpw,hxo⟩:=xpw_call hw (put_qw hQ xe).1
 obtain ⟨m6,o6,res6,r6⟩:=hFd.foot hpw.foot hnk hlo
 obtain ⟨s0,s1,s2,sf0,sf1,sf2⟩:=r6.c3
 obtain ⟨r0,r1,r2,rf0,rf1,rf2⟩:=res6.c3
 try go_wp2_with fail
 refine hKK.out _ _ ⟨m6,o6⟩ (fun hHeld => ?_)
 clear hKK KK cC hw
 refine tk_ 7 27 rfl rfl ?_
 refine tk_ 8 35 rfl rfl ?_
 refine tk_ 9 36 rfl rfl ?_
 refine tk_ 10 37 rfl rfl ?_
 refine rdy1 11 rfl ?_
 intro KK hKK
 go_simp
 refine hKK.out _ _ ⟨hHeld.1.set_other (by have:=HML.out;omega) _ _,hHeld.2.set_other (by omega) _ _⟩ (fun hHeld => ?_)
 clear hKK KK
 refine tk_ 12 38 rfl rfl ?_
 refine rdy1 13 rfl ?_
 intro KK hKK
 go_simp
 refine hKK.out _ _ ⟨hHeld.1.set_other (by have:=HML.out;omega) _ _,hHeld.2.set_other (by omega) _ _⟩ (fun hHeld => ?_)
 clear hKK KK
 refine wpAnyH_done (by kernel_rfl) ?_ _
 try simp only [Act.put,List.setIfInBounds_toArray,List.set_cons_succ,List.set_cons_zero]
 have hml:=HML.out
 have HRES:=Lib.hid (show Blk ((((((w6).setCell ⟨ob + 1 + 1,0,none⟩ (.int .i64 (q.put xe).2.1)).setCell ⟨ob + 1 + 1,2,none⟩ (.int .i64 (q.put xe).2.2)).setCell ⟨ob + 1,0,none⟩ (.int .i64 (q.put xe).2.1)).setCell ⟨ob + 1,1,none⟩ (.slice none 0 0)).setCell ⟨ob + 1,2,none⟩ (.int .i64 (q.put xe).2.2)) (ob + 1) 48 #[.int .i64 (q.put xe).2.1,.slice none 0 0,.int .i64 (q.put xe).2.2] from (((((res6.set_other (g':=ob + 1 + 1) (by omega) 0 (.int .i64 (q.put xe).2.1)).set_other (g':=ob + 1 + 1) (by omega) 2 (.int .i64 (q.put xe).2.2)).set_ 0 (.int .i64 (q.put xe).2.1)).set_ 1 (.slice none 0 0)).set_ 2 (.int .i64 (q.put xe).2.2)))
 have HWT:=Lib.hid (show WantAt w mb p g c (some (b,v)) (⟨((q.put xe)).1.d,some ((q.put xe)).1⟩,⟨((q.put xe)).2.1,[],((q.put xe)).2.2⟩) (.returned (.agg #[.int .i64 ((q.put xe)).2.1,.slice none 0 0,.int .i64 ((q.put xe)).2.2])) ((((((w6).setCell ⟨ob + 1 + 1,0,none⟩ (.int .i64 (q.put xe).2.1)).setCell ⟨ob + 1 + 1,2,none⟩ (.int .i64 (q.put xe).2.2)).setCell ⟨ob + 1,0,none⟩ (.int .i64 (q.put xe).2.1)).setCell ⟨ob + 1,1,none⟩ (.slice none 0 0)).setCell ⟨ob + 1,2,none⟩ (.int .i64 (q.put xe).2.2)) from
  want_fin (o':=o') (w6:=w6) (A:=none) (c':=0) hob hFd.bel hFd.size hpw (by rw [hxo];exact (((((m6.set_other (g':=ob + 1 + 1) (by omega) 0 (.int .i64 (q.put xe).2.1)).set_other (g':=ob + 1 + 1) (by omega) 2 (.int .i64 (q.put xe).2.2)).set_other (g':=ob + 1) (by omega) 0 (.int .i64 (q.put xe).2.1)).set_other (g':=ob + 1) (by omega) 1 (.slice none 0 0)).set_other (g':=ob + 1) (by omega) 2 (.int .i64 (q.put xe).2.2))) hml hnk hlo own_nil (fun j a b c => (set_heap b).trans ((set_heap b).trans ((set_heap b).trans ((set_heap c).trans (set_heap c))))) (same4_set (same4_set (same4_set (same4_set (same4_set (same4_refl _) _ _) _ _) _ _) _ _) _ _))
 clear hpw m6 o6 res6 r6 hFd hXd hHeld hxo
 go_wp2_with fail
 refine bodyPost_ret (v:=_) (ret_said (pt:=4) (by kernel_rfl) rfl HRES.out) rfl ?_
 exact HWT.out
set_option maxRecDepth 100000 in
theorem want_4 (xa xb : Int) (xe : EI) (h : XPair w p g c k o K) (hm : Blk w mb 45 #[.pointer (some ⟨p,0,none⟩),xPtr o]) (hnk : ¬ XKF o p g mb) (hok : (QO.mk 4 xa xb xe).Ok) (_hn : K.d.n ≤ 930000) :
  Calls Tryz.prog 20 #[.pointer (some ⟨mb,0,none⟩),(QO.mk 4 xa xb xe).val] w (WantAt w mb p g c o (K.act (QO.mk 4 xa xb xe))):=by
 rw [show K.act (QO.mk 4 xa xb xe) = (⟨(K.d.arm xa xb).1,K.q.map fun q => { q with d:=(K.d.arm xa xb).1 }⟩,⟨0,[],(K.d.arm xa xb).2⟩) from rfl]
 obtain ⟨ob,hob⟩ : ∃ ob,w.heap.size = ob:=⟨_,rfl⟩
 have hF:=wf3_new (o:=o) (p:=p) (QO.mk 4 xa xb xe) hob hm
 dsimp only [opX] at hF
 have hml : mb < ob:=by rw [← hob];exact hm.lt
 have hlo : ∀ j,XKF o p g j → j < ob:=fun j hj => by rw [← hob];exact h.lt hj
 have hbw:=ext_alloc (ext_alloc (ext_new w (.cells (opC 4 xa xb xe) 25)) (.cells sdA 48)) (.cells sdA 48)
 have hX:=h.below hbw
 have HML:=Lib.hid hml
 obtain ⟨e0,-⟩:=hF.mod.c2
 obtain ⟨j0,j1,j2,j3,j4,j5,j6,j7,j8,j9⟩:=op_cells hF.op
 have HF:=Lib.hid hF
 have HX:=Lib.hid hX
 have HOK:=Lib.hid hok
 unfold QO.val
 dsimp only
 clear h hm hF hX hbw hok
 go_enter Tryz.func20,Tryz.ntmps20
 go_wp2_with fail
 have hFd:=HF.out.drew
 have hXd:=HX.out.below (Below.refl _ _).drew
 clear HF HX e0 j0 j1 j2 j3 j4 j5 j6 j7 j8 j9
 generalize ((w.alloc (.cells (opC 4 xa xb xe) 25)).alloc (.cells sdA 48)).alloc (.cells sdA 48) = W at *
 refine wp_region_held_drew (S:=fun V => Blk V mb 45 #[.pointer (some ⟨p,0,none⟩),xPtr o] ∧ Blk V ob 25 (opC 4 xa xb xe)) (by kernel_rfl) ⟨hFd.mod,hFd.op⟩ (fun hHeld => ?_)
 generalize W.drew = W0 at *
 have cC:=RArm_any xa xb hXd.disk HOK.out.2.2
 refine tk_ 0 71 rfl rfl ?_
 refine tk_ 1 72 rfl rfl ?_
 refine tk_ 2 73 rfl rfl ?_
 refine tk_ 3 74 rfl rfl ?_ (fun wx hSx => by obtain ⟨e0,-⟩:=hSx.1.c2;go_simp;try with_reducible rfl)
 refine tk_ 4 75 rfl rfl ?_
 refine tk_ 5 76 rfl rfl ?_ (fun wx hSx => by obtain ⟨j0,j1,j2,j3,j4,j5,j6,j7,j8,j9⟩:=op_cells hSx.2;go_simp;try with_reducible rfl)
 refine tk_ 6 77 rfl rfl ?_
 refine tk_ 7 78 rfl rfl ?_ (fun wx hSx => by obtain ⟨j0,j1,j2,j3,j4,j5,j6,j7,j8,j9⟩:=op_cells hSx.2;go_simp;try with_reducible rfl)
 refine rdy1 8 rfl ?_
 intro KK hKK
 go_simp
 with_reducible refine cC.mono ?_
 rintro ev w6 ⟨rfl,⟨k6,hd6⟩,hb6⟩
 have hpw:=xpw_turn hXd hd6 hb6 (DN.arm_fit hXd.disk.fit xa xb).2.1 (arm_down K.d xa xb)
 obtain ⟨m6,o6,res6,r6⟩:=hFd.foot hpw.foot hnk hlo
 obtain ⟨s0,s1,s2,sf0,sf1,sf2⟩:=r6.c3
 obtain ⟨r0,r1,r2,rf0,rf1,rf2⟩:=res6.c3
 try go_wp2_with fail
 refine hKK.out _ _ ⟨m6,o6⟩ (fun hHeld => ?_)
 clear hKK KK cC hd6 hb6
 refine tk_ 9 80 rfl rfl ?_
 refine rdy1 10 rfl ?_
 intro KK hKK
 go_simp
 refine hKK.out _ _ ⟨hHeld.1.set_other (by have:=HML.out;omega) _ _,hHeld.2.set_other (by omega) _ _⟩ (fun hHeld => ?_)
 clear hKK KK
 refine wpAnyH_done (by kernel_rfl) ?_ _
 try simp only [Act.put,List.setIfInBounds_toArray,List.set_cons_succ,List.set_cons_zero]
 have hml:=HML.out
 have HRES:=Lib.hid (show Blk (((((w6).setCell ⟨ob + 1 + 1,2,none⟩ (.int .i64 (K.d.arm xa xb).2)).setCell ⟨ob + 1,0,none⟩ (.int .i64 0)).setCell ⟨ob + 1,1,none⟩ (.slice none 0 0)).setCell ⟨ob + 1,2,none⟩ (.int .i64 (K.d.arm xa xb).2)) (ob + 1) 48 #[.int .i64 0,.slice none 0 0,.int .i64 (K.d.arm xa xb).2] from ((((res6.set_other (g':=ob + 1 + 1) (by omega) 2 (.int .i64 (K.d.arm xa xb).2)).set_ 0 (.int .i64 0)).set_ 1 (.slice none 0 0)).set_ 2 (.int .i64 (K.d.arm xa xb).2)))
 have HWT:=Lib.hid (show WantAt w mb p g c o (⟨(K.d.arm xa xb).1,K.q.map fun q => { q with d:=(K.d.arm xa xb).1 }⟩,⟨0,[],(K.d.arm xa xb).2⟩) (.returned (.agg #[.int .i64 0,.slice none 0 0,.int .i64 (K.d.arm xa xb).2])) (((((w6).setCell ⟨ob + 1 + 1,2,none⟩ (.int .i64 (K.d.arm xa xb).2)).setCell ⟨ob + 1,0,none⟩ (.int .i64 0)).setCell ⟨ob + 1,1,none⟩ (.slice none 0 0)).setCell ⟨ob + 1,2,none⟩ (.int .i64 (K.d.arm xa xb).2)) from
  want_fin (o':=o) (w6:=w6) (A:=none) (c':=0) hob hFd.bel hFd.size hpw ((((m6.set_other (g':=ob + 1 + 1) (by omega) 2 (.int .i64 (K.d.arm xa xb).2)).set_other (g':=ob + 1) (by omega) 0 (.int .i64 0)).set_other (g':=ob + 1) (by omega) 1 (.slice none 0 0)).set_other (g':=ob + 1) (by omega) 2 (.int .i64 (K.d.arm xa xb).2)) hml hnk hlo own_nil (fun j a b c => (set_heap b).trans ((set_heap b).trans ((set_heap b).trans (set_heap c)))) (same4_set (same4_set (same4_set (same4_set (same4_refl _) _ _) _ _) _ _) _ _))
 clear hpw m6 o6 res6 r6 hFd hXd hHeld
 go_wp2_with fail
 refine bodyPost_ret (v:=_) (ret_said (pt:=4) (by kernel_rfl) rfl HRES.out) rfl ?_
 exact HWT.out
set_option maxRecDepth 100000 in
theorem want_5 (xa xb : Int) (xe : EI) (h : XPair w p g c k o K) (hm : Blk w mb 45 #[.pointer (some ⟨p,0,none⟩),xPtr o]) (hnk : ¬ XKF o p g mb) (hok : (QO.mk 5 xa xb xe).Ok) (hn : K.d.n ≤ 930000) :
  Calls Tryz.prog 20 #[.pointer (some ⟨mb,0,none⟩),(QO.mk 5 xa xb xe).val] w (WantAt w mb p g c o (K.act (QO.mk 5 xa xb xe))):=by
 rw [show K.act (QO.mk 5 xa xb xe) = (⟨(newN K.d.restart).1,(newN K.d.restart).2.1⟩,⟨0,(newN K.d.restart).2.2.1,(newN K.d.restart).2.2.2⟩) from rfl]
 obtain ⟨ob,hob⟩ : ∃ ob,w.heap.size = ob:=⟨_,rfl⟩
 have hF:=wf3_new (o:=o) (p:=p) (QO.mk 5 xa xb xe) hob hm
 dsimp only [opX] at hF
 have hml : mb < ob:=by rw [← hob];exact hm.lt
 have hlo : ∀ j,XKF o p g j → j < ob:=fun j hj => by rw [← hob];exact h.lt hj
 have hbw:=ext_alloc (ext_alloc (ext_new w (.cells (opC 5 xa xb xe) 25)) (.cells sdA 48)) (.cells sdA 48)
 have hX:=h.below hbw
 have HML:=Lib.hid hml
 obtain ⟨e0,-⟩:=hF.mod.c2
 obtain ⟨j0,j1,j2,j3,j4,j5,j6,j7,j8,j9⟩:=op_cells hF.op
 have HF:=Lib.hid hF
 have HX:=Lib.hid hX
 have HOK:=Lib.hid hok
 have cR:=RRestart_any hX.disk
 have hnd : K.d.restart.n ≤ 930000:=hn
 unfold QO.val
 dsimp only
 clear h hm hF hX hbw hok hn
 go_enter Tryz.func20,Tryz.ntmps20
 go_wp2_with fail
 have hFd:=HF.out
 have hXd:=HX.out
 clear HF HX e0 j0 j1 j2 j3 j4 j5 j6 j7 j8 j9
 generalize ((w.alloc (.cells (opC 5 xa xb xe) 25)).alloc (.cells sdA 48)).alloc (.cells sdA 48) = W at *
 with_reducible refine cR.mono ?_
 rintro ev w2 ⟨rfl,⟨k2,hd2⟩,hb2⟩
 have hf2:=but2_xkf (o:=o) hb2
 obtain ⟨m2,o2,res2,r2'⟩:=hFd.foot hf2 hnk hlo
 obtain ⟨e0,-⟩:=m2.c2
 obtain ⟨j0,j1,j2,j3,j4,j5,j6,j7,j8,j9⟩:=op_cells o2
 clear cR hb2
 go_wp2_with fail
 have hnd2:=hnd
 have cN:=xnew_any hd2 hnd2
 have hfi:=hd2.fit
 with_reducible refine cN.mono ?_
 intro ev w4 hNw
 obtain ⟨o',A7,c7,rfl,hown,hpw⟩:=xpair_new (o:=o) hNw hfi
 obtain ⟨rr,hrr⟩ : ∃ rr,newN K.d.restart = rr:=⟨_,rfl⟩
 rw [hrr] at hown hpw ⊢
 have HRR:=Lib.hid hrr
 obtain ⟨nd,nq,nl,ne⟩:=rr
 dsimp only at hown hpw ⊢
 obtain ⟨u,hu⟩ : ∃ u,xPtr o' = .pointer u:=by cases o' <;> exact ⟨_,rfl⟩
 rw [hu]
 have m4:=m2.kept (hpw.foot.block mb m2.lt hnk)
 have res4:=res2.kept (hpw.foot.block _ res2.lt fun q => by have:=hlo _ q;omega)
 have r4:=r2'.kept (hpw.foot.block _ r2'.lt fun q => by have:=hlo _ q;omega)
 obtain ⟨e0,e1,ef0,ef1⟩:=m4.c2
 obtain ⟨s0,s1,s2,sf0,sf1,sf2⟩:=r4.c3
 obtain ⟨r0,r1,r2,rf0,rf1,rf2⟩:=res4.c3
 have hml:=HML.out
 have hne : ¬ mb = ob + 1 + 1:=by omega
 have hne2 : ¬ ob + 1 + 1 = mb:=by omega
 have hne3 : ¬ mb = ob + 1:=by omega
 have hne4 : ¬ ob + 1 = mb:=by omega
 have HRES:=Lib.hid (show Blk (((((((w4).setCell ⟨mb,1,none⟩ (.pointer u)).setCell ⟨ob + 1 + 1,1,none⟩ (.slice A7 nl.length c7)).setCell ⟨ob + 1 + 1,2,none⟩ (.int .i64 ne)).setCell ⟨ob + 1,0,none⟩ (.int .i64 0)).setCell ⟨ob + 1,1,none⟩ (.slice A7 nl.length c7)).setCell ⟨ob + 1,2,none⟩ (.int .i64 ne)) (ob + 1) 48 #[.int .i64 0,.slice A7 nl.length c7,.int .i64 ne] from ((((((res4.set_other (g':=mb) (by omega) 1 (.pointer u)).set_other (g':=ob + 1 + 1) (by omega) 1 (.slice A7 nl.length c7)).set_other (g':=ob + 1 + 1) (by omega) 2 (.int .i64 ne)).set_ 0 (.int .i64 0)).set_ 1 (.slice A7 nl.length c7)).set_ 2 (.int .i64 ne)))
 have HWT:=Lib.hid (show WantAt w mb p g c o (⟨nd,nq⟩,⟨0,nl,ne⟩) (.returned (.agg #[.int .i64 0,.slice A7 nl.length c7,.int .i64 ne])) (((((((w4).setCell ⟨mb,1,none⟩ (.pointer u)).setCell ⟨ob + 1 + 1,1,none⟩ (.slice A7 nl.length c7)).setCell ⟨ob + 1 + 1,2,none⟩ (.int .i64 ne)).setCell ⟨ob + 1,0,none⟩ (.int .i64 0)).setCell ⟨ob + 1,1,none⟩ (.slice A7 nl.length c7)).setCell ⟨ob + 1,2,none⟩ (.int .i64 ne)) from
  want_fin (o':=o') (r:=(⟨nd,nq⟩,⟨0,nl,ne⟩)) (w6:=w4) (A:=A7) (c':=c7) hob hFd.bel hFd.size (hpw.pre hf2) (by rw [hu];exact ((((((m4.set_ 1 (.pointer u)).set_other (g':=ob + 1 + 1) (by omega) 1 (.slice A7 nl.length c7)).set_other (g':=ob + 1 + 1) (by omega) 2 (.int .i64 ne)).set_other (g':=ob + 1) (by omega) 0 (.int .i64 0)).set_other (g':=ob + 1) (by omega) 1 (.slice A7 nl.length c7)).set_other (g':=ob + 1) (by omega) 2 (.int .i64 ne))) hml hnk hlo (own_base hown (by rw [← hFd.size];exact hf2.size)) (fun j a b c => (set_heap b).trans ((set_heap b).trans ((set_heap b).trans ((set_heap c).trans ((set_heap c).trans (set_heap a)))))) (same4_set (same4_set (same4_set (same4_set (same4_set (same4_set (same4_refl _) _ _) _ _) _ _) _ _) _ _) _ _))
 clear hpw m2 o2 res2 r2' m4 res4 r4 hFd hXd hown hNw cN hd2 hf2 hfi
 clear j0 j1 j2 j3 j4 j5 j6 j7 j8 j9
 go_wp2_with fail
 refine bodyPost_ret (v:=_) (ret_said (pt:=4) (by kernel_rfl) rfl HRES.out) rfl ?_
 rw [HRR.out]
 exact HWT.out
set_option maxRecDepth 100000 in
theorem want_6 (xa xb : Int) (xe : EI) (h : XPair w p g c k o K) (hm : Blk w mb 45 #[.pointer (some ⟨p,0,none⟩),xPtr o]) (hnk : ¬ XKF o p g mb) (hok : (QO.mk 6 xa xb xe).Ok) (hn : K.d.n ≤ 930000) :
  Calls Tryz.prog 20 #[.pointer (some ⟨mb,0,none⟩),(QO.mk 6 xa xb xe).val] w (WantAt w mb p g c o (K.act (QO.mk 6 xa xb xe))):=by
 rw [show K.act (QO.mk 6 xa xb xe) = (⟨(newN (K.d.restart.arm xa xb).1).1,(newN (K.d.restart.arm xa xb).1).2.1⟩,⟨0,(newN (K.d.restart.arm xa xb).1).2.2.1,(newN (K.d.restart.arm xa xb).1).2.2.2⟩) from rfl]
 obtain ⟨ob,hob⟩ : ∃ ob,w.heap.size = ob:=⟨_,rfl⟩
 have hF:=wf3_new (o:=o) (p:=p) (QO.mk 6 xa xb xe) hob hm
 dsimp only [opX] at hF
 have hml : mb < ob:=by rw [← hob];exact hm.lt
 have hlo : ∀ j,XKF o p g j → j < ob:=fun j hj => by rw [← hob];exact h.lt hj
 have hbw:=ext_alloc (ext_alloc (ext_new w (.cells (opC 6 xa xb xe) 25)) (.cells sdA 48)) (.cells sdA 48)
 have hX:=h.below hbw
 have HML:=Lib.hid hml
 obtain ⟨e0,-⟩:=hF.mod.c2
 obtain ⟨j0,j1,j2,j3,j4,j5,j6,j7,j8,j9⟩:=op_cells hF.op
 have HF:=Lib.hid hF
 have HX:=Lib.hid hX
 have HOK:=Lib.hid hok
 have cR:=RRestart_any hX.disk
 have hnd : K.d.restart.n ≤ 930000:=hn
 unfold QO.val
 dsimp only
 clear h hm hF hX hbw hok hn
 go_enter Tryz.func20,Tryz.ntmps20
 go_wp2_with fail
 have hFd:=HF.out
 have hXd:=HX.out
 clear HF HX e0 j0 j1 j2 j3 j4 j5 j6 j7 j8 j9
 generalize ((w.alloc (.cells (opC 6 xa xb xe) 25)).alloc (.cells sdA 48)).alloc (.cells sdA 48) = W at *
 with_reducible refine cR.mono ?_
 rintro ev w2 ⟨rfl,⟨k2,hd2⟩,hb2⟩
 have hf2:=but2_xkf (o:=o) hb2
 obtain ⟨m2,o2,res2,r2'⟩:=hFd.foot hf2 hnk hlo
 obtain ⟨e0,-⟩:=m2.c2
 obtain ⟨j0,j1,j2,j3,j4,j5,j6,j7,j8,j9⟩:=op_cells o2
 clear cR hb2
 go_wp2_with fail
 clear e0 j0 j1 j2 j3 j4 j5 j6 j7 j8 j9 res2 r2'
 have hS2 : Blk w2.drew mb 45 #[.pointer (some ⟨p,0,none⟩),xPtr o] ∧ Blk w2.drew ob 25 (opC 6 xa xb xe):=⟨m2,o2⟩
 have hd2d:=hd2.below ((Below.refl _ w2).drew)
 have hf2d:=hf2.ext ((Below.refl _ w2).drew)
 clear hd2 hf2 m2 o2
 refine wp_region_held_drew (S:=fun V => Blk V mb 45 #[.pointer (some ⟨p,0,none⟩),xPtr o] ∧ Blk V ob 25 (opC 6 xa xb xe)) (by kernel_rfl) hS2 (fun hHeld => ?_)
 generalize w2.drew = W0 at *
 clear hS2
 have cC:=RArm_any xa xb hd2d HOK.out.2.2
 refine tk_ 0 92 rfl rfl ?_
 refine tk_ 1 93 rfl rfl ?_
 refine tk_ 2 94 rfl rfl ?_
 refine tk_ 3 95 rfl rfl ?_ (fun wx hSx => by obtain ⟨e0,-⟩:=hSx.1.c2;go_simp;try with_reducible rfl)
 refine tk_ 4 96 rfl rfl ?_
 refine tk_ 5 97 rfl rfl ?_ (fun wx hSx => by obtain ⟨j0,j1,j2,j3,j4,j5,j6,j7,j8,j9⟩:=op_cells hSx.2;go_simp;try with_reducible rfl)
 refine tk_ 6 98 rfl rfl ?_
 refine tk_ 7 99 rfl rfl ?_ (fun wx hSx => by obtain ⟨j0,j1,j2,j3,j4,j5,j6,j7,j8,j9⟩:=op_cells hSx.2;go_simp;try with_reducible rfl)
 refine rdy1 8 rfl ?_
 intro KK hKK
 go_simp
 with_reducible refine cC.mono ?_
 rintro ev w3 ⟨rfl,⟨k3,hd2⟩,hb3⟩
 have hf2:=hf2d.trans (but2_xkf (o:=o) hb3) (fun _ q => .inl q)
 obtain ⟨m2,o2,res2,r2'⟩:=hFd.foot hf2 hnk hlo
 try go_wp2_with fail
 refine hKK.out _ _ ⟨m2,o2⟩ (fun hHeld => ?_)
 clear hKK KK cC hHeld hb3 hf2d
 have hfit:=DN.arm_fit hd2d.fit xa xb
 have hnd2 : (K.d.restart.arm xa xb).1.n ≤ 930000:=by
  have : (K.d.restart.arm xa xb).1.n = K.d.restart.n:=by unfold DN.arm;split <;> rfl
  omega
 clear hd2d hfit
 obtain ⟨e0,-⟩:=m2.c2
 refine wpAnyH_done (by kernel_rfl) ?_ _
 try simp only [Act.put,List.setIfInBounds_toArray,List.set_cons_succ,List.set_cons_zero]
 go_wp2_with fail
 have cN:=xnew_any hd2 hnd2
 have hfi:=hd2.fit
 with_reducible refine cN.mono ?_
 intro ev w4 hNw
 obtain ⟨o',A7,c7,rfl,hown,hpw⟩:=xpair_new (o:=o) hNw hfi
 obtain ⟨rr,hrr⟩ : ∃ rr,newN (K.d.restart.arm xa xb).1 = rr:=⟨_,rfl⟩
 rw [hrr] at hown hpw ⊢
 have HRR:=Lib.hid hrr
 obtain ⟨nd,nq,nl,ne⟩:=rr
 dsimp only at hown hpw ⊢
 obtain ⟨u,hu⟩ : ∃ u,xPtr o' = .pointer u:=by cases o' <;> exact ⟨_,rfl⟩
 rw [hu]
 have m4:=m2.kept (hpw.foot.block mb m2.lt hnk)
 have res4:=res2.kept (hpw.foot.block _ res2.lt fun q => by have:=hlo _ q;omega)
 have r4:=r2'.kept (hpw.foot.block _ r2'.lt fun q => by have:=hlo _ q;omega)
 obtain ⟨e0,e1,ef0,ef1⟩:=m4.c2
 obtain ⟨s0,s1,s2,sf0,sf1,sf2⟩:=r4.c3
 obtain ⟨r0,r1,r2,rf0,rf1,rf2⟩:=res4.c3
 have hml:=HML.out
 have hne : ¬ mb = ob + 1 + 1:=by omega
 have hne2 : ¬ ob + 1 + 1 = mb:=by omega
 have hne3 : ¬ mb = ob + 1:=by omega
 have hne4 : ¬ ob + 1 = mb:=by omega
 have HRES:=Lib.hid (show Blk (((((((w4).setCell ⟨mb,1,none⟩ (.pointer u)).setCell ⟨ob + 1 + 1,1,none⟩ (.slice A7 nl.length c7)).setCell ⟨ob + 1 + 1,2,none⟩ (.int .i64 ne)).setCell ⟨ob + 1,0,none⟩ (.int .i64 0)).setCell ⟨ob + 1,1,none⟩ (.slice A7 nl.length c7)).setCell ⟨ob + 1,2,none⟩ (.int .i64 ne)) (ob + 1) 48 #[.int .i64 0,.slice A7 nl.length c7,.int .i64 ne] from ((((((res4.set_other (g':=mb) (by omega) 1 (.pointer u)).set_other (g':=ob + 1 + 1) (by omega) 1 (.slice A7 nl.length c7)).set_other (g':=ob + 1 + 1) (by omega) 2 (.int .i64 ne)).set_ 0 (.int .i64 0)).set_ 1 (.slice A7 nl.length c7)).set_ 2 (.int .i64 ne)))
 have HWT:=Lib.hid (show WantAt w mb p g c o (⟨nd,nq⟩,⟨0,nl,ne⟩) (.returned (.agg #[.int .i64 0,.slice A7 nl.length c7,.int .i64 ne])) (((((((w4).setCell ⟨mb,1,none⟩ (.pointer u)).setCell ⟨ob + 1 + 1,1,none⟩ (.slice A7 nl.length c7)).setCell ⟨ob + 1 + 1,2,none⟩ (.int .i64 ne)).setCell ⟨ob + 1,0,none⟩ (.int .i64 0)).setCell ⟨ob + 1,1,none⟩ (.slice A7 nl.length c7)).setCell ⟨ob + 1,2,none⟩ (.int .i64 ne)) from
  want_fin (o':=o') (r:=(⟨nd,nq⟩,⟨0,nl,ne⟩)) (w6:=w4) (A:=A7) (c':=c7) hob hFd.bel hFd.size (hpw.pre hf2) (by rw [hu];exact ((((((m4.set_ 1 (.pointer u)).set_other (g':=ob + 1 + 1) (by omega) 1 (.slice A7 nl.length c7)).set_other (g':=ob + 1 + 1) (by omega) 2 (.int .i64 ne)).set_other (g':=ob + 1) (by omega) 0 (.int .i64 0)).set_other (g':=ob + 1) (by omega) 1 (.slice A7 nl.length c7)).set_other (g':=ob + 1) (by omega) 2 (.int .i64 ne))) hml hnk hlo (own_base hown (by rw [← hFd.size];exact hf2.size)) (fun j a b c => (set_heap b).trans ((set_heap b).trans ((set_heap b).trans ((set_heap c).trans ((set_heap c).trans (set_heap a)))))) (same4_set (same4_set (same4_set (same4_set (same4_set (same4_set (same4_refl _) _ _) _ _) _ _) _ _) _ _) _ _))
 clear hpw m2 o2 res2 r2' m4 res4 r4 hFd hXd hown hNw cN hd2 hf2 hfi
 go_wp2_with fail
 refine bodyPost_ret (v:=_) (ret_said (pt:=4) (by kernel_rfl) rfl HRES.out) rfl ?_
 rw [HRR.out]
 exact HWT.out
set_option maxRecDepth 100000 in
theorem want_other (x : QO) (hx : x.kind < 0 ∨ 6 < x.kind) (h : XPair w p g c k o K) (hm : Blk w mb 45 #[.pointer (some ⟨p,0,none⟩),xPtr o]) (hnk : ¬ XKF o p g mb) :
  Calls Tryz.prog 20 #[.pointer (some ⟨mb,0,none⟩),x.val] w (WantAt w mb p g c o (K.act x)):=by
 rw [act_other K x hx]
 obtain ⟨ob,hob⟩ : ∃ ob,w.heap.size = ob:=⟨_,rfl⟩
 have hF:=wf3_new (o:=o) (p:=p) x hob hm
 have hml : mb < ob:=by rw [← hob];exact hm.lt
 have hlo : ∀ j,XKF o p g j → j < ob:=fun j hj => by rw [← hob];exact h.lt hj
 obtain ⟨xk,xa,xb,⟨y0,y1,y2,y3,y4,y5,y6⟩⟩:=x
 dsimp only at hx hF
 have hbw:=ext_alloc (ext_alloc (ext_new w (.cells #[.int .i64 xk,.int .i64 xa,.int .i64 xb,.int .i64 y0,.int .i64 y1,.string y2,.string y3,.int .i64 y4,.bool y5,.bool y6] 25)) (.cells sdA 48)) (.cells sdA 48)
 have hp:=h.below hbw
 have HRES:=Lib.hid hF.res
 have HWT:=Lib.hid (show WantAt w mb p g c o (K,⟨0,[],0⟩) (.returned (.agg sdA)) (((w.alloc (.cells #[.int .i64 xk,.int .i64 xa,.int .i64 xb,.int .i64 y0,.int .i64 y1,.string y2,.string y3,.int .i64 y4,.bool y5,.bool y6] 25)).alloc (.cells sdA 48)).alloc (.cells sdA 48)) from
  want_fin (o':=o) (r:=(K,⟨0,[],0⟩)) hob hF.bel hF.size ⟨⟨k,hp⟩,Foot.refl _ _,fun j hj => .inl hj⟩ hF.mod hml hnk hlo own_nil (fun j a b c => rfl) (same4_refl _))
 have n0 : ¬ xk = 0:=by omega
 have n1 : ¬ xk = 1:=by omega
 have n2 : ¬ xk = 2:=by omega
 have n3 : ¬ xk = 3:=by omega
 have n4 : ¬ xk = 4:=by omega
 have n5 : ¬ xk = 5:=by omega
 have n6 : ¬ xk = 6:=by omega
 unfold QO.val
 dsimp only
 clear h hm hF hlo hp hbw
 rcases hx with hx | hx
 ·have g0 : ¬ xk ≥ 0:=by omega
  clear hx;go_enter Tryz.func20,Tryz.ntmps20;go_wp2_with fail
  refine bodyPost_ret (v:=_) (ret_said (pt:=4) (by kernel_rfl) rfl HRES.out) rfl ?_;exact HWT.out
 ·have g0 : xk ≥ 0:=by omega
  have g1 : ¬ xk ≤ 3:=by omega
  clear hx;go_enter Tryz.func20,Tryz.ntmps20;go_wp2_with fail
  refine bodyPost_ret (v:=_) (ret_said (pt:=4) (by kernel_rfl) rfl HRES.out) rfl ?_;exact HWT.out
theorem mwant_any (x : QO) (h : XPair w p g c k o K) (hm : Blk w mb 45 #[.pointer (some ⟨p,0,none⟩),xPtr o]) (hnk : ¬ XKF o p g mb) (hok : x.Ok) (hn : K.d.n ≤ 930000) :
  Calls Tryz.prog 20 #[.pointer (some ⟨mb,0,none⟩),x.val] w (WantAt w mb p g c o (K.act x)):=by
 by_cases hr : x.kind < 0 ∨ 6 < x.kind
 ·exact want_other x hr h hm hnk
 by_cases h3 : x.kind ≤ 3
 ·cases hq : K.q with
  | none =>
   have ho:=h.none_ hq;subst ho;exact want_none x h hm hnk (by omega) h3 hq
  | some q =>
   obtain ⟨b,v,rfl,h1,h2,h4⟩:=h.some_ q hq;obtain ⟨xk,xa,xb,xe⟩:=x;dsimp only at h3 hr;have hc : xk = 0 ∨ xk = 1 ∨ xk = 2 ∨ xk = 3:=by omega
   rcases hc with rfl | rfl | rfl | rfl
   ·exact want_0 xa xb xe hq h1 h2 hm hnk hok (by rw [h4];exact hn)
   ·exact want_1 xa xb xe hq h1 h2 hm hnk hok (by rw [h4];exact hn)
   ·exact want_2 xa xb xe hq h1 h2 hm hnk hok (by rw [h4];exact hn)
   ·exact want_3 xa xb xe hq h1 h2 hm hnk hok (by rw [h4];exact hn)
 ·obtain ⟨xk,xa,xb,xe⟩:=x
  dsimp only at h3 hr;have hc : xk = 4 ∨ xk = 5 ∨ xk = 6:=by omega
  rcases hc with rfl | rfl | rfl
  ·exact want_4 xa xb xe h hm hnk hok hn
  ·exact want_5 xa xb xe h hm hnk hok hn
  ·exact want_6 xa xb xe h hm hnk hok hn
set_option maxRecDepth 100000 in
theorem mentries_any (h : XPair w p g c k o K) :
  Calls Tryz.prog 23 #[xPtr o] w fun e w' => w' = w ∧ ∃ A c',e = .returned (.slice A ((K.q.map fun q => q.s.L).getD []).length c') ∧ RowE w A ((K.q.map fun q => q.s.L).getD []):=by
 cases hq : K.q with
 | none =>
  rw [h.none_ hq];unfold xPtr;dsimp only;clear h;go_enter Tryz.func23,Tryz.ntmps23;go_wp2_with fail
  go_ret;exact ⟨rfl,none,0,rfl,fun hp => by simp at hp⟩
 | some q =>
  obtain ⟨b,v,rfl,h1,h2,h4⟩:=h.some_ q hq;obtain ⟨AL,AK,cL,cK,rfl,hS⟩:=h2.xs;have x1:=hS.l;have HE:=Lib.hid hS.ents;unfold xPtr;show Calls _ _ _ _ fun e w' => w' = w ∧ ∃ A c',e = .returned (.slice A q.s.L.length c') ∧ RowE w A q.s.L;dsimp only;clear h h1 h2 h4 hq hS;generalize q.s.L.length = n at *;go_enter Tryz.func23,Tryz.ntmps23;go_wp2_with fail
  go_ret;exact ⟨rfl,AL,cL,rfl,HE.out⟩
set_option maxRecDepth 100000 in
theorem mkeys_any (h : XPair w p g c k o K) :
  Calls Tryz.prog 26 #[xPtr o] w fun e w' => ∃ V,e = .returned V ∧ w'.ownsRow w.heap.size 9 1 V ((K.q.map fun q => txtsOf q.s.K).getD []).length (((K.q.map fun q => txtsOf q.s.K).getD []).map (.string ·)) ∧ Below w.heap.size w w':=by
 cases hq : K.q with
 | none =>
  rw [h.none_ hq];unfold xPtr;dsimp only;clear h;go_enter Tryz.func26,Tryz.ntmps26;go_wp2_with fail
  go_ret;exact ⟨_,rfl,own_nil,ext_refl _⟩
 | some q =>
  obtain ⟨b,v,rfl,h1,h2,h4⟩:=h.some_ q hq;obtain ⟨AL,AK,cL,cK,rfl,hS⟩:=h2.xs;have cK:=xkeys_any hS h1.ok;rw [show q.s.K.length = (txtsOf q.s.K).length from (txts_length _).symm] at cK;unfold xPtr;show Calls _ _ _ _ fun e w' => ∃ V,e = .returned V ∧ w'.ownsRow w.heap.size 9 1 V (txtsOf q.s.K).length ((txtsOf q.s.K).map (.string ·)) ∧ Below w.heap.size w w';dsimp only;clear h h1 h2 h4 hq hS;generalize txtsOf q.s.K = ts at *;go_enter Tryz.func26,Tryz.ntmps26;go_wp2_with fail
  with_reducible refine cK.mono ?_
  rintro e w1 ⟨V,rfl,hown,hb⟩;obtain ⟨A,c1,rfl⟩:=own_form hown;go_wp2_with fail
  go_ret;exact ⟨_,rfl,hown,hb⟩
def KN.ents (K : KN) : List EI := (K.q.map fun q => q.s.L).getD []
def KN.txts (K : KN) : List ByteArray := (K.q.map fun q => txtsOf q.s.K).getD []
theorem pents_any {o : Option (QC × QV)} (h : PairAt w p g o K) :
  Calls Tryz.prog 22 #[qPtr o] w fun e w' => ∃ A c',e = .returned (.slice A K.ents.length c') ∧ RowE w' A K.ents ∧ Below w.heap.size w w':=by
 obtain ⟨d,q⟩:=K
 cases q with
 | none =>
  rw [h.none_ rfl];refine (entries_nil w).mono ?_;rintro e w' ⟨rfl,rfl⟩;exact ⟨none,0,rfl,fun hp => absurd hp (Nat.lt_irrefl 0),ext_refl _⟩
 | some q =>
  refine (play_entries h).mono ?_;rintro e w' ⟨V,rfl,hown,hb⟩;obtain ⟨-,A,c',rfl,hr⟩:=rowE_own hown;exact ⟨A,c',rfl,hr,hb⟩
theorem pkeys_any {o : Option (QC × QV)} (h : PairAt w p g o K) :
  Calls Tryz.prog 25 #[qPtr o] w fun e w' => ∃ A c',e = .returned (.slice A K.txts.length c') ∧ RowAt w' A (K.txts.map (.string ·)) ∧ Below w.heap.size w w':=by
 obtain ⟨d,q⟩:=K
 cases q with
 | none =>
  rw [h.none_ rfl];refine (keys_nil w).mono ?_;rintro e w' ⟨rfl,rfl⟩;exact ⟨none,0,rfl,fun hp => absurd hp (Nat.lt_irrefl 0),ext_refl _⟩
 | some q =>
  refine (play_keys h).mono ?_;rintro e w' ⟨V,rfl,hown,hb⟩;obtain ⟨A,c',rfl,hr⟩:=row_own hown;refine ⟨A,c',?_,hr,hb⟩;show Ending.returned (.slice A q.s.K.length c') = .returned (.slice A (txtsOf q.s.K).length c');rw [txts_length]
theorem xents_any (h : XPair w p g c k o K) :
  Calls Tryz.prog 23 #[xPtr o] w fun e w' => ∃ A c',e = .returned (.slice A K.ents.length c') ∧ RowE w' A K.ents ∧ Below w.heap.size w w':=by
 refine (mentries_any h).mono ?_
 rintro e w' ⟨rfl,A,c',rfl,hr⟩
 exact ⟨A,c',rfl,hr,ext_refl _⟩
theorem xtxts_any (h : XPair w p g c k o K) :
  Calls Tryz.prog 26 #[xPtr o] w fun e w' => ∃ A c',e = .returned (.slice A K.txts.length c') ∧ RowAt w' A (K.txts.map (.string ·)) ∧ Below w.heap.size w w':=by
 refine (mkeys_any h).mono ?_
 rintro e w' ⟨V,rfl,hown,hb⟩
 obtain ⟨A,c',rfl,hr⟩:=row_own hown
 exact ⟨A,c',rfl,hr,hb⟩
theorem PairAt.small {o : Option (QC × QV)} (h : PairAt w p g o K) : K.ents.length ≤ 1000 ∧ K.txts.length ≤ 1000 := by
 obtain ⟨d,q⟩:=K
 cases q with
 | none => exact ⟨Nat.zero_le _,Nat.zero_le _⟩
 | some q =>
  obtain ⟨c,v,q',-,h2,h3,-,-⟩:=h.some_ q rfl;have:=h3.ok.len;have:=h3.ok.most;exact ⟨by show q.s.L.length ≤ 1000;omega,by show (txtsOf q.s.K).length ≤ 1000;rw [txts_length];omega⟩
structure Duo (w0 : World) (p g p' g' c' kb mb : Nat) (K1 K2 : KN) (o : Option (QC × QV)) (o' : Option (Nat × XV)) (W : World) : Prop where
 one : QPlay w0 p g o K1 W
 two : ∃ k',XPair W p' g' c' k' o' K2
 desk : Blk W kb 41 #[.pointer (some ⟨p,0,none⟩),qPtr o]
 mod : Blk W mb 45 #[.pointer (some ⟨p',0,none⟩),xPtr o']
 n1 : ¬ KF o p g kb ∧ ¬ KF o p g mb
 n2 : ¬ XKF o' p' g' kb ∧ ¬ XKF o' p' g' mb
 ne : kb ≠ mb
 ap : ∀ j,XKF o' p' g' j → w0.heap.size ≤ j ∧ ¬ KF o p g j
 lo : w0.heap.size ≤ kb ∧ w0.heap.size ≤ mb
theorem Duo.below {W' : World} {o : Option (QC × QV)} (h : Duo w0 p g p' g' c' kb mb K1 K2 o o' W) (hb : Below W.heap.size W W') : Duo w0 p g p' g' c' kb mb K1 K2 o o' W' := by
 obtain ⟨k',h2⟩:=h.two
 exact ⟨h.one.ext hb,⟨k',h2.below hb⟩,h.desk.below hb,h.mod.below hb,h.n1,h.n2,h.ne,h.ap,h.lo⟩
def Beside (p g p' g' kb mb : Nat) (o : Option (QC × QV)) (o' : Option (Nat × XV)) (j : Nat) : Prop := j ≠ kb ∧ j ≠ mb ∧ ¬ KF o p g j ∧ ¬ XKF o' p' g' j
theorem Duo.do_ {o : Option (QC × QV)} {S : Prop} (h : Duo w0 p g p' g' c' kb mb K1 K2 o o' W) (hD : DoAt S W kb p g o r e W1) :
  ∃ o2 A c1,e = .returned (.agg #[.int .i64 r.2.n,.slice A r.2.lost.length c1,.int .i64 r.2.err]) ∧ W1.ownsRow W.heap.size 23 7 (.slice A r.2.lost.length c1) r.2.lost.length (cellsE r.2.lost) ∧ Duo w0 p g p' g' c' kb mb r.1 K2 o2 o' W1 ∧ W.heap.size ≤ W1.heap.size ∧ ∀ j,j < W.heap.size → Beside p g p' g' kb mb o o' j → W1.heap[j]? = W.heap[j]? ∧ Beside p g p' g' kb mb o2 o' j:=by
 obtain ⟨⟨o2,lv,rfl,h2,h3,h4,h5,-⟩,h7⟩:=hD
 obtain ⟨A,c1,rfl⟩:=own_form h2
 obtain ⟨k',hx⟩:=h.two
 have hkf : ∀ j,j < W.heap.size → ¬ KF o p g j → ¬ KF o2 p g j:=fun j hj hn q => (h5 j q).elim hn fun e => Nat.lt_irrefl _ (Nat.lt_of_lt_of_le hj e)
 have hsz:=h7.size
 refine ⟨o2,A,c1,rfl,h2,⟨⟨h4,below_foot h.one.bel h7 (fun i hi => hi.elim (fun q => by rw [q];exact h.lo.1) (h.one.new_ i)) h.one.bel.size,fun j hj => (h5 j hj).elim (h.one.new_ j) fun q => Nat.le_trans h.one.bel.size q⟩,⟨k',hx.kept fun j hj => h7.block j (hx.lt hj) fun q => q.elim (fun q => h.n2.1 (q ▸ hj)) (h.ap j hj).2⟩,h3,h.mod.kept (h7.block mb h.mod.lt fun q => q.elim (fun q => h.ne q.symm) h.n1.2),⟨hkf _ h.desk.lt h.n1.1,hkf _ h.mod.lt h.n1.2⟩,h.n2,h.ne,fun j hj => ⟨(h.ap j hj).1,hkf j (hx.lt hj) (h.ap j hj).2⟩,h.lo⟩,hsz,fun j hj ⟨b1,b2,b3,b4⟩ => ⟨h7.block j hj fun q => q.elim b1 b3,b1,b2,hkf j hj b3,b4⟩⟩
theorem Duo.want_ {o : Option (QC × QV)} (h : Duo w0 p g p' g' c' kb mb K1 K2 o o' W) (hD : WantAt W mb p' g' c' o' r e W1) :
  ∃ o2 A c1,e = .returned (.agg #[.int .i64 r.2.n,.slice A r.2.lost.length c1,.int .i64 r.2.err]) ∧ W1.ownsRow W.heap.size 23 7 (.slice A r.2.lost.length c1) r.2.lost.length (cellsE r.2.lost) ∧ Duo w0 p g p' g' c' kb mb K1 r.1 o o2 W1 ∧ W.heap.size ≤ W1.heap.size ∧ ∀ j,j < W.heap.size → Beside p g p' g' kb mb o o' j → W1.heap[j]? = W.heap[j]? ∧ Beside p g p' g' kb mb o o2 j:=by
 obtain ⟨⟨o2,A,c1,k2,rfl,h2,h3,h4,h5⟩,h7⟩:=hD
 have hkf : ∀ j,j < W.heap.size → ¬ XKF o' p' g' j → ¬ XKF o2 p' g' j:=fun j hj hn q => (h5 j q).elim hn fun e => Nat.lt_irrefl _ (Nat.lt_of_lt_of_le hj e)
 have hsz:=h7.size
 have hKF : ∀ j,KF o p g j → j < W.heap.size ∧ j ≠ mb ∧ ¬ XKF o' p' g' j:=fun j hj => ⟨h.one.at_.lt hj,fun q => h.n1.2 (q ▸ hj),fun q => (h.ap j q).2 hj⟩
 have hF0 : ∀ i,(i = mb ∨ XKF o' p' g' i) → w0.heap.size ≤ i:=fun i hi => hi.elim (fun q => by rw [q];exact h.lo.2) fun q => (h.ap i q).1
 refine ⟨o2,A,c1,rfl,h2,⟨⟨h.one.at_.kept fun j hj => h7.block j (hKF j hj).1 fun q => q.elim (hKF j hj).2.1 (hKF j hj).2.2,below_foot h.one.bel h7 hF0 h.one.bel.size,h.one.new_⟩,⟨k2,h4⟩,h.desk.kept (h7.block kb h.desk.lt fun q => q.elim h.ne h.n2.1),h3,h.n1,⟨hkf _ h.desk.lt h.n2.1,hkf _ h.mod.lt h.n2.2⟩,h.ne,fun j hj => ?_,h.lo⟩,hsz,fun j hj ⟨b1,b2,b3,b4⟩ => ⟨h7.block j hj fun q => q.elim b2 b4,b1,b2,b3,hkf j hj b4⟩⟩
 rcases h5 j hj with q | q
 ·exact h.ap j q
 ·exact ⟨Nat.le_trans h.one.bel.size q,fun e => Nat.lt_irrefl _ (Nat.lt_of_lt_of_le (h.one.at_.lt e) q)⟩
end Go.Proofs.YtmebjdbkngehiaaGreatDoor
