/-
  A desk's call (do): the disk's Arm, a new queue, and what is no call. Conditions: as the theorems' own hypotheses say. A desk's call (do), whatever it is. Conditions: as the theorem's own hypotheses say.
-/
import Derived.Test.YtmebjdbkngehiaaGreatDoorQvS
namespace Go.Proofs.YtmebjdbkngehiaaGreatDoor
open Go.RowKit Go.Shelf
set_option maxHeartbeats 8000000
variable {w w2 : World} {p g kb : Nat} {o : Option (QC × QV)} {k : KN} {aA aT aN aW aS : Addr} {d : DN}
theorem pair_arm (a b : Int) (e : EI) (h : PairAt w p g o k) (hG : Glb (KF o p g) aA aT aN aW aS w) (ha : a ≤ 9223372036854775807) :
  Calls Tryz.prog 35 #[.pointer (some ⟨p,0,none⟩),.int .i64 a,.int .i64 b] w fun ev w' => ev = .returned (.int .i64 (k.act (QO.mk 4 a b e)).2.err) ∧ (k.act (QO.mk 4 a b e)).2.n = 0 ∧ ∃ o',PairWent w p g o (k.act (QO.mk 4 a b e)).1 o' w' ∧ qPtr o' = qPtr o:=by
 refine (Arm_any a b h.disk hG.here.d.s ha).mono ?_
 rintro ev w' ⟨rfl,hd,hb⟩
 exact ⟨rfl,rfl,o,pair_turn h hd hb (DN.arm_fit h.disk.fit a b).2.1 (arm_down k.d a b),rfl⟩
set_option maxRecDepth 100000 in
theorem do_4 (xa xb : Int) (xe : EI) (h : PairAt w p g o k) (hk : Blk w kb 41 #[.pointer (some ⟨p,0,none⟩),qPtr o]) (hnk : ¬ KF o p g kb) (hG : Glb (KF o p g) aA aT aN aW aS w) (hok : (QO.mk 4 xa xb xe).Ok) (_hn : k.d.n + 600 ≤ 1000000) :
  Calls Tryz.prog 19 #[.pointer (some ⟨kb,0,none⟩),(QO.mk 4 xa xb xe).val] w (DoAt False w kb p g o (k.act (QO.mk 4 xa xb xe))):=by
 obtain ⟨ob,hob⟩ : ∃ ob,w.heap.size = ob:=⟨_,rfl⟩
 have hb : Below w.heap.size w (((w.alloc (.cells (opC 4 xa xb xe) 25)).alloc (.cells sdA 48)).alloc (.cells sdA 48)):=ext_alloc (ext_alloc (ext_new w _) _) _
 have hOB : Blk (((w.alloc (.cells (opC 4 xa xb xe) 25)).alloc (.cells sdA 48)).alloc (.cells sdA 48)) ob 25 (opC 4 xa xb xe):=((Blk.at_ (w:=w) hob.symm).alloc _).alloc _
 have hRB : Blk (((w.alloc (.cells (opC 4 xa xb xe) 25)).alloc (.cells sdA 48)).alloc (.cells sdA 48)) (ob + 1) 48 sdA:=(Blk.at_ (by simp [hob])).alloc _
 have hSB : Blk (((w.alloc (.cells (opC 4 xa xb xe) 25)).alloc (.cells sdA 48)).alloc (.cells sdA 48)) (ob + 1 + 1) 48 sdA:=Blk.at_ (by simp [hob])
 have hKB:=hk.below hb
 have hPW:=h.below hb
 have hsz : (((w.alloc (.cells (opC 4 xa xb xe) 25)).alloc (.cells sdA 48)).alloc (.cells sdA 48)).heap.size = ob + 3:=by simp [hob]
 have hGW:=hG.foot (Foot.of_below hb)
 obtain ⟨W,hW⟩ : ∃ W,(((w.alloc (.cells (opC 4 xa xb xe) 25)).alloc (.cells sdA 48)).alloc (.cells sdA 48)) = W:=⟨_,rfl⟩
 rw [hW] at hb hOB hRB hSB hKB hPW hsz hGW
 have hkl : kb < ob:=by rw [← hob];exact hk.lt
 have hlo : ∀ j,KF o p g j → j < ob:=fun j hj => by rw [← hob];exact h.lt hj
 have HNE:=Lib.hid (show kb ≠ ob + 1 + 1 ∧ ob ≠ ob + 1 + 1 from ⟨by omega,by omega⟩)
 have HWW:=Lib.hid hW
 have hSS : Blk W.drew kb 41 #[.pointer (some ⟨p,0,none⟩),qPtr o] ∧ Blk W.drew ob 25 (opC 4 xa xb xe):=⟨hKB,hOB⟩
 obtain ⟨W0,hW0⟩ : ∃ W0,W.drew = W0:=⟨_,rfl⟩
 have hbd : Below W.heap.size W W0:=by rw [← hW0];exact (Below.refl _ _).drew
 have hb0:=hb.trans (hbd.mono hb.size)
 have hs0 : W0.heap.size = ob + 3:=by rw [← hW0];exact hsz
 have hCall:=pair_arm xa xb xe (hPW.below hbd) (hGW.foot (Foot.of_below hbd)) hok.2.2
 have hAfter:=Lib.hid (fun (ev : Ending) (w6 : World) (hPost : ev = .returned (.int .i64 (k.act (QO.mk 4 xa xb xe)).2.err) ∧ (k.act (QO.mk 4 xa xb xe)).2.n = 0 ∧ ∃ o',PairWent W0 p g o (k.act (QO.mk 4 xa xb xe)).1 o' w6 ∧ qPtr o' = qPtr o) => (show ev = .returned (.int .i64 (k.act (QO.mk 4 xa xb xe)).2.err) ∧ (Blk w6 kb 41 #[.pointer (some ⟨p,0,none⟩),qPtr o] ∧ Blk w6 ob 25 (opC 4 xa xb xe)) ∧ Blk w6 (ob + 1 + 1) 48 sdA ∧ Blk w6 (ob + 1) 48 sdA ∧ (k.act (QO.mk 4 xa xb xe)).2.n = 0 ∧ ∃ o',PairWent W0 p g o (k.act (QO.mk 4 xa xb xe)).1 o' w6 ∧ qPtr o' = qPtr o from by
  obtain ⟨he,hn0,o',hw,hq⟩:=hPost;obtain ⟨a1,a2,a3⟩:=do_after (hKB.below hbd) (hOB.below hbd) (hSB.below hbd) (hRB.below hbd) (fun j hj => ⟨fun e => by subst e;exact hnk hj,hlo j hj⟩) ⟨by omega,by omega⟩ hw;exact ⟨he,a1,a2,a3,hn0,o',hw,hq⟩))
 have HLL:=Lib.hid (show (k.act (QO.mk 4 xa xb xe)).2.lost = [] from rfl)
 unfold QO.val
 go_enter Tryz.func19,Tryz.ntmps19
 clear hW h hk hG hKB hOB hRB hSB hPW hGW
 go_wp2_with fail
 rw [HWW.out]
 refine wp_region_held_drew (S:=(fun V : World => Blk V kb 41 #[.pointer (some ⟨p,0,none⟩),qPtr o] ∧ Blk V ob 25 (opC 4 xa xb xe))) (by kernel_rfl) hSS (fun hHeld => ?_)
 rw [hW0] at hHeld ⊢
 refine tk_ 0 55 rfl rfl ?_
 refine tk_ 1 56 rfl rfl ?_
 refine tk_ 2 57 rfl rfl ?_
 refine tk_ 3 58 rfl rfl ?_ (fun wx hSx => by obtain ⟨k0,k1,-⟩:=hSx.1.c2;obtain ⟨j0,j1,j2,j3,j4,j5,j6,j7,j8,j9⟩:=op_cells hSx.2;go_simp;try with_reducible rfl)
 refine tk_ 4 59 rfl rfl ?_
 refine tk_ 5 60 rfl rfl ?_ (fun wx hSx => by obtain ⟨k0,k1,-⟩:=hSx.1.c2;obtain ⟨j0,j1,j2,j3,j4,j5,j6,j7,j8,j9⟩:=op_cells hSx.2;go_simp;try with_reducible rfl)
 refine tk_ 6 61 rfl rfl ?_
 refine tk_ 7 62 rfl rfl ?_ (fun wx hSx => by obtain ⟨k0,k1,-⟩:=hSx.1.c2;obtain ⟨j0,j1,j2,j3,j4,j5,j6,j7,j8,j9⟩:=op_cells hSx.2;go_simp;try with_reducible rfl)
 refine rdy1 8 rfl (fun K hK => ?_)
 go_simp
 with_reducible refine hCall.mono ?_
 rintro ev w6 hPost
 obtain ⟨hev,hKeep,hSaid,hRest⟩:=hAfter.out ev w6 hPost
 subst hev
 obtain ⟨s0,s1,s2,f0,f1,f2⟩:=hSaid.c3
 try go_wp2_with fail
 refine hK.out _ _ hKeep (fun hHeld => ?_)
 clear hK K
 refine tk_ 9 64 rfl rfl ?_
 refine rdy1 10 rfl (fun K hK => ?_)
 go_simp
 refine hK.out _ _ ⟨hHeld.1.set_other (by have:=HNE.out.1;omega) _ _,hHeld.2.set_other (by have:=HNE.out.2;omega) _ _⟩ (fun hHeld => ?_)
 clear hK K
 refine wpAnyH_done (by kernel_rfl) ?_ _
 try simp only [Act.put,List.setIfInBounds_toArray,List.set_cons_succ,List.set_cons_zero]
 obtain ⟨hRB6,hN0,o',hPQ,hqp⟩:=hRest
 obtain ⟨r0,r1,r2,fr0,fr1,fr2⟩:=hRB6.c3
 have HF:=Lib.hid (show Blk ((((w6.setCell ⟨ob + 1 + 1,2,none⟩ (.int .i64 (k.act (QO.mk 4 xa xb xe)).2.err)).setCell ⟨ob + 1,0,none⟩ (.int .i64 0)).setCell ⟨ob + 1,1,none⟩ (.slice none 0 0)).setCell ⟨ob + 1,2,none⟩ (.int .i64 (k.act (QO.mk 4 xa xb xe)).2.err)) (ob + 1) 48 #[.int .i64 0,.slice none 0 0,.int .i64 (k.act (QO.mk 4 xa xb xe)).2.err] from blk_set3 (hRB6.set_other (g':=ob + 1 + 1) (by omega) _ _) (.int .i64 0) (.slice none 0 0) (.int .i64 (k.act (QO.mk 4 xa xb xe)).2.err))
 have HD:=Lib.hid (show DoAt False w kb p g o (k.act (QO.mk 4 xa xb xe)) (.returned (.agg #[.int .i64 (k.act (QO.mk 4 xa xb xe)).2.n,.slice none 0 0,.int .i64 (k.act (QO.mk 4 xa xb xe)).2.err])) ((((w6.setCell ⟨ob + 1 + 1,2,none⟩ (.int .i64 (k.act (QO.mk 4 xa xb xe)).2.err)).setCell ⟨ob + 1,0,none⟩ (.int .i64 0)).setCell ⟨ob + 1,1,none⟩ (.slice none 0 0)).setCell ⟨ob + 1,2,none⟩ (.int .i64 (k.act (QO.mk 4 xa xb xe)).2.err)) from
  do_fin hb0 hob ⟨rfl,rfl,hs0⟩ hPQ hqp hKeep.1 hkl hlo HLL.out (fun j a b => (set_heap b).trans ((set_heap b).trans ((set_heap b).trans ((set_heap a))))) ⟨rfl,rfl,rfl,by simp⟩ (fun j hj => hPQ.at_.lt hj))
 have HN0:=Lib.hid hN0
 clear hN0
 clear hRB6 hPQ hKeep hCall hSS
 go_wp2_with fail
 refine bodyPost_ret (v:=_) (ret_said (pt:=4) (by kernel_rfl) rfl HF.out) rfl ?_
 have hD:=HD.out
 rw [HN0.out] at hD
 exact hD
theorem same4_set {a b : World} (h : a.os = b.os ∧ a.tape = b.tape ∧ a.output = b.output ∧ a.heap.size = b.heap.size) (p : Addr) (v : Value) : (a.setCell p v).os = b.os ∧ (a.setCell p v).tape = b.tape ∧ (a.setCell p v).output = b.output ∧ (a.setCell p v).heap.size = b.heap.size := ⟨h.1,h.2.1,h.2.2.1,by rw [World.size_setCell]; exact h.2.2.2⟩
theorem new_on (hG : Glb (KF o p g) aA aT aN aW aS w) (hf : Foot (KF o p g) w w2) (hd : DAt w2 p g d) (hn : d.n ≤ 950000) (hp : 0 < (newN d).1.L.length) :
  Calls Tryz.prog 31 #[.pointer (some ⟨p,0,none⟩)] w2 fun e w' => ∃ o' lv,e = .returned (.tuple #[qPtr o',lv,.int .i64 (newN d).2.2.2]) ∧ w'.ownsRow w2.heap.size 23 7 lv (newN d).2.2.1.length (cellsE (newN d).2.2.1) ∧ PairWent w2 p g o ⟨(newN d).1,(newN d).2.1⟩ o' w':=by
 refine (new_any hd (hG.later hf fun j hj => .inl (KF.two hj)) hn).mono ?_
 intro e w' h
 exact pair_new h hd.fit hp
theorem newN_pos (hf : d.Fit) (h : 0 < d.L.length) : 0 < (newN d).1.L.length := by
 unfold newN
 split
 ·exact h
 ·rename_i hd
  split
  ·exact h
  ·have hqw:=open_qw hf (by simpa using hd) (by omega)
   have hl:=(drops_qw (lostL (openN d).s.L) hqw rfl fun e he => (EI.right_iff.1 (hqw.ok.ents e (List.mem_filter.1 he).1)).2.1).2.1;have hl2 : (openN d).d.L.length = d.L.length:=rfl;split
   ·show 0 < ((openN d).drops (lostL (openN d).s.L)).1.d.L.length
    omega
   ·show 0 < ((openN d).drops (lostL (openN d).s.L)).1.d.L.length
    omega
theorem do_new_fin {W w3 wf : World} {ob sb rb : Nat} {o' : Option (QC × QV)} {r : KN × AN} {lv : Value} (hb : Below w.heap.size w W) (hob : w.heap.size = ob) (hs : sb = ob + 1 + 1 ∧ rb = ob + 1 ∧ W.heap.size = ob + 3) (hf2 : Foot (KF o p g) W w2) (h : PairWent w2 p g o r.1 o' w3) (ho : w3.ownsRow w2.heap.size 23 7 lv r.2.lost.length (cellsE r.2.lost)) (hkb : kb < ob) (hnk : ¬ KF o p g kb) (hlo : ∀ j,KF o p g j → j < ob)
  (hf : ∀ j,j ≠ kb → j ≠ sb → j ≠ rb → wf.heap[j]? = w3.heap[j]?) (hos : wf.os = w3.os ∧ wf.tape = w3.tape ∧ wf.output = w3.output ∧ wf.heap.size = w3.heap.size) (hk : Blk wf kb 41 #[.pointer (some ⟨p,0,none⟩),qPtr o']) :
  DoAt True w kb p g o r (.returned (.agg #[.int .i64 r.2.n,lv,.int .i64 r.2.err])) wf:=by
 have s1:=hb.size
 have s2:=hf2.size
 have s3:=h.foot.size
 have hnew : ∀ j,KF o' p g j → KF o p g j ∨ w2.heap.size ≤ j:=h.new_
 refine ⟨⟨o',lv,rfl,own_base (own_keep ho fun j hj => ?_) (by omega),hk,h.at_.kept fun j hj => ?_,fun j hj => (hnew j hj).imp id fun q => by omega,fun q => absurd trivial q⟩,⟨hos.1.trans (h.foot.os.trans (hf2.os.trans hb.os)),hos.2.1.trans (h.foot.tape.trans (hf2.tape.trans hb.tape)),hos.2.2.1.trans (h.foot.output.trans (hf2.output.trans hb.output)),by omega,fun j hj hn => ?_⟩⟩
 ·have:=own_base_le ho hj
  exact hf j (by omega) (by omega) (by omega)
 ·rcases hnew j hj with q | q
  ·have:=hlo j q
   exact hf j (fun e => by subst e;exact hnk q) (by omega) (by omega)
  ·exact hf j (by omega) (by omega) (by omega)
 ·have h1 : j ≠ kb:=fun e => hn (.inl e)
  have h2 : ¬ KF o p g j:=fun e => hn (.inr e);rw [hf j h1 (by omega) (by omega),h.foot.block j (by omega) h2,hf2.block j (by omega) h2];exact hb.block j hj
set_option maxRecDepth 100000 in
theorem do_5 (xa xb : Int) (xe : EI) (h : PairAt w p g o k) (hk : Blk w kb 41 #[.pointer (some ⟨p,0,none⟩),qPtr o]) (hnk : ¬ KF o p g kb) (hG : Glb (KF o p g) aA aT aN aW aS w) (_hok : (QO.mk 5 xa xb xe).Ok) (hn : k.d.n ≤ 950000) :
  Calls Tryz.prog 19 #[.pointer (some ⟨kb,0,none⟩),(QO.mk 5 xa xb xe).val] w (DoAt True w kb p g o (k.act (QO.mk 5 xa xb xe))):=by
 obtain ⟨ob,hob⟩ : ∃ ob,w.heap.size = ob:=⟨_,rfl⟩
 have hb : Below w.heap.size w (((w.alloc (.cells (opC 5 xa xb xe) 25)).alloc (.cells sdA 48)).alloc (.cells sdA 48)):=ext_alloc (ext_alloc (ext_new w _) _) _
 have hOB : Blk (((w.alloc (.cells (opC 5 xa xb xe) 25)).alloc (.cells sdA 48)).alloc (.cells sdA 48)) ob 25 (opC 5 xa xb xe):=((Blk.at_ (w:=w) hob.symm).alloc _).alloc _
 have hRB : Blk (((w.alloc (.cells (opC 5 xa xb xe) 25)).alloc (.cells sdA 48)).alloc (.cells sdA 48)) (ob + 1) 48 sdA:=(Blk.at_ (by simp [hob])).alloc _
 have hSB : Blk (((w.alloc (.cells (opC 5 xa xb xe) 25)).alloc (.cells sdA 48)).alloc (.cells sdA 48)) (ob + 1 + 1) 48 sdA:=Blk.at_ (by simp [hob])
 have hKB:=hk.below hb
 obtain ⟨dx0,dx1,-,-⟩:=(hk.below hb).c2
 have hPW:=h.below hb
 have hsz : (((w.alloc (.cells (opC 5 xa xb xe) 25)).alloc (.cells sdA 48)).alloc (.cells sdA 48)).heap.size = ob + 3:=by simp [hob]
 have hGW:=hG.foot (Foot.of_below hb)
 obtain ⟨W,hW⟩ : ∃ W,(((w.alloc (.cells (opC 5 xa xb xe) 25)).alloc (.cells sdA 48)).alloc (.cells sdA 48)) = W:=⟨_,rfl⟩
 rw [hW] at hb hOB hRB hSB hKB hPW hsz hGW
 have hkl : kb < ob:=by rw [← hob];exact hk.lt
 have hlo : ∀ j,KF o p g j → j < ob:=fun j hj => by rw [← hob];exact h.lt hj
 have HNE:=Lib.hid (show kb ≠ ob + 1 + 1 ∧ ob ≠ ob + 1 + 1 from ⟨by omega,by omega⟩)
 have HWW:=Lib.hid hW
 obtain ⟨d2,hd2e⟩ : ∃ d2,k.d.restart = d2:=⟨_,rfl⟩
 have HACT:=Lib.hid (show k.act (QO.mk 5 xa xb xe) = (⟨(newN d2).1,(newN d2).2.1⟩,⟨0,(newN d2).2.2.1,(newN d2).2.2.2⟩) from by rw [← hd2e];rfl)
 have hRs:=Restart_any hPW.disk
 have hl2 : d2.L.length = k.d.L.length:=by rw [← hd2e];rfl
 have hn2 : d2.n ≤ 950000:=by rw [← hd2e];exact hn
 rw [hd2e] at hRs
 obtain ⟨dk0,dk1,-,-⟩:=hKB.c2
 have HL0:=Lib.hid hKB
 obtain ⟨oc0,oc1,oc2,oc3,oc4,oc5,oc6,oc7,oc8,oc9⟩:=op_cells hOB
 clear hW h hk hG
 unfold QO.val
 go_enter Tryz.func19,Tryz.ntmps19
 go_wp2_with fail
 rw [HWW.out]
 go_wp2_with fail
 with_reducible refine hRs.mono ?_
 rintro ev w2 ⟨rfl,hd2,hbt⟩
 have hf2 : Foot (KF o p g) W w2:=⟨hbt.os,hbt.tape,hbt.output,hbt.size,fun j hj hn => hbt.block j hj (fun e => hn (.inl e)) (fun e => hn (.inr (.inl e)))⟩
 have hb2 : Blk w2 kb 41 #[.pointer (some ⟨p,0,none⟩),qPtr o] ∧ Blk w2 ob 25 (opC 5 xa xb xe) ∧ Blk w2 (ob + 1 + 1) 48 sdA ∧ Blk w2 (ob + 1) 48 sdA :=
  ⟨hKB.kept (hf2.block kb hKB.lt hnk),hOB.kept (hf2.block ob hOB.lt fun q => by have:=hlo _ q;omega),hSB.kept (hf2.block _ hSB.lt fun q => by have:=hlo _ q;omega),hRB.kept (hf2.block _ hRB.lt fun q => by have:=hlo _ q;omega)⟩
 obtain ⟨oc0,oc1,oc2,oc3,oc4,oc5,oc6,oc7,oc8,oc9⟩:=op_cells hb2.2.1
 clear hKB hOB hSB hRB
 have hNw:=new_on hGW hf2 hd2 hn2 (newN_pos hd2.fit (by rw [hl2];exact hPW.pos))
 obtain ⟨rr,hrr⟩ : ∃ rr,newN d2 = rr:=⟨_,rfl⟩
 rw [hrr] at hNw HACT
 clear hrr
 obtain ⟨nd,nq,nl,ne⟩:=rr
 dsimp only at hNw HACT
 obtain ⟨dk0,dk1,dkf0,dkf1⟩:=(hb2.1).c2
 have HB2:=Lib.hid hb2
 have HF2:=Lib.hid hf2
 clear hGW hd2 hb2 hf2
 go_wp2_with fail
 with_reducible refine hNw.mono ?_
 rintro ev w3 ⟨o',lv,rfl,hown,hPQ⟩
 obtain ⟨A7,c7,rfl⟩:=own_form hown
 obtain ⟨u,hu⟩ : ∃ u,qPtr o' = .pointer u:=by cases o' <;> exact ⟨_,rfl⟩
 have c1:=(HB2.out.1).kept (hPQ.foot.block kb (HB2.out.1).lt fun q => hnk q)
 have c3:=(HB2.out.2.2.1).kept (hPQ.foot.block (ob + 1 + 1) (HB2.out.2.2.1).lt fun q => by have:=hlo _ q;omega)
 have c4:=(HB2.out.2.2.2).kept (hPQ.foot.block (ob + 1) (HB2.out.2.2.2).lt fun q => by have:=hlo _ q;omega)
 obtain ⟨e0,e1,ef0,ef1⟩:=c1.c2
 obtain ⟨s0,s1,s2,f0,f1,f2⟩:=c3.c3
 obtain ⟨r0,r1,r2,fr0,fr1,fr2⟩:=c4.c3
 have hne : ¬ kb = ob + 1 + 1:=by omega
 have hne2 : ¬ ob + 1 + 1 = kb:=by omega
 have hne3 : ¬ kb = ob + 1:=by omega
 have hne4 : ¬ ob + 1 = kb:=by omega
 have hkB : Blk ((((((w3.setCell ⟨kb,1,none⟩ (.pointer u)).setCell ⟨ob + 1 + 1,1,none⟩ (.slice A7 nl.length c7)).setCell ⟨ob + 1 + 1,2,none⟩ (.int .i64 ne)).setCell ⟨ob + 1,0,none⟩ (.int .i64 0)).setCell ⟨ob + 1,1,none⟩ (.slice A7 nl.length c7)).setCell ⟨ob + 1,2,none⟩ (.int .i64 ne)) kb 41 #[.pointer (some ⟨p,0,none⟩),qPtr o']:=by
  rw [hu];exact (((((c1.set_ 1 (.pointer u)).set_other (g':=ob + 1 + 1) hne _ _).set_other (g':=ob + 1 + 1) hne _ _).set_other (g':=ob + 1) hne3 _ _).set_other (g':=ob + 1) hne3 _ _).set_other (g':=ob + 1) hne3 _ _
 have hsB : Blk ((((((w3.setCell ⟨kb,1,none⟩ (.pointer u)).setCell ⟨ob + 1 + 1,1,none⟩ (.slice A7 nl.length c7)).setCell ⟨ob + 1 + 1,2,none⟩ (.int .i64 ne)).setCell ⟨ob + 1,0,none⟩ (.int .i64 0)).setCell ⟨ob + 1,1,none⟩ (.slice A7 nl.length c7)).setCell ⟨ob + 1,2,none⟩ (.int .i64 ne)) (ob + 1) 48 #[.int .i64 0,.slice A7 nl.length c7,.int .i64 ne]:=blk_set3 (((c4.set_other (g':=kb) (by omega) _ _).set_other (g':=ob + 1 + 1) (by omega) _ _).set_other (g':=ob + 1 + 1) (by omega) _ _) (.int .i64 0) (.slice A7 nl.length c7) (.int .i64 ne)
 have HF:=Lib.hid hsB
 have HD:=Lib.hid (show DoAt True w kb p g o (⟨nd,nq⟩,⟨0,nl,ne⟩) (.returned (.agg #[.int .i64 0,.slice A7 nl.length c7,.int .i64 ne])) ((((((w3.setCell ⟨kb,1,none⟩ (.pointer u)).setCell ⟨ob + 1 + 1,1,none⟩ (.slice A7 nl.length c7)).setCell ⟨ob + 1 + 1,2,none⟩ (.int .i64 ne)).setCell ⟨ob + 1,0,none⟩ (.int .i64 0)).setCell ⟨ob + 1,1,none⟩ (.slice A7 nl.length c7)).setCell ⟨ob + 1,2,none⟩ (.int .i64 ne)) from
  do_new_fin (r:=(⟨nd,nq⟩,⟨0,nl,ne⟩)) hb hob ⟨rfl,rfl,hsz⟩ HF2.out hPQ hown hkl hnk hlo (fun j a b c => (set_heap c).trans ((set_heap c).trans ((set_heap c).trans ((set_heap b).trans ((set_heap b).trans (set_heap a)))))) (same4_set (same4_set (same4_set (same4_set (same4_set (same4_set ⟨rfl,rfl,rfl,rfl⟩ _ _) _ _) _ _) _ _) _ _) _ _) hkB)
 clear c1 c3 c4 hkB hsB hPQ hown hNw hPW hl2 hn2 hn _hok
 rw [hu]
 clear hu
 go_wp2_with fail
 refine bodyPost_ret (v:=_) (ret_said (pt:=4) (by kernel_rfl) rfl HF.out) rfl ?_
 rw [HACT.out]
 exact HD.out
set_option maxRecDepth 100000 in
theorem do_6 (xa xb : Int) (xe : EI) (h : PairAt w p g o k) (hk : Blk w kb 41 #[.pointer (some ⟨p,0,none⟩),qPtr o]) (hnk : ¬ KF o p g kb) (hG : Glb (KF o p g) aA aT aN aW aS w) (hok : (QO.mk 6 xa xb xe).Ok) (hn : k.d.n ≤ 950000) :
  Calls Tryz.prog 19 #[.pointer (some ⟨kb,0,none⟩),(QO.mk 6 xa xb xe).val] w (DoAt True w kb p g o (k.act (QO.mk 6 xa xb xe))):=by
 obtain ⟨ob,hob⟩ : ∃ ob,w.heap.size = ob:=⟨_,rfl⟩
 have hb : Below w.heap.size w (((w.alloc (.cells (opC 6 xa xb xe) 25)).alloc (.cells sdA 48)).alloc (.cells sdA 48)):=ext_alloc (ext_alloc (ext_new w _) _) _
 have hOB : Blk (((w.alloc (.cells (opC 6 xa xb xe) 25)).alloc (.cells sdA 48)).alloc (.cells sdA 48)) ob 25 (opC 6 xa xb xe):=((Blk.at_ (w:=w) hob.symm).alloc _).alloc _
 have hRB : Blk (((w.alloc (.cells (opC 6 xa xb xe) 25)).alloc (.cells sdA 48)).alloc (.cells sdA 48)) (ob + 1) 48 sdA:=(Blk.at_ (by simp [hob])).alloc _
 have hSB : Blk (((w.alloc (.cells (opC 6 xa xb xe) 25)).alloc (.cells sdA 48)).alloc (.cells sdA 48)) (ob + 1 + 1) 48 sdA:=Blk.at_ (by simp [hob])
 have hKB:=hk.below hb
 obtain ⟨dx0,dx1,-,-⟩:=(hk.below hb).c2
 have hPW:=h.below hb
 have hsz : (((w.alloc (.cells (opC 6 xa xb xe) 25)).alloc (.cells sdA 48)).alloc (.cells sdA 48)).heap.size = ob + 3:=by simp [hob]
 have hGW:=hG.foot (Foot.of_below hb)
 obtain ⟨W,hW⟩ : ∃ W,(((w.alloc (.cells (opC 6 xa xb xe) 25)).alloc (.cells sdA 48)).alloc (.cells sdA 48)) = W:=⟨_,rfl⟩
 rw [hW] at hb hOB hRB hSB hKB hPW hsz hGW
 have hkl : kb < ob:=by rw [← hob];exact hk.lt
 have hlo : ∀ j,KF o p g j → j < ob:=fun j hj => by rw [← hob];exact h.lt hj
 have HNE:=Lib.hid (show kb ≠ ob + 1 + 1 ∧ ob ≠ ob + 1 + 1 from ⟨by omega,by omega⟩)
 have HWW:=Lib.hid hW
 obtain ⟨d1,hd1e⟩ : ∃ d1,k.d.restart = d1:=⟨_,rfl⟩
 obtain ⟨d2,hd2e⟩ : ∃ d2,(d1.arm xa xb).1 = d2:=⟨_,rfl⟩
 have HACT:=Lib.hid (show k.act (QO.mk 6 xa xb xe) = (⟨(newN d2).1,(newN d2).2.1⟩,⟨0,(newN d2).2.2.1,(newN d2).2.2.2⟩) from by rw [← hd2e,← hd1e];rfl)
 have hRs:=Restart_any hPW.disk
 rw [hd1e] at hRs
 have hl1 : d1.L.length = k.d.L.length:=by rw [← hd1e];rfl
 have hn1 : d1.n ≤ 950000:=by rw [← hd1e];exact hn
 obtain ⟨dk0,dk1,-,-⟩:=hKB.c2
 obtain ⟨oc0,oc1,oc2,oc3,oc4,oc5,oc6,oc7,oc8,oc9⟩:=op_cells hOB
 clear hW h hk hG
 unfold QO.val
 go_enter Tryz.func19,Tryz.ntmps19
 go_wp2_with fail
 rw [HWW.out]
 go_wp2_with fail
 with_reducible refine hRs.mono ?_
 rintro ev w1 ⟨rfl,hd1,hbt⟩
 have hf1 : Foot (KF o p g) W w1:=⟨hbt.os,hbt.tape,hbt.output,hbt.size,fun j hj hn => hbt.block j hj (fun e => hn (.inl e)) (fun e => hn (.inr (.inl e)))⟩
 have hb1 : Blk w1 kb 41 #[.pointer (some ⟨p,0,none⟩),qPtr o] ∧ Blk w1 ob 25 (opC 6 xa xb xe) ∧ Blk w1 (ob + 1 + 1) 48 sdA ∧ Blk w1 (ob + 1) 48 sdA :=
  ⟨hKB.kept (hf1.block kb hKB.lt hnk),hOB.kept (hf1.block ob hOB.lt fun q => by have:=hlo _ q;omega),hSB.kept (hf1.block _ hSB.lt fun q => by have:=hlo _ q;omega),hRB.kept (hf1.block _ hRB.lt fun q => by have:=hlo _ q;omega)⟩
 obtain ⟨oc0,oc1,oc2,oc3,oc4,oc5,oc6,oc7,oc8,oc9⟩:=op_cells hb1.2.1
 have hSS : Blk w1.drew kb 41 #[.pointer (some ⟨p,0,none⟩),qPtr o] ∧ Blk w1.drew ob 25 (opC 6 xa xb xe):=⟨hb1.1,hb1.2.1⟩
 obtain ⟨W0,hW0⟩ : ∃ W0,w1.drew = W0:=⟨_,rfl⟩
 have hbd : Below w1.heap.size w1 W0:=by rw [← hW0];exact (Below.refl _ _).drew
 have hf0:=hf1.ext hbd
 have hCall:=Arm_any xa xb (hd1.below hbd) (hGW _ hf0).d.s hok.2.2
 have hl2 : d2.L.length = k.d.L.length:=by rw [← hd2e];exact (DN.arm_fit hd1.fit xa xb).2.1.trans hl1
 have hn2 : d2.n ≤ 950000:=by rw [← hd2e,(DN.arm_fit hd1.fit xa xb).2.2];exact hn1
 rw [hd2e] at hCall
 have hAfter:=Lib.hid (fun (ev : Ending) (w6 : World) (hPost : Turned (.int .i64 (d1.arm xa xb).2) p g d2 W0 ev w6) => (show ev = .returned (.int .i64 (d1.arm xa xb).2) ∧ (Blk w6 kb 41 #[.pointer (some ⟨p,0,none⟩),qPtr o] ∧ Blk w6 ob 25 (opC 6 xa xb xe)) ∧ Blk w6 (ob + 1 + 1) 48 sdA ∧ Blk w6 (ob + 1) 48 sdA ∧ DAt w6 p g d2 ∧ Foot (KF o p g) W w6 from by
  obtain ⟨he,hd,hb'⟩:=hPost;have hf : Foot (KF o p g) W0 w6:=⟨hb'.os,hb'.tape,hb'.output,hb'.size,fun j hj hn => hb'.block j hj (fun e => hn (.inl e)) (fun e => hn (.inr (.inl e)))⟩
  have h1:=hb1.1.below hbd;have h2:=hb1.2.1.below hbd;have h3:=hb1.2.2.1.below hbd;have h4:=hb1.2.2.2.below hbd;exact ⟨he,⟨h1.kept (hf.block _ h1.lt hnk),h2.kept (hf.block _ h2.lt fun q => by have:=hlo _ q;omega)⟩,h3.kept (hf.block _ h3.lt fun q => by have:=hlo _ q;omega),h4.kept (hf.block _ h4.lt fun q => by have:=hlo _ q;omega),hd,hf0.trans hf fun _ q => .inl q⟩))
 clear hKB hOB hSB hRB hb1 hd1 hf1
 go_wp2_with fail
 refine wp_region_held_drew (S:=(fun V : World => Blk V kb 41 #[.pointer (some ⟨p,0,none⟩),qPtr o] ∧ Blk V ob 25 (opC 6 xa xb xe))) (by kernel_rfl) hSS (fun hHeld => ?_)
 rw [hW0] at hHeld ⊢
 refine tk_ 0 76 rfl rfl ?_
 refine tk_ 1 77 rfl rfl ?_
 refine tk_ 2 78 rfl rfl ?_
 refine tk_ 3 79 rfl rfl ?_ (fun wx hSx => by obtain ⟨k0,k1,-⟩:=hSx.1.c2;obtain ⟨j0,j1,j2,j3,j4,j5,j6,j7,j8,j9⟩:=op_cells hSx.2;go_simp;try with_reducible rfl)
 refine tk_ 4 80 rfl rfl ?_
 refine tk_ 5 81 rfl rfl ?_ (fun wx hSx => by obtain ⟨k0,k1,-⟩:=hSx.1.c2;obtain ⟨j0,j1,j2,j3,j4,j5,j6,j7,j8,j9⟩:=op_cells hSx.2;go_simp;try with_reducible rfl)
 refine tk_ 6 82 rfl rfl ?_
 refine tk_ 7 83 rfl rfl ?_ (fun wx hSx => by obtain ⟨k0,k1,-⟩:=hSx.1.c2;obtain ⟨j0,j1,j2,j3,j4,j5,j6,j7,j8,j9⟩:=op_cells hSx.2;go_simp;try with_reducible rfl)
 refine rdy1 8 rfl (fun K hK => ?_)
 go_simp
 with_reducible refine hCall.mono ?_
 rintro ev w6 hPost
 obtain ⟨hev,hKeep,hSaid,hRest⟩:=hAfter.out ev w6 hPost
 subst hev
 obtain ⟨s0,s1,s2,f0,f1,f2⟩:=hSaid.c3
 try go_wp2_with fail
 refine hK.out _ _ hKeep (fun hHeld => ?_)
 clear hK K
 refine wpAnyH_done (by kernel_rfl) ?_ _
 try simp only [Act.put,List.setIfInBounds_toArray,List.set_cons_succ,List.set_cons_zero]
 obtain ⟨hrb6,hd2,hf2⟩:=hRest
 have hb2 : Blk w6 kb 41 #[.pointer (some ⟨p,0,none⟩),qPtr o] ∧ Blk w6 ob 25 (opC 6 xa xb xe) ∧ Blk w6 (ob + 1 + 1) 48 sdA ∧ Blk w6 (ob + 1) 48 sdA:=⟨hKeep.1,hKeep.2,hSaid,hrb6⟩
 clear hCall hKeep hSaid hrb6 hSS
 have hNw:=new_on hGW hf2 hd2 hn2 (newN_pos hd2.fit (by rw [hl2];exact hPW.pos))
 obtain ⟨rr,hrr⟩ : ∃ rr,newN d2 = rr:=⟨_,rfl⟩
 rw [hrr] at hNw HACT
 clear hrr
 obtain ⟨nd,nq,nl,ne⟩:=rr
 dsimp only at hNw HACT
 obtain ⟨dk0,dk1,dkf0,dkf1⟩:=(hb2.1).c2
 have HB2:=Lib.hid hb2
 have HF2:=Lib.hid hf2
 clear hGW hd2 hb2 hf2
 go_wp2_with fail
 with_reducible refine hNw.mono ?_
 rintro ev w3 ⟨o',lv,rfl,hown,hPQ⟩
 obtain ⟨A7,c7,rfl⟩:=own_form hown
 obtain ⟨u,hu⟩ : ∃ u,qPtr o' = .pointer u:=by cases o' <;> exact ⟨_,rfl⟩
 have c1:=(HB2.out.1).kept (hPQ.foot.block kb (HB2.out.1).lt fun q => hnk q)
 have c3:=(HB2.out.2.2.1).kept (hPQ.foot.block (ob + 1 + 1) (HB2.out.2.2.1).lt fun q => by have:=hlo _ q;omega)
 have c4:=(HB2.out.2.2.2).kept (hPQ.foot.block (ob + 1) (HB2.out.2.2.2).lt fun q => by have:=hlo _ q;omega)
 obtain ⟨e0,e1,ef0,ef1⟩:=c1.c2
 obtain ⟨s0,s1,s2,f0,f1,f2⟩:=c3.c3
 obtain ⟨r0,r1,r2,fr0,fr1,fr2⟩:=c4.c3
 have hne : ¬ kb = ob + 1 + 1:=by omega
 have hne2 : ¬ ob + 1 + 1 = kb:=by omega
 have hne3 : ¬ kb = ob + 1:=by omega
 have hne4 : ¬ ob + 1 = kb:=by omega
 have hkB : Blk ((((((w3.setCell ⟨kb,1,none⟩ (.pointer u)).setCell ⟨ob + 1 + 1,1,none⟩ (.slice A7 nl.length c7)).setCell ⟨ob + 1 + 1,2,none⟩ (.int .i64 ne)).setCell ⟨ob + 1,0,none⟩ (.int .i64 0)).setCell ⟨ob + 1,1,none⟩ (.slice A7 nl.length c7)).setCell ⟨ob + 1,2,none⟩ (.int .i64 ne)) kb 41 #[.pointer (some ⟨p,0,none⟩),qPtr o']:=by
  rw [hu];exact (((((c1.set_ 1 (.pointer u)).set_other (g':=ob + 1 + 1) hne _ _).set_other (g':=ob + 1 + 1) hne _ _).set_other (g':=ob + 1) hne3 _ _).set_other (g':=ob + 1) hne3 _ _).set_other (g':=ob + 1) hne3 _ _
 have hsB : Blk ((((((w3.setCell ⟨kb,1,none⟩ (.pointer u)).setCell ⟨ob + 1 + 1,1,none⟩ (.slice A7 nl.length c7)).setCell ⟨ob + 1 + 1,2,none⟩ (.int .i64 ne)).setCell ⟨ob + 1,0,none⟩ (.int .i64 0)).setCell ⟨ob + 1,1,none⟩ (.slice A7 nl.length c7)).setCell ⟨ob + 1,2,none⟩ (.int .i64 ne)) (ob + 1) 48 #[.int .i64 0,.slice A7 nl.length c7,.int .i64 ne]:=blk_set3 (((c4.set_other (g':=kb) (by omega) _ _).set_other (g':=ob + 1 + 1) (by omega) _ _).set_other (g':=ob + 1 + 1) (by omega) _ _) (.int .i64 0) (.slice A7 nl.length c7) (.int .i64 ne)
 have HF:=Lib.hid hsB
 have HD:=Lib.hid (show DoAt True w kb p g o (⟨nd,nq⟩,⟨0,nl,ne⟩) (.returned (.agg #[.int .i64 0,.slice A7 nl.length c7,.int .i64 ne])) ((((((w3.setCell ⟨kb,1,none⟩ (.pointer u)).setCell ⟨ob + 1 + 1,1,none⟩ (.slice A7 nl.length c7)).setCell ⟨ob + 1 + 1,2,none⟩ (.int .i64 ne)).setCell ⟨ob + 1,0,none⟩ (.int .i64 0)).setCell ⟨ob + 1,1,none⟩ (.slice A7 nl.length c7)).setCell ⟨ob + 1,2,none⟩ (.int .i64 ne)) from
  do_new_fin (r:=(⟨nd,nq⟩,⟨0,nl,ne⟩)) hb hob ⟨rfl,rfl,hsz⟩ HF2.out hPQ hown hkl hnk hlo (fun j a b c => (set_heap c).trans ((set_heap c).trans ((set_heap c).trans ((set_heap b).trans ((set_heap b).trans (set_heap a)))))) (same4_set (same4_set (same4_set (same4_set (same4_set (same4_set ⟨rfl,rfl,rfl,rfl⟩ _ _) _ _) _ _) _ _) _ _) _ _) hkB)
 clear c1 c3 c4 hkB hsB hPQ hown hNw hPW hl2 hn2 hn hok
 rw [hu]
 clear hu
 go_wp2_with fail
 refine bodyPost_ret (v:=_) (ret_said (pt:=4) (by kernel_rfl) rfl HF.out) rfl ?_
 rw [HACT.out]
 exact HD.out
theorem act_other (k : KN) (x : QO) (h : x.kind < 0 ∨ 6 < x.kind) : k.act x = (k,⟨0,[],0⟩) := by
 unfold KN.act
 rw [if_pos h]
set_option maxRecDepth 100000 in
theorem do_other (x : QO) (hx : x.kind < 0 ∨ 6 < x.kind) (h : PairAt w p g o k) (hk : Blk w kb 41 #[.pointer (some ⟨p,0,none⟩),qPtr o]) (_hnk : ¬ KF o p g kb) (hG : Glb (KF o p g) aA aT aN aW aS w) (_hok : x.Ok) (_hn : k.d.n + 600 ≤ 1000000) :
  Calls Tryz.prog 19 #[.pointer (some ⟨kb,0,none⟩),x.val] w (DoAt False w kb p g o (k.act x)):=by
 obtain ⟨ob,hob⟩ : ∃ ob,w.heap.size = ob:=⟨_,rfl⟩
 have hb : Below w.heap.size w (((w.alloc (.cells (opX x) 25)).alloc (.cells sdA 48)).alloc (.cells sdA 48)):=ext_alloc (ext_alloc (ext_new w _) _) _
 have hOB : Blk (((w.alloc (.cells (opX x) 25)).alloc (.cells sdA 48)).alloc (.cells sdA 48)) ob 25 (opX x):=((Blk.at_ (w:=w) hob.symm).alloc _).alloc _
 have hRB : Blk (((w.alloc (.cells (opX x) 25)).alloc (.cells sdA 48)).alloc (.cells sdA 48)) (ob + 1) 48 sdA:=(Blk.at_ (by simp [hob])).alloc _
 have hSB : Blk (((w.alloc (.cells (opX x) 25)).alloc (.cells sdA 48)).alloc (.cells sdA 48)) (ob + 1 + 1) 48 sdA:=Blk.at_ (by simp [hob])
 have hKB:=hk.below hb
 have hPW:=h.below hb
 have hsz : (((w.alloc (.cells (opX x) 25)).alloc (.cells sdA 48)).alloc (.cells sdA 48)).heap.size = ob + 3:=by simp [hob]
 have hGW:=hG.foot (Foot.of_below hb)
 obtain ⟨W,hW⟩ : ∃ W,(((w.alloc (.cells (opX x) 25)).alloc (.cells sdA 48)).alloc (.cells sdA 48)) = W:=⟨_,rfl⟩
 rw [hW] at hb hOB hRB hSB hKB hPW hsz hGW
 have hkl : kb < ob:=by rw [← hob];exact hk.lt
 have hlo : ∀ j,KF o p g j → j < ob:=fun j hj => by rw [← hob];exact h.lt hj
 have HNE:=Lib.hid (show kb ≠ ob + 1 + 1 ∧ ob ≠ ob + 1 + 1 from ⟨by omega,by omega⟩)
 have HWW:=Lib.hid hW
 rw [act_other k x hx]
 have n0 : ¬ x.kind = 0:=by omega
 have n1 : ¬ x.kind = 1:=by omega
 have n2 : ¬ x.kind = 2:=by omega
 have n3 : ¬ x.kind = 3:=by omega
 have n4 : ¬ x.kind = 4:=by omega
 have n5 : ¬ x.kind = 5:=by omega
 have n6 : ¬ x.kind = 6:=by omega
 obtain ⟨s0,s1,s2,f0,f1,f2⟩:=hSB.c3
 obtain ⟨r0,r1,r2,fr0,fr1,fr2⟩:=hRB.c3
 have HF:=Lib.hid hRB
 have HD:=Lib.hid (show DoAt False w kb p g o (k,⟨0,[],0⟩) (.returned (.agg sdA)) W from
  do_fin (r:=(k,⟨0,[],0⟩)) hb hob ⟨rfl,rfl,hsz⟩ (PairWent.refl hPW (Below.refl _ _)) rfl hKB hkl hlo rfl (fun j a b => rfl) ⟨rfl,rfl,rfl,rfl⟩ (fun j hj => hPW.lt hj))
 clear hW h hk hG hKB hOB hPW hGW hlo hx
 unfold QO.val
 go_enter Tryz.func19,Tryz.ntmps19
 go_wp2_with fail
 rw [HWW.out]
 go_wp2_with fail
 refine bodyPost_ret (v:=_) (ret_said (pt:=4) (by kernel_rfl) rfl HF.out) rfl ?_
 exact HD.out
theorem do_any (x : QO) (h : PairAt w p g o k) (hk : Blk w kb 41 #[.pointer (some ⟨p,0,none⟩),qPtr o]) (hnk : ¬ KF o p g kb) (hG : Glb (KF o p g) aA aT aN aW aS w) (hok : x.Ok) (hn : k.d.n ≤ 950000) :
  Calls Tryz.prog 19 #[.pointer (some ⟨kb,0,none⟩),x.val] w (DoAt (4 < x.kind) w kb p g o (k.act x)):=by
 by_cases hr : x.kind < 0 ∨ 6 < x.kind
 ·exact (do_other x hr h hk hnk hG hok (by omega)).mono fun _ _ q => q.mono False.elim
 ·obtain ⟨xk,xa,xb,xe⟩:=x
  have hc : xk = 0 ∨ xk = 1 ∨ xk = 2 ∨ xk = 3 ∨ xk = 4 ∨ xk = 5 ∨ xk = 6:=by
   have hr' : ¬ (xk < 0 ∨ 6 < xk):=hr;omega
  rcases hc with rfl | rfl | rfl | rfl | rfl | rfl | rfl
  ·exact (do_0 xa xb xe h hk hnk hG hok (by omega)).mono fun _ _ q => q.mono False.elim
  ·exact (do_1 xa xb xe h hk hnk hG hok (by omega)).mono fun _ _ q => q.mono False.elim
  ·exact (do_2 xa xb xe h hk hnk hG hok (by omega)).mono fun _ _ q => q.mono False.elim
  ·exact (do_3 xa xb xe h hk hnk hG hok (by omega)).mono fun _ _ q => q.mono False.elim
  ·exact (do_4 xa xb xe h hk hnk hG hok (by omega)).mono fun _ _ q => q.mono False.elim
  ·exact (do_5 xa xb xe h hk hnk hG hok hn).mono fun _ _ q => q.mono fun _ => by first | exact (by decide : (4 : Int) < 5) | exact (by decide : (4 : Int) < 6)
  ·exact (do_6 xa xb xe h hk hnk hG hok hn).mono fun _ _ q => q.mono fun _ => by first | exact (by decide : (4 : Int) < 5) | exact (by decide : (4 : Int) < 6)
end Go.Proofs.YtmebjdbkngehiaaGreatDoor
