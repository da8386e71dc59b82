/-
  A desk's call (do). Conditions: as the theorem's own hypotheses say.
-/
import Derived.Test.YtmebjdbkngehiaaGreatDoorQhK
import Derived.Test.YtmebjdbkngehiaaGreatDoorQgM
import Derived.Test.YtmebjdbkngehiaaGreatDoorQgK
namespace Go.Proofs.YtmebjdbkngehiaaGreatDoor
open Go.RowKit Go.Shelf
set_option maxHeartbeats 8000000
variable {W w w6 wf : World} {g kb p ob sb rb : Nat} {a0 a1 a2 : Value} {o o' : Option (QC × QV)} {r : KN × AN} {k : KN} {aA aT aN aW aS : Addr}
theorem op_cells {t : TypeId} {a3 a4 a5 a6 a7 a8 a9 : Value} (h : Blk W g t #[a0,a1,a2,a3,a4,a5,a6,a7,a8,a9]) :
  W.cell? ⟨g,0,none⟩ = some a0 ∧ W.cell? ⟨g,1,none⟩ = some a1 ∧ W.cell? ⟨g,2,none⟩ = some a2 ∧ W.cell? ⟨g,3,none⟩ = some a3 ∧ W.cell? ⟨g,4,none⟩ = some a4 ∧ W.cell? ⟨g,5,none⟩ = some a5 ∧ W.cell? ⟨g,6,none⟩ = some a6 ∧ W.cell? ⟨g,7,none⟩ = some a7 ∧ W.cell? ⟨g,8,none⟩ = some a8 ∧ W.cell? ⟨g,9,none⟩ = some a9 :=
 ⟨(h.cell 0).trans rfl,(h.cell 1).trans rfl,(h.cell 2).trans rfl,(h.cell 3).trans rfl,(h.cell 4).trans rfl,(h.cell 5).trans rfl,(h.cell 6).trans rfl,(h.cell 7).trans rfl,(h.cell 8).trans rfl,(h.cell 9).trans rfl⟩
theorem said_agg (w : World) : (isAgg 48).run Tryz.prog w = .ok true w := by kernel_rfl
theorem load_said (h : Blk W g 48 #[a0,a1,a2]) : (loadVar 48 ⟨g,0,none⟩).run Tryz.prog W = .ok (.agg #[a0,a1,a2]) W := by
 obtain ⟨h0,h1,h2,_,_,_⟩:=h.c3
 unfold loadVar
 simp only [Sem.run_bind,said_agg,Result.andThen]
 simp [loadCells,loadCellsFrom,h0,h1,h2,Result.andThen,Addr.add]
theorem ret_said {fn : Func} {pt : Tmp} (h : fn.results = #[.cell pt 48]) {tmps : Array Value} {W : World} {g : Nat} {a0 a1 a2 : Value} (hp : tmps.getD pt undef = .pointer (some ⟨g,0,none⟩)) (hB : Blk W g 48 #[a0,a1,a2]) :
  (results fn tmps).run Tryz.prog W = .ok (.agg #[a0,a1,a2]) W:=by
 have hp' : tmps[pt]?.getD undef = .pointer (some ⟨g,0,none⟩):=by simpa using hp
 simp only [results,h]
 simp [hp',asAddr,load_said hB]
structure DoAt (S : Prop) (w : World) (kb p g : Nat) (o : Option (QC × QV)) (r : KN × AN) (e : Ending) (w' : World) : Prop where
 ex : ∃ o' lv,e = .returned (.agg #[.int .i64 r.2.n,lv,.int .i64 r.2.err]) ∧ w'.ownsRow w.heap.size 23 7 lv r.2.lost.length (cellsE r.2.lost) ∧ Blk w' kb 41 #[.pointer (some ⟨p,0,none⟩),qPtr o'] ∧ PairAt w' p g o' r.1 ∧ (∀ j,KF o' p g j → KF o p g j ∨ w.heap.size ≤ j) ∧ (¬ S → qPtr o' = qPtr o)
 foot : Foot (fun j => j = kb ∨ KF o p g j) w w'
theorem DoAt.mono {S T : Prop} {e : Ending} {w' : World} (h : DoAt S w kb p g o r e w') (hs : S → T) : DoAt T w kb p g o r e w' := by
 obtain ⟨⟨o',lv,h1,h2,h3,h4,h5,h6⟩,h7⟩:=h
 exact ⟨⟨o',lv,h1,h2,h3,h4,h5,fun q => h6 fun s => q (hs s)⟩,h7⟩
theorem do_after {k' : KN} {cs ds es fs : Array Value} {T1 T2 T3 : TypeId} (hk : Blk W kb T1 cs) (ho : Blk W ob T2 ds) (hs : Blk W sb T3 es) (hr : Blk W rb T3 fs) (hn : ∀ j,KF o p g j → j ≠ kb ∧ j < ob) (hso : ob < sb ∧ ob < rb) (h : PairWent W p g o k' o' w6) : (Blk w6 kb T1 cs ∧ Blk w6 ob T2 ds) ∧ Blk w6 sb T3 es ∧ Blk w6 rb T3 fs :=
 ⟨⟨hk.kept (h.foot.block kb hk.lt fun q => (hn kb q).1 rfl),ho.kept (h.foot.block ob ho.lt fun q => by have:=(hn ob q).2;omega)⟩,hs.kept (h.foot.block sb hs.lt fun q => by have:=(hn sb q).2;omega),hr.kept (h.foot.block rb hr.lt fun q => by have:=(hn rb q).2;omega)⟩
theorem do_end {lv : Value} (hb : Below w.heap.size w W) (h : PairWent W p g o r.1 o' w6) (hq : qPtr o' = qPtr o) (hk : Blk w6 kb 41 #[.pointer (some ⟨p,0,none⟩),qPtr o]) (hkb : kb < w.heap.size) (hf : ∀ j,j < w6.heap.size → (j < w.heap.size ∨ KF o' p g j) → wf.heap[j]? = w6.heap[j]?) (hos : wf.os = w6.os ∧ wf.tape = w6.tape ∧ wf.output = w6.output ∧ wf.heap.size = w6.heap.size)
  (hlt : ∀ j,KF o' p g j → j < w6.heap.size) (hown : wf.ownsRow w.heap.size 23 7 lv r.2.lost.length (cellsE r.2.lost)) :
  DoAt False w kb p g o r (.returned (.agg #[.int .i64 r.2.n,lv,.int .i64 r.2.err])) wf:=by
 have hsz:=h.foot.size
 have hs2:=hb.size
 refine ⟨⟨o',lv,rfl,hown,?_,h.at_.kept fun j hj => hf j (hlt j hj) (.inr hj),fun j hj => (h.new_ j hj).imp id fun q => by omega,fun _ => hq⟩,⟨hos.1.trans (h.foot.os.trans hb.os),hos.2.1.trans (h.foot.tape.trans hb.tape),hos.2.2.1.trans (h.foot.output.trans hb.output),by omega,fun j hj hn => ?_⟩⟩
 ·rw [hq];exact hk.kept (hf kb hk.lt (.inl hkb))
 ·rw [hf j (by omega) (.inl hj),h.foot.block j (by omega) fun q => hn (.inr q)]
  exact hb.block j hj
theorem set_heap {s j i : Nat} {v : Value} (h : j ≠ s) : (w.setCell ⟨s,i,none⟩ v).heap[j]? = w.heap[j]? := Below.heap_setCell _ _ _ _ (by simpa using h)
theorem do_fin (hb : Below w.heap.size w W) (hob : w.heap.size = ob) (hs : sb = ob + 1 + 1 ∧ rb = ob + 1 ∧ W.heap.size = ob + 3) (h : PairWent W p g o r.1 o' w6) (hq : qPtr o' = qPtr o) (hk : Blk w6 kb 41 #[.pointer (some ⟨p,0,none⟩),qPtr o]) (hkb : kb < ob) (hlo : ∀ j,KF o p g j → j < ob) (hl : r.2.lost = [])
  (hf : ∀ j,j ≠ sb → j ≠ rb → wf.heap[j]? = w6.heap[j]?) (hos : wf.os = w6.os ∧ wf.tape = w6.tape ∧ wf.output = w6.output ∧ wf.heap.size = w6.heap.size) (hlt : ∀ j,KF o' p g j → j < w6.heap.size) :
  DoAt False w kb p g o r (.returned (.agg #[.int .i64 r.2.n,.slice none 0 0,.int .i64 r.2.err])) wf:=by
 refine do_end hb h hq hk (by omega) (fun j hj hjj => hf j ?_ ?_) hos hlt (by rw [hl];exact own_nil)
 ·rcases hjj with q | q
  ·omega
  ·rcases h.new_ j q with q | q
   ·have:=hlo j q;omega
   ·omega
 ·rcases hjj with q | q
  ·omega
  ·rcases h.new_ j q with q | q
   ·have:=hlo j q;omega
   ·omega
set_option maxRecDepth 100000 in
theorem do_0 (xa xb : Int) (xe : EI) (h : PairAt w p g o k) (hk : Blk w kb 41 #[.pointer (some ⟨p,0,none⟩),qPtr o]) (hnk : ¬ KF o p g kb) (hG : Glb (KF o p g) aA aT aN aW aS w) (hok : (QO.mk 0 xa xb xe).Ok) (hn : k.d.n + 600 ≤ 1000000) :
  Calls Tryz.prog 19 #[.pointer (some ⟨kb,0,none⟩),(QO.mk 0 xa xb xe).val] w (DoAt False w kb p g o (k.act (QO.mk 0 xa xb xe))):=by
 obtain ⟨ob,hob⟩ : ∃ ob,w.heap.size = ob:=⟨_,rfl⟩
 have hb : Below w.heap.size w (((w.alloc (.cells (opC 0 xa xb xe) 25)).alloc (.cells sdA 48)).alloc (.cells sdA 48)):=ext_alloc (ext_alloc (ext_new w _) _) _
 have hOB : Blk (((w.alloc (.cells (opC 0 xa xb xe) 25)).alloc (.cells sdA 48)).alloc (.cells sdA 48)) ob 25 (opC 0 xa xb xe):=((Blk.at_ (w:=w) hob.symm).alloc _).alloc _
 have hRB : Blk (((w.alloc (.cells (opC 0 xa xb xe) 25)).alloc (.cells sdA 48)).alloc (.cells sdA 48)) (ob + 1) 48 sdA:=(Blk.at_ (by simp [hob])).alloc _
 have hSB : Blk (((w.alloc (.cells (opC 0 xa xb xe) 25)).alloc (.cells sdA 48)).alloc (.cells sdA 48)) (ob + 1 + 1) 48 sdA:=Blk.at_ (by simp [hob])
 have hKB:=hk.below hb
 have hPW:=h.below hb
 have hsz : (((w.alloc (.cells (opC 0 xa xb xe) 25)).alloc (.cells sdA 48)).alloc (.cells sdA 48)).heap.size = ob + 3:=by simp [hob]
 have hGW:=hG.foot (Foot.of_below hb)
 obtain ⟨W,hW⟩ : ∃ W,(((w.alloc (.cells (opC 0 xa xb xe) 25)).alloc (.cells sdA 48)).alloc (.cells sdA 48)) = W:=⟨_,rfl⟩
 rw [hW] at hb hOB hRB hSB hKB hPW hsz hGW
 have hkl : kb < ob:=by rw [← hob];exact hk.lt
 have hlo : ∀ j,KF o p g j → j < ob:=fun j hj => by rw [← hob];exact h.lt hj
 have HNE:=Lib.hid (show kb ≠ ob + 1 + 1 ∧ ob ≠ ob + 1 + 1 from ⟨by omega,by omega⟩)
 have HWW:=Lib.hid hW
 have hSS : Blk W.drew kb 41 #[.pointer (some ⟨p,0,none⟩),qPtr o] ∧ Blk W.drew ob 25 (opC 0 xa xb xe):=⟨hKB,hOB⟩
 obtain ⟨W0,hW0⟩ : ∃ W0,W.drew = W0:=⟨_,rfl⟩
 have hbd : Below W.heap.size W W0:=by rw [← hW0];exact (Below.refl _ _).drew
 have hb0:=hb.trans (hbd.mono hb.size)
 have hs0 : W0.heap.size = ob + 3:=by rw [← hW0];exact hsz
 have hCall:=pair_put (QO.mk 0 xa xb xe) rfl (hPW.below hbd) (hGW.foot (Foot.of_below hbd)) hok hn
 unfold EI.val at hCall
 have hAfter:=Lib.hid (fun (ev : Ending) (w6 : World) (hPost : ev = .returned (.tuple #[.int .i64 (k.act (QO.mk 0 xa xb xe)).2.n,.int .i64 (k.act (QO.mk 0 xa xb xe)).2.err]) ∧ ∃ o',PairWent W0 p g o (k.act (QO.mk 0 xa xb xe)).1 o' w6 ∧ qPtr o' = qPtr o) => (show ev = .returned (.tuple #[.int .i64 (k.act (QO.mk 0 xa xb xe)).2.n,.int .i64 (k.act (QO.mk 0 xa xb xe)).2.err]) ∧ (Blk w6 kb 41 #[.pointer (some ⟨p,0,none⟩),qPtr o] ∧ Blk w6 ob 25 (opC 0 xa xb xe)) ∧ Blk w6 (ob + 1 + 1) 48 sdA ∧ Blk w6 (ob + 1) 48 sdA ∧ ∃ o',PairWent W0 p g o (k.act (QO.mk 0 xa xb xe)).1 o' w6 ∧ qPtr o' = qPtr o from by
  obtain ⟨he,o',hw,hq⟩:=hPost;obtain ⟨a1,a2,a3⟩:=do_after (hKB.below hbd) (hOB.below hbd) (hSB.below hbd) (hRB.below hbd) (fun j hj => ⟨fun e => by subst e;exact hnk hj,hlo j hj⟩) ⟨by omega,by omega⟩ hw;exact ⟨he,a1,a2,a3,o',hw,hq⟩))
 have HLL:=Lib.hid (show (k.act (QO.mk 0 xa xb xe)).2.lost = [] from by
  cases hq : k.q with
  | none => rw [act_none (show (0 : Int) ≤ 0 by decide) (show (0 : Int) ≤ 3 by decide) hq]
  | some q => rw [act_some (show (0 : Int) ≤ 0 by decide) (show (0 : Int) ≤ 3 by decide) hq])
 unfold QO.val
 go_enter Tryz.func19,Tryz.ntmps19
 clear hW h hk hG hKB hOB hRB hSB hPW hGW
 go_wp2_with fail
 rw [HWW.out]
 refine wp_region_held_drew (S:=(fun V : World => Blk V kb 41 #[.pointer (some ⟨p,0,none⟩),qPtr o] ∧ Blk V ob 25 (opC 0 xa xb xe))) (by kernel_rfl) hSS (fun hHeld => ?_)
 rw [hW0] at hHeld ⊢
 refine tk_ 0 12 rfl rfl ?_
 refine tk_ 1 13 rfl rfl ?_
 refine tk_ 2 14 rfl rfl ?_
 refine tk_ 3 15 rfl rfl ?_ (fun wx hSx => by obtain ⟨k0,k1,-⟩:=hSx.1.c2;obtain ⟨j0,j1,j2,j3,j4,j5,j6,j7,j8,j9⟩:=op_cells hSx.2;go_simp;try with_reducible rfl)
 refine tk_ 4 16 rfl rfl ?_
 refine tk_ 5 17 rfl rfl ?_ (fun wx hSx => by obtain ⟨k0,k1,-⟩:=hSx.1.c2;obtain ⟨j0,j1,j2,j3,j4,j5,j6,j7,j8,j9⟩:=op_cells hSx.2;go_simp;try with_reducible rfl)
 refine rdy1 6 rfl (fun K hK => ?_)
 go_simp
 with_reducible refine hCall.mono ?_
 rintro ev w6 hPost
 obtain ⟨hev,hKeep,hSaid,hRest⟩:=hAfter.out ev w6 hPost
 subst hev
 obtain ⟨s0,s1,s2,f0,f1,f2⟩:=hSaid.c3
 try go_wp2_with fail
 refine hK.out _ _ hKeep (fun hHeld => ?_)
 clear hK K
 refine tk_ 7 11 rfl rfl ?_
 refine tk_ 8 19 rfl rfl ?_
 refine tk_ 9 20 rfl rfl ?_
 refine tk_ 10 21 rfl rfl ?_
 refine rdy1 11 rfl (fun K hK => ?_)
 go_simp
 refine hK.out _ _ ⟨hHeld.1.set_other (by have:=HNE.out.1;omega) _ _,hHeld.2.set_other (by have:=HNE.out.2;omega) _ _⟩ (fun hHeld => ?_)
 clear hK K
 refine tk_ 12 22 rfl rfl ?_
 refine rdy1 13 rfl (fun K hK => ?_)
 go_simp
 refine hK.out _ _ ⟨hHeld.1.set_other (by have:=HNE.out.1;omega) _ _,hHeld.2.set_other (by have:=HNE.out.2;omega) _ _⟩ (fun hHeld => ?_)
 clear hK K
 refine wpAnyH_done (by kernel_rfl) ?_ _
 try simp only [Act.put,List.setIfInBounds_toArray,List.set_cons_succ,List.set_cons_zero]
 obtain ⟨hRB6,o',hPQ,hqp⟩:=hRest
 obtain ⟨r0,r1,r2,fr0,fr1,fr2⟩:=hRB6.c3
 have HF:=Lib.hid (show Blk (((((w6.setCell ⟨ob + 1 + 1,0,none⟩ (.int .i64 (k.act (QO.mk 0 xa xb xe)).2.n)).setCell ⟨ob + 1 + 1,2,none⟩ (.int .i64 (k.act (QO.mk 0 xa xb xe)).2.err)).setCell ⟨ob + 1,0,none⟩ (.int .i64 (k.act (QO.mk 0 xa xb xe)).2.n)).setCell ⟨ob + 1,1,none⟩ (.slice none 0 0)).setCell ⟨ob + 1,2,none⟩ (.int .i64 (k.act (QO.mk 0 xa xb xe)).2.err)) (ob + 1) 48 #[.int .i64 (k.act (QO.mk 0 xa xb xe)).2.n,.slice none 0 0,.int .i64 (k.act (QO.mk 0 xa xb xe)).2.err] from blk_set3 ((hRB6.set_other (g':=ob + 1 + 1) (by omega) _ _).set_other (g':=ob + 1 + 1) (by omega) _ _) (.int .i64 (k.act (QO.mk 0 xa xb xe)).2.n) (.slice none 0 0) (.int .i64 (k.act (QO.mk 0 xa xb xe)).2.err))
 have HD:=Lib.hid (show DoAt False w kb p g o (k.act (QO.mk 0 xa xb xe)) (.returned (.agg #[.int .i64 (k.act (QO.mk 0 xa xb xe)).2.n,.slice none 0 0,.int .i64 (k.act (QO.mk 0 xa xb xe)).2.err])) (((((w6.setCell ⟨ob + 1 + 1,0,none⟩ (.int .i64 (k.act (QO.mk 0 xa xb xe)).2.n)).setCell ⟨ob + 1 + 1,2,none⟩ (.int .i64 (k.act (QO.mk 0 xa xb xe)).2.err)).setCell ⟨ob + 1,0,none⟩ (.int .i64 (k.act (QO.mk 0 xa xb xe)).2.n)).setCell ⟨ob + 1,1,none⟩ (.slice none 0 0)).setCell ⟨ob + 1,2,none⟩ (.int .i64 (k.act (QO.mk 0 xa xb xe)).2.err)) from
  do_fin hb0 hob ⟨rfl,rfl,hs0⟩ hPQ hqp hKeep.1 hkl hlo HLL.out (fun j a b => (set_heap b).trans ((set_heap b).trans ((set_heap b).trans ((set_heap a).trans (set_heap a))))) ⟨rfl,rfl,rfl,by simp⟩ (fun j hj => hPQ.at_.lt hj))
 clear hRB6 hPQ hKeep hCall hSS
 go_wp2_with fail
 refine bodyPost_ret (v:=_) (ret_said (pt:=4) (by kernel_rfl) rfl HF.out) rfl ?_
 have hD:=HD.out
 exact hD
set_option maxRecDepth 100000 in
theorem do_1 (xa xb : Int) (xe : EI) (h : PairAt w p g o k) (hk : Blk w kb 41 #[.pointer (some ⟨p,0,none⟩),qPtr o]) (hnk : ¬ KF o p g kb) (hG : Glb (KF o p g) aA aT aN aW aS w) (_hok : (QO.mk 1 xa xb xe).Ok) (hn : k.d.n + 600 ≤ 1000000) :
  Calls Tryz.prog 19 #[.pointer (some ⟨kb,0,none⟩),(QO.mk 1 xa xb xe).val] w (DoAt False w kb p g o (k.act (QO.mk 1 xa xb xe))):=by
 obtain ⟨ob,hob⟩ : ∃ ob,w.heap.size = ob:=⟨_,rfl⟩
 have hb : Below w.heap.size w (((w.alloc (.cells (opC 1 xa xb xe) 25)).alloc (.cells sdA 48)).alloc (.cells sdA 48)):=ext_alloc (ext_alloc (ext_new w _) _) _
 have hOB : Blk (((w.alloc (.cells (opC 1 xa xb xe) 25)).alloc (.cells sdA 48)).alloc (.cells sdA 48)) ob 25 (opC 1 xa xb xe):=((Blk.at_ (w:=w) hob.symm).alloc _).alloc _
 have hRB : Blk (((w.alloc (.cells (opC 1 xa xb xe) 25)).alloc (.cells sdA 48)).alloc (.cells sdA 48)) (ob + 1) 48 sdA:=(Blk.at_ (by simp [hob])).alloc _
 have hSB : Blk (((w.alloc (.cells (opC 1 xa xb xe) 25)).alloc (.cells sdA 48)).alloc (.cells sdA 48)) (ob + 1 + 1) 48 sdA:=Blk.at_ (by simp [hob])
 have hKB:=hk.below hb
 have hPW:=h.below hb
 have hsz : (((w.alloc (.cells (opC 1 xa xb xe) 25)).alloc (.cells sdA 48)).alloc (.cells sdA 48)).heap.size = ob + 3:=by simp [hob]
 have hGW:=hG.foot (Foot.of_below hb)
 obtain ⟨W,hW⟩ : ∃ W,(((w.alloc (.cells (opC 1 xa xb xe) 25)).alloc (.cells sdA 48)).alloc (.cells sdA 48)) = W:=⟨_,rfl⟩
 rw [hW] at hb hOB hRB hSB hKB hPW hsz hGW
 have hkl : kb < ob:=by rw [← hob];exact hk.lt
 have hlo : ∀ j,KF o p g j → j < ob:=fun j hj => by rw [← hob];exact h.lt hj
 have HNE:=Lib.hid (show kb ≠ ob + 1 + 1 ∧ ob ≠ ob + 1 + 1 from ⟨by omega,by omega⟩)
 have HWW:=Lib.hid hW
 have hSS : Blk W.drew kb 41 #[.pointer (some ⟨p,0,none⟩),qPtr o] ∧ Blk W.drew ob 25 (opC 1 xa xb xe):=⟨hKB,hOB⟩
 obtain ⟨W0,hW0⟩ : ∃ W0,W.drew = W0:=⟨_,rfl⟩
 have hbd : Below W.heap.size W W0:=by rw [← hW0];exact (Below.refl _ _).drew
 have hb0:=hb.trans (hbd.mono hb.size)
 have hs0 : W0.heap.size = ob + 3:=by rw [← hW0];exact hsz
 have hCall:=pair_sent (QO.mk 1 xa xb xe) rfl (hPW.below hbd) (hGW.foot (Foot.of_below hbd)) hn
 have hAfter:=Lib.hid (fun (ev : Ending) (w6 : World) (hPost : ev = .returned (.int .i64 (k.act (QO.mk 1 xa xb xe)).2.err) ∧ (k.act (QO.mk 1 xa xb xe)).2.n = 0 ∧ ∃ o',PairWent W0 p g o (k.act (QO.mk 1 xa xb xe)).1 o' w6 ∧ qPtr o' = qPtr o) => (show ev = .returned (.int .i64 (k.act (QO.mk 1 xa xb xe)).2.err) ∧ (Blk w6 kb 41 #[.pointer (some ⟨p,0,none⟩),qPtr o] ∧ Blk w6 ob 25 (opC 1 xa xb xe)) ∧ Blk w6 (ob + 1 + 1) 48 sdA ∧ Blk w6 (ob + 1) 48 sdA ∧ (k.act (QO.mk 1 xa xb xe)).2.n = 0 ∧ ∃ o',PairWent W0 p g o (k.act (QO.mk 1 xa xb xe)).1 o' w6 ∧ qPtr o' = qPtr o from by
  obtain ⟨he,hn0,o',hw,hq⟩:=hPost;obtain ⟨a1,a2,a3⟩:=do_after (hKB.below hbd) (hOB.below hbd) (hSB.below hbd) (hRB.below hbd) (fun j hj => ⟨fun e => by subst e;exact hnk hj,hlo j hj⟩) ⟨by omega,by omega⟩ hw;exact ⟨he,a1,a2,a3,hn0,o',hw,hq⟩))
 have HLL:=Lib.hid (show (k.act (QO.mk 1 xa xb xe)).2.lost = [] from by
  cases hq : k.q with
  | none => rw [act_none (show (0 : Int) ≤ 1 by decide) (show (1 : Int) ≤ 3 by decide) hq]
  | some q => rw [act_some (show (0 : Int) ≤ 1 by decide) (show (1 : Int) ≤ 3 by decide) hq])
 unfold QO.val
 go_enter Tryz.func19,Tryz.ntmps19
 clear hW h hk hG hKB hOB hRB hSB hPW hGW
 go_wp2_with fail
 rw [HWW.out]
 refine wp_region_held_drew (S:=(fun V : World => Blk V kb 41 #[.pointer (some ⟨p,0,none⟩),qPtr o] ∧ Blk V ob 25 (opC 1 xa xb xe))) (by kernel_rfl) hSS (fun hHeld => ?_)
 rw [hW0] at hHeld ⊢
 refine tk_ 0 25 rfl rfl ?_
 refine tk_ 1 26 rfl rfl ?_
 refine tk_ 2 27 rfl rfl ?_
 refine tk_ 3 28 rfl rfl ?_ (fun wx hSx => by obtain ⟨k0,k1,-⟩:=hSx.1.c2;obtain ⟨j0,j1,j2,j3,j4,j5,j6,j7,j8,j9⟩:=op_cells hSx.2;go_simp;try with_reducible rfl)
 refine tk_ 4 29 rfl rfl ?_
 refine tk_ 5 30 rfl rfl ?_ (fun wx hSx => by obtain ⟨k0,k1,-⟩:=hSx.1.c2;obtain ⟨j0,j1,j2,j3,j4,j5,j6,j7,j8,j9⟩:=op_cells hSx.2;go_simp;try with_reducible rfl)
 refine rdy1 6 rfl (fun K hK => ?_)
 go_simp
 with_reducible refine hCall.mono ?_
 rintro ev w6 hPost
 obtain ⟨hev,hKeep,hSaid,hRest⟩:=hAfter.out ev w6 hPost
 subst hev
 obtain ⟨s0,s1,s2,f0,f1,f2⟩:=hSaid.c3
 try go_wp2_with fail
 refine hK.out _ _ hKeep (fun hHeld => ?_)
 clear hK K
 refine tk_ 7 32 rfl rfl ?_
 refine rdy1 8 rfl (fun K hK => ?_)
 go_simp
 refine hK.out _ _ ⟨hHeld.1.set_other (by have:=HNE.out.1;omega) _ _,hHeld.2.set_other (by have:=HNE.out.2;omega) _ _⟩ (fun hHeld => ?_)
 clear hK K
 refine wpAnyH_done (by kernel_rfl) ?_ _
 try simp only [Act.put,List.setIfInBounds_toArray,List.set_cons_succ,List.set_cons_zero]
 obtain ⟨hRB6,hN0,o',hPQ,hqp⟩:=hRest
 obtain ⟨r0,r1,r2,fr0,fr1,fr2⟩:=hRB6.c3
 have HF:=Lib.hid (show Blk ((((w6.setCell ⟨ob + 1 + 1,2,none⟩ (.int .i64 (k.act (QO.mk 1 xa xb xe)).2.err)).setCell ⟨ob + 1,0,none⟩ (.int .i64 0)).setCell ⟨ob + 1,1,none⟩ (.slice none 0 0)).setCell ⟨ob + 1,2,none⟩ (.int .i64 (k.act (QO.mk 1 xa xb xe)).2.err)) (ob + 1) 48 #[.int .i64 0,.slice none 0 0,.int .i64 (k.act (QO.mk 1 xa xb xe)).2.err] from blk_set3 (hRB6.set_other (g':=ob + 1 + 1) (by omega) _ _) (.int .i64 0) (.slice none 0 0) (.int .i64 (k.act (QO.mk 1 xa xb xe)).2.err))
 have HD:=Lib.hid (show DoAt False w kb p g o (k.act (QO.mk 1 xa xb xe)) (.returned (.agg #[.int .i64 (k.act (QO.mk 1 xa xb xe)).2.n,.slice none 0 0,.int .i64 (k.act (QO.mk 1 xa xb xe)).2.err])) ((((w6.setCell ⟨ob + 1 + 1,2,none⟩ (.int .i64 (k.act (QO.mk 1 xa xb xe)).2.err)).setCell ⟨ob + 1,0,none⟩ (.int .i64 0)).setCell ⟨ob + 1,1,none⟩ (.slice none 0 0)).setCell ⟨ob + 1,2,none⟩ (.int .i64 (k.act (QO.mk 1 xa xb xe)).2.err)) from
  do_fin hb0 hob ⟨rfl,rfl,hs0⟩ hPQ hqp hKeep.1 hkl hlo HLL.out (fun j a b => (set_heap b).trans ((set_heap b).trans ((set_heap b).trans ((set_heap a))))) ⟨rfl,rfl,rfl,by simp⟩ (fun j hj => hPQ.at_.lt hj))
 have HN0:=Lib.hid hN0
 clear hN0
 clear hRB6 hPQ hKeep hCall hSS
 go_wp2_with fail
 refine bodyPost_ret (v:=_) (ret_said (pt:=4) (by kernel_rfl) rfl HF.out) rfl ?_
 have hD:=HD.out
 rw [HN0.out] at hD
 exact hD
set_option maxRecDepth 100000 in
theorem do_2 (xa xb : Int) (xe : EI) (h : PairAt w p g o k) (hk : Blk w kb 41 #[.pointer (some ⟨p,0,none⟩),qPtr o]) (hnk : ¬ KF o p g kb) (hG : Glb (KF o p g) aA aT aN aW aS w) (_hok : (QO.mk 2 xa xb xe).Ok) (hn : k.d.n + 600 ≤ 1000000) :
  Calls Tryz.prog 19 #[.pointer (some ⟨kb,0,none⟩),(QO.mk 2 xa xb xe).val] w (DoAt False w kb p g o (k.act (QO.mk 2 xa xb xe))):=by
 obtain ⟨ob,hob⟩ : ∃ ob,w.heap.size = ob:=⟨_,rfl⟩
 have hb : Below w.heap.size w (((w.alloc (.cells (opC 2 xa xb xe) 25)).alloc (.cells sdA 48)).alloc (.cells sdA 48)):=ext_alloc (ext_alloc (ext_new w _) _) _
 have hOB : Blk (((w.alloc (.cells (opC 2 xa xb xe) 25)).alloc (.cells sdA 48)).alloc (.cells sdA 48)) ob 25 (opC 2 xa xb xe):=((Blk.at_ (w:=w) hob.symm).alloc _).alloc _
 have hRB : Blk (((w.alloc (.cells (opC 2 xa xb xe) 25)).alloc (.cells sdA 48)).alloc (.cells sdA 48)) (ob + 1) 48 sdA:=(Blk.at_ (by simp [hob])).alloc _
 have hSB : Blk (((w.alloc (.cells (opC 2 xa xb xe) 25)).alloc (.cells sdA 48)).alloc (.cells sdA 48)) (ob + 1 + 1) 48 sdA:=Blk.at_ (by simp [hob])
 have hKB:=hk.below hb
 have hPW:=h.below hb
 have hsz : (((w.alloc (.cells (opC 2 xa xb xe) 25)).alloc (.cells sdA 48)).alloc (.cells sdA 48)).heap.size = ob + 3:=by simp [hob]
 have hGW:=hG.foot (Foot.of_below hb)
 obtain ⟨W,hW⟩ : ∃ W,(((w.alloc (.cells (opC 2 xa xb xe) 25)).alloc (.cells sdA 48)).alloc (.cells sdA 48)) = W:=⟨_,rfl⟩
 rw [hW] at hb hOB hRB hSB hKB hPW hsz hGW
 have hkl : kb < ob:=by rw [← hob];exact hk.lt
 have hlo : ∀ j,KF o p g j → j < ob:=fun j hj => by rw [← hob];exact h.lt hj
 have HNE:=Lib.hid (show kb ≠ ob + 1 + 1 ∧ ob ≠ ob + 1 + 1 from ⟨by omega,by omega⟩)
 have HWW:=Lib.hid hW
 have hSS : Blk W.drew kb 41 #[.pointer (some ⟨p,0,none⟩),qPtr o] ∧ Blk W.drew ob 25 (opC 2 xa xb xe):=⟨hKB,hOB⟩
 obtain ⟨W0,hW0⟩ : ∃ W0,W.drew = W0:=⟨_,rfl⟩
 have hbd : Below W.heap.size W W0:=by rw [← hW0];exact (Below.refl _ _).drew
 have hb0:=hb.trans (hbd.mono hb.size)
 have hs0 : W0.heap.size = ob + 3:=by rw [← hW0];exact hsz
 have hCall:=pair_done (QO.mk 2 xa xb xe) rfl (hPW.below hbd) (hGW.foot (Foot.of_below hbd)) hn
 have hAfter:=Lib.hid (fun (ev : Ending) (w6 : World) (hPost : ev = .returned (.int .i64 (k.act (QO.mk 2 xa xb xe)).2.err) ∧ (k.act (QO.mk 2 xa xb xe)).2.n = 0 ∧ ∃ o',PairWent W0 p g o (k.act (QO.mk 2 xa xb xe)).1 o' w6 ∧ qPtr o' = qPtr o) => (show ev = .returned (.int .i64 (k.act (QO.mk 2 xa xb xe)).2.err) ∧ (Blk w6 kb 41 #[.pointer (some ⟨p,0,none⟩),qPtr o] ∧ Blk w6 ob 25 (opC 2 xa xb xe)) ∧ Blk w6 (ob + 1 + 1) 48 sdA ∧ Blk w6 (ob + 1) 48 sdA ∧ (k.act (QO.mk 2 xa xb xe)).2.n = 0 ∧ ∃ o',PairWent W0 p g o (k.act (QO.mk 2 xa xb xe)).1 o' w6 ∧ qPtr o' = qPtr o from by
  obtain ⟨he,hn0,o',hw,hq⟩:=hPost;obtain ⟨a1,a2,a3⟩:=do_after (hKB.below hbd) (hOB.below hbd) (hSB.below hbd) (hRB.below hbd) (fun j hj => ⟨fun e => by subst e;exact hnk hj,hlo j hj⟩) ⟨by omega,by omega⟩ hw;exact ⟨he,a1,a2,a3,hn0,o',hw,hq⟩))
 have HLL:=Lib.hid (show (k.act (QO.mk 2 xa xb xe)).2.lost = [] from by
  cases hq : k.q with
  | none => rw [act_none (show (0 : Int) ≤ 2 by decide) (show (2 : Int) ≤ 3 by decide) hq]
  | some q => rw [act_some (show (0 : Int) ≤ 2 by decide) (show (2 : Int) ≤ 3 by decide) hq])
 unfold QO.val
 go_enter Tryz.func19,Tryz.ntmps19
 clear hW h hk hG hKB hOB hRB hSB hPW hGW
 go_wp2_with fail
 rw [HWW.out]
 refine wp_region_held_drew (S:=(fun V : World => Blk V kb 41 #[.pointer (some ⟨p,0,none⟩),qPtr o] ∧ Blk V ob 25 (opC 2 xa xb xe))) (by kernel_rfl) hSS (fun hHeld => ?_)
 rw [hW0] at hHeld ⊢
 refine tk_ 0 35 rfl rfl ?_
 refine tk_ 1 36 rfl rfl ?_
 refine tk_ 2 37 rfl rfl ?_
 refine tk_ 3 38 rfl rfl ?_ (fun wx hSx => by obtain ⟨k0,k1,-⟩:=hSx.1.c2;obtain ⟨j0,j1,j2,j3,j4,j5,j6,j7,j8,j9⟩:=op_cells hSx.2;go_simp;try with_reducible rfl)
 refine tk_ 4 39 rfl rfl ?_
 refine tk_ 5 40 rfl rfl ?_ (fun wx hSx => by obtain ⟨k0,k1,-⟩:=hSx.1.c2;obtain ⟨j0,j1,j2,j3,j4,j5,j6,j7,j8,j9⟩:=op_cells hSx.2;go_simp;try with_reducible rfl)
 refine rdy1 6 rfl (fun K hK => ?_)
 go_simp
 with_reducible refine hCall.mono ?_
 rintro ev w6 hPost
 obtain ⟨hev,hKeep,hSaid,hRest⟩:=hAfter.out ev w6 hPost
 subst hev
 obtain ⟨s0,s1,s2,f0,f1,f2⟩:=hSaid.c3
 try go_wp2_with fail
 refine hK.out _ _ hKeep (fun hHeld => ?_)
 clear hK K
 refine tk_ 7 42 rfl rfl ?_
 refine rdy1 8 rfl (fun K hK => ?_)
 go_simp
 refine hK.out _ _ ⟨hHeld.1.set_other (by have:=HNE.out.1;omega) _ _,hHeld.2.set_other (by have:=HNE.out.2;omega) _ _⟩ (fun hHeld => ?_)
 clear hK K
 refine wpAnyH_done (by kernel_rfl) ?_ _
 try simp only [Act.put,List.setIfInBounds_toArray,List.set_cons_succ,List.set_cons_zero]
 obtain ⟨hRB6,hN0,o',hPQ,hqp⟩:=hRest
 obtain ⟨r0,r1,r2,fr0,fr1,fr2⟩:=hRB6.c3
 have HF:=Lib.hid (show Blk ((((w6.setCell ⟨ob + 1 + 1,2,none⟩ (.int .i64 (k.act (QO.mk 2 xa xb xe)).2.err)).setCell ⟨ob + 1,0,none⟩ (.int .i64 0)).setCell ⟨ob + 1,1,none⟩ (.slice none 0 0)).setCell ⟨ob + 1,2,none⟩ (.int .i64 (k.act (QO.mk 2 xa xb xe)).2.err)) (ob + 1) 48 #[.int .i64 0,.slice none 0 0,.int .i64 (k.act (QO.mk 2 xa xb xe)).2.err] from blk_set3 (hRB6.set_other (g':=ob + 1 + 1) (by omega) _ _) (.int .i64 0) (.slice none 0 0) (.int .i64 (k.act (QO.mk 2 xa xb xe)).2.err))
 have HD:=Lib.hid (show DoAt False w kb p g o (k.act (QO.mk 2 xa xb xe)) (.returned (.agg #[.int .i64 (k.act (QO.mk 2 xa xb xe)).2.n,.slice none 0 0,.int .i64 (k.act (QO.mk 2 xa xb xe)).2.err])) ((((w6.setCell ⟨ob + 1 + 1,2,none⟩ (.int .i64 (k.act (QO.mk 2 xa xb xe)).2.err)).setCell ⟨ob + 1,0,none⟩ (.int .i64 0)).setCell ⟨ob + 1,1,none⟩ (.slice none 0 0)).setCell ⟨ob + 1,2,none⟩ (.int .i64 (k.act (QO.mk 2 xa xb xe)).2.err)) from
  do_fin hb0 hob ⟨rfl,rfl,hs0⟩ hPQ hqp hKeep.1 hkl hlo HLL.out (fun j a b => (set_heap b).trans ((set_heap b).trans ((set_heap b).trans ((set_heap a))))) ⟨rfl,rfl,rfl,by simp⟩ (fun j hj => hPQ.at_.lt hj))
 have HN0:=Lib.hid hN0
 clear hN0
 clear hRB6 hPQ hKeep hCall hSS
 go_wp2_with fail
 refine bodyPost_ret (v:=_) (ret_said (pt:=4) (by kernel_rfl) rfl HF.out) rfl ?_
 have hD:=HD.out
 rw [HN0.out] at hD
 exact hD
set_option maxRecDepth 100000 in
theorem do_3 (xa xb : Int) (xe : EI) (h : PairAt w p g o k) (hk : Blk w kb 41 #[.pointer (some ⟨p,0,none⟩),qPtr o]) (hnk : ¬ KF o p g kb) (hG : Glb (KF o p g) aA aT aN aW aS w) (_hok : (QO.mk 3 xa xb xe).Ok) (hn : k.d.n + 600 ≤ 1000000) :
  Calls Tryz.prog 19 #[.pointer (some ⟨kb,0,none⟩),(QO.mk 3 xa xb xe).val] w (DoAt False w kb p g o (k.act (QO.mk 3 xa xb xe))):=by
 obtain ⟨ob,hob⟩ : ∃ ob,w.heap.size = ob:=⟨_,rfl⟩
 have hb : Below w.heap.size w (((w.alloc (.cells (opC 3 xa xb xe) 25)).alloc (.cells sdA 48)).alloc (.cells sdA 48)):=ext_alloc (ext_alloc (ext_new w _) _) _
 have hOB : Blk (((w.alloc (.cells (opC 3 xa xb xe) 25)).alloc (.cells sdA 48)).alloc (.cells sdA 48)) ob 25 (opC 3 xa xb xe):=((Blk.at_ (w:=w) hob.symm).alloc _).alloc _
 have hRB : Blk (((w.alloc (.cells (opC 3 xa xb xe) 25)).alloc (.cells sdA 48)).alloc (.cells sdA 48)) (ob + 1) 48 sdA:=(Blk.at_ (by simp [hob])).alloc _
 have hSB : Blk (((w.alloc (.cells (opC 3 xa xb xe) 25)).alloc (.cells sdA 48)).alloc (.cells sdA 48)) (ob + 1 + 1) 48 sdA:=Blk.at_ (by simp [hob])
 have hKB:=hk.below hb
 have hPW:=h.below hb
 have hsz : (((w.alloc (.cells (opC 3 xa xb xe) 25)).alloc (.cells sdA 48)).alloc (.cells sdA 48)).heap.size = ob + 3:=by simp [hob]
 have hGW:=hG.foot (Foot.of_below hb)
 obtain ⟨W,hW⟩ : ∃ W,(((w.alloc (.cells (opC 3 xa xb xe) 25)).alloc (.cells sdA 48)).alloc (.cells sdA 48)) = W:=⟨_,rfl⟩
 rw [hW] at hb hOB hRB hSB hKB hPW hsz hGW
 have hkl : kb < ob:=by rw [← hob];exact hk.lt
 have hlo : ∀ j,KF o p g j → j < ob:=fun j hj => by rw [← hob];exact h.lt hj
 have HNE:=Lib.hid (show kb ≠ ob + 1 + 1 ∧ ob ≠ ob + 1 + 1 from ⟨by omega,by omega⟩)
 have HWW:=Lib.hid hW
 have hSS : Blk W.drew kb 41 #[.pointer (some ⟨p,0,none⟩),qPtr o] ∧ Blk W.drew ob 25 (opC 3 xa xb xe):=⟨hKB,hOB⟩
 obtain ⟨W0,hW0⟩ : ∃ W0,W.drew = W0:=⟨_,rfl⟩
 have hbd : Below W.heap.size W W0:=by rw [← hW0];exact (Below.refl _ _).drew
 have hb0:=hb.trans (hbd.mono hb.size)
 have hs0 : W0.heap.size = ob + 3:=by rw [← hW0];exact hsz
 have hCall:=pair_drop (QO.mk 3 xa xb xe) rfl (hPW.below hbd) (hGW.foot (Foot.of_below hbd)) hn
 have hAfter:=Lib.hid (fun (ev : Ending) (w6 : World) (hPost : ev = .returned (.int .i64 (k.act (QO.mk 3 xa xb xe)).2.err) ∧ (k.act (QO.mk 3 xa xb xe)).2.n = 0 ∧ ∃ o',PairWent W0 p g o (k.act (QO.mk 3 xa xb xe)).1 o' w6 ∧ qPtr o' = qPtr o) => (show ev = .returned (.int .i64 (k.act (QO.mk 3 xa xb xe)).2.err) ∧ (Blk w6 kb 41 #[.pointer (some ⟨p,0,none⟩),qPtr o] ∧ Blk w6 ob 25 (opC 3 xa xb xe)) ∧ Blk w6 (ob + 1 + 1) 48 sdA ∧ Blk w6 (ob + 1) 48 sdA ∧ (k.act (QO.mk 3 xa xb xe)).2.n = 0 ∧ ∃ o',PairWent W0 p g o (k.act (QO.mk 3 xa xb xe)).1 o' w6 ∧ qPtr o' = qPtr o from by
  obtain ⟨he,hn0,o',hw,hq⟩:=hPost;obtain ⟨a1,a2,a3⟩:=do_after (hKB.below hbd) (hOB.below hbd) (hSB.below hbd) (hRB.below hbd) (fun j hj => ⟨fun e => by subst e;exact hnk hj,hlo j hj⟩) ⟨by omega,by omega⟩ hw;exact ⟨he,a1,a2,a3,hn0,o',hw,hq⟩))
 have HLL:=Lib.hid (show (k.act (QO.mk 3 xa xb xe)).2.lost = [] from by
  cases hq : k.q with
  | none => rw [act_none (show (0 : Int) ≤ 3 by decide) (show (3 : Int) ≤ 3 by decide) hq]
  | some q => rw [act_some (show (0 : Int) ≤ 3 by decide) (show (3 : Int) ≤ 3 by decide) hq])
 unfold QO.val
 go_enter Tryz.func19,Tryz.ntmps19
 clear hW h hk hG hKB hOB hRB hSB hPW hGW
 go_wp2_with fail
 rw [HWW.out]
 refine wp_region_held_drew (S:=(fun V : World => Blk V kb 41 #[.pointer (some ⟨p,0,none⟩),qPtr o] ∧ Blk V ob 25 (opC 3 xa xb xe))) (by kernel_rfl) hSS (fun hHeld => ?_)
 rw [hW0] at hHeld ⊢
 refine tk_ 0 45 rfl rfl ?_
 refine tk_ 1 46 rfl rfl ?_
 refine tk_ 2 47 rfl rfl ?_
 refine tk_ 3 48 rfl rfl ?_ (fun wx hSx => by obtain ⟨k0,k1,-⟩:=hSx.1.c2;obtain ⟨j0,j1,j2,j3,j4,j5,j6,j7,j8,j9⟩:=op_cells hSx.2;go_simp;try with_reducible rfl)
 refine tk_ 4 49 rfl rfl ?_
 refine tk_ 5 50 rfl rfl ?_ (fun wx hSx => by obtain ⟨k0,k1,-⟩:=hSx.1.c2;obtain ⟨j0,j1,j2,j3,j4,j5,j6,j7,j8,j9⟩:=op_cells hSx.2;go_simp;try with_reducible rfl)
 refine rdy1 6 rfl (fun K hK => ?_)
 go_simp
 with_reducible refine hCall.mono ?_
 rintro ev w6 hPost
 obtain ⟨hev,hKeep,hSaid,hRest⟩:=hAfter.out ev w6 hPost
 subst hev
 obtain ⟨s0,s1,s2,f0,f1,f2⟩:=hSaid.c3
 try go_wp2_with fail
 refine hK.out _ _ hKeep (fun hHeld => ?_)
 clear hK K
 refine tk_ 7 52 rfl rfl ?_
 refine rdy1 8 rfl (fun K hK => ?_)
 go_simp
 refine hK.out _ _ ⟨hHeld.1.set_other (by have:=HNE.out.1;omega) _ _,hHeld.2.set_other (by have:=HNE.out.2;omega) _ _⟩ (fun hHeld => ?_)
 clear hK K
 refine wpAnyH_done (by kernel_rfl) ?_ _
 try simp only [Act.put,List.setIfInBounds_toArray,List.set_cons_succ,List.set_cons_zero]
 obtain ⟨hRB6,hN0,o',hPQ,hqp⟩:=hRest
 obtain ⟨r0,r1,r2,fr0,fr1,fr2⟩:=hRB6.c3
 have HF:=Lib.hid (show Blk ((((w6.setCell ⟨ob + 1 + 1,2,none⟩ (.int .i64 (k.act (QO.mk 3 xa xb xe)).2.err)).setCell ⟨ob + 1,0,none⟩ (.int .i64 0)).setCell ⟨ob + 1,1,none⟩ (.slice none 0 0)).setCell ⟨ob + 1,2,none⟩ (.int .i64 (k.act (QO.mk 3 xa xb xe)).2.err)) (ob + 1) 48 #[.int .i64 0,.slice none 0 0,.int .i64 (k.act (QO.mk 3 xa xb xe)).2.err] from blk_set3 (hRB6.set_other (g':=ob + 1 + 1) (by omega) _ _) (.int .i64 0) (.slice none 0 0) (.int .i64 (k.act (QO.mk 3 xa xb xe)).2.err))
 have HD:=Lib.hid (show DoAt False w kb p g o (k.act (QO.mk 3 xa xb xe)) (.returned (.agg #[.int .i64 (k.act (QO.mk 3 xa xb xe)).2.n,.slice none 0 0,.int .i64 (k.act (QO.mk 3 xa xb xe)).2.err])) ((((w6.setCell ⟨ob + 1 + 1,2,none⟩ (.int .i64 (k.act (QO.mk 3 xa xb xe)).2.err)).setCell ⟨ob + 1,0,none⟩ (.int .i64 0)).setCell ⟨ob + 1,1,none⟩ (.slice none 0 0)).setCell ⟨ob + 1,2,none⟩ (.int .i64 (k.act (QO.mk 3 xa xb xe)).2.err)) from
  do_fin hb0 hob ⟨rfl,rfl,hs0⟩ hPQ hqp hKeep.1 hkl hlo HLL.out (fun j a b => (set_heap b).trans ((set_heap b).trans ((set_heap b).trans ((set_heap a))))) ⟨rfl,rfl,rfl,by simp⟩ (fun j hj => hPQ.at_.lt hj))
 have HN0:=Lib.hid hN0
 clear hN0
 clear hRB6 hPQ hKeep hCall hSS
 go_wp2_with fail
 refine bodyPost_ret (v:=_) (ret_said (pt:=4) (by kernel_rfl) rfl HF.out) rfl ?_
 have hD:=HD.out
 rw [HN0.out] at hD
 exact hD
end Go.Proofs.YtmebjdbkngehiaaGreatDoor
