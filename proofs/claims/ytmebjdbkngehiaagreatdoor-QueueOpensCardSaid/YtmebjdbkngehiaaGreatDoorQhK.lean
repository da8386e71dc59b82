/-
  What became of an entry (became, Sent, Done, Drop), and more of the kind. Conditions: as the theorems' own hypotheses say.
-/
import Derived.Test.YtmebjdbkngehiaaGreatDoorQvK
import Derived.Test.YtmebjdbkngehiaaGreatDoorQhI
import Derived.Test.YtmebjdbkngehiaaGreatDoorQhJ
namespace Go.Proofs.YtmebjdbkngehiaaGreatDoor
open Go.RowKit Go.Shelf
set_option maxHeartbeats 8000000
variable {w w' : World} {c : QC} {v : QV} {p g : Nat} {q r r' a b : QN} {aA aT aN aW aS : Addr} {o : Option (QC × QV)} {k : KN} {d : DN} {x : QO}
def BecAt (w : World) (c : QC) (v : QV) (p g : Nat) (r : QN × Int) (e : Ending) (w' : World) : Prop := e = .returned (errQ r.2) ∧ ∃ q',QN.Like q' r.1 ∧ QWent w c v p g q' w'
def TolAt (w : World) (c : QC) (v : QV) (p g : Nat) (r : QN × Int) (e : Ending) (w' : World) : Prop := e = .returned (.int .i64 r.2) ∧ ∃ q',QN.Like q' r.1 ∧ QWent w c v p g q' w'
set_option maxRecDepth 100000 in
theorem became_any (op id : Int) (hop : op = 2 ∨ op = 3 ∨ op = 4) (h : QAt w c v p g q) (hG : Glb (QF2 c v p g) aA aT aN aW aS w) (hW : QW q) (hn : q.d.n + 600 ≤ 1000000) :
  Calls Tryz.prog 65 #[.pointer (some ⟨c.b,0,none⟩),.int .i64 op,.int .i64 id] w (BecAt w c v p g (q.became op id)):=by
 have hUp:=qup_at h
 have HEND:=Lib.hid (fun (V : World) (hb : Below w.heap.size w V) => (show QWent w c v p g q V from .refl h hb))
 by_cases hdn : q.down = true
 ·have hpi : q.became op id = (q,180):=by unfold QN.became;rw [if_pos hdn]
  have HP:=Lib.hid hpi;rw [hdn,if_pos rfl] at hUp;unfold QWrV at hUp;clear h hG hW hpi hdn;go_enter Tryz.func65,Tryz.ntmps65;go_wp2_with fail
  refine hUp.mono ?_;rintro ev w1 ⟨rfl,rfl⟩;go_wp2_with fail
  go_ret;exact ⟨by rw [HP.out];rfl,q,by rw [HP.out];exact QN.Like.refl q,HEND.out _ (Below.refl _ _)⟩
 ·have hu : q.down = false:=by simpa using hdn
  rw [hu] at hUp;rw [if_neg (by decide)] at hUp;have hAt:=at_any id h.st (by have:=hW.ok.len;show q.s.L.length ≤ 1000000;omega);have hlg:=fun (hi : okNum id = true) (V : World) (hb : Below w.heap.size w V) => log_any ⟨op,id,ByteArray.empty⟩ (h.below hb) (hG.foot (Foot.of_below hb)) hW hu (rightV_iff.2 ⟨(by show 1 ≤ op;omega),(by show op ≤ 9;omega),hi,(by decide : ByteArray.empty.size ≤ 2000)⟩) hn;have HLG:=Lib.hid hlg
  cases hp : q.s.place id with
  | none =>
   have hpl : placeL q.s.L id = none:=hp;have hpi : q.became op id = (q,193):=by unfold QN.became;rw [if_neg hdn,hp]
   have HP:=Lib.hid hpi;have hz : placeZ q.s.L id = -1:=by unfold placeZ;rw [hpl]
   rw [hz] at hAt;clear h hG hW hpi hdn hlg hp hpl hz;go_enter Tryz.func65,Tryz.ntmps65;go_wp2_with fail
   refine hUp.mono ?_;rintro ev w1 ⟨rfl,rfl⟩;go_wp2_with fail
   refine hAt.mono ?_;rintro ev w2 ⟨rfl,hb2⟩;have hE:=HEND.out _ hb2;go_wp2_with fail
   go_ret;exact ⟨by rw [HP.out];rfl,q,by rw [HP.out];exact QN.Like.refl q,hE⟩
  | some i =>
   have hpl : placeL q.s.L id = some i:=hp;obtain ⟨hi,hid,-⟩:=placeL_some hpl;have hnum : okNum id = true:=by rw [← hid];exact (EI.right_iff.1 (hW.ok.ents _ (List.getElem_mem hi))).2.1
   have hz : placeZ q.s.L id = (i : Int):=by unfold placeZ;rw [hpl]
   rw [hz,decide_eq_true (show (0 : Int) ≤ (i : Int) by omega)] at hAt;have i0 : (0 : Int) ≤ (i : Int):=by omega
   by_cases h2 : op = 2
   ·subst h2
    have hpi : q.became 2 id = if (q.s.L[i]).sent = true then (q,0) else q.log ⟨2,id,ByteArray.empty⟩:=by
     unfold QN.became;rw [if_neg hdn,hp];dsimp only;rw [List.getD_eq_getElem?_getD,List.getElem?_eq_getElem hi,Option.getD_some];by_cases hs : (q.s.L[i]).sent = true
     ·rw [if_pos ⟨rfl,hs⟩,if_pos hs]
     ·rw [if_neg (fun q => hs q.2),if_neg hs]
    have HP:=Lib.hid hpi;have HRW:=Lib.hid (fun (V : World) (hb : Below w.heap.size w V) => (show ∃ g c1,V.cell? ⟨c.b,2,none⟩ = some (.slice (some ⟨g,0,none⟩) q.s.L.length c1) ∧ EAt V g (i * 7) q.s.L[i] from by
     have h':=h.below hb;obtain ⟨-,A,cp,e,hr⟩:=rowE_own h'.st.ent;obtain ⟨g,rfl,-,hc⟩:=hr (by omega);have x2:=h'.blk.c7.1.2.2.1;rw [e] at x2;exact ⟨g,cp,x2,hc i hi⟩))
    have i1 : (i : Int) < (q.s.L.length : Int):=by omega
    have HNM:=Lib.hid hnum;clear h hG hW hpi hdn hlg hp hpl hz hid hnum;generalize q.s.L[i] = y at *;go_enter Tryz.func65,Tryz.ntmps65;go_wp2_with fail
    refine hUp.mono ?_;rintro ev w1 ⟨rfl,rfl⟩;go_wp2_with fail
    refine hAt.mono ?_;rintro ev w2 ⟨rfl,hb2⟩;have hE:=HEND.out _ hb2;have hL:=HLG.out HNM.out w2 hb2;change Calls _ _ #[.pointer (some ⟨c.b,0,none⟩),.agg #[.int .i64 2,.int .i64 id,.string ⟨#[]⟩]] _ _ at hL;obtain ⟨gg,c1,x2,-,-,-,-,-,-,x6⟩:=HRW.out w2 hb2;have HF:=Lib.hid (Foot.of_below (F:=QF2 c v p g) hb2);clear hb2;rcases bool_cases y.sent with hs | hs
    ·rw [hs] at x6
     have hP:=HP.out;rw [if_neg (by rw [hs];decide)] at hP;have HP:=Lib.hid hP;clear hP hs;go_wp2_with fail
     with_reducible refine hL.mono ?_
     rintro ev w3 ⟨rfl,q',hlk,hW⟩;have hfin:=QWent.trans rfl HF.out (fun k hk => .inl hk) hW;clear hL hW;go_wp2_with fail
     go_ret;exact ⟨by rw [HP.out];rfl,q',by rw [HP.out];exact hlk,hfin⟩
    ·rw [hs] at x6
     have hP:=HP.out;rw [if_pos hs] at hP;have HP:=Lib.hid hP;clear hP hs hL;go_wp2_with fail
     go_ret;exact ⟨by rw [HP.out];rfl,q,by rw [HP.out];exact QN.Like.refl q,hE⟩
   ·have hpi : q.became op id = q.log ⟨op,id,ByteArray.empty⟩:=by
     unfold QN.became;rw [if_neg hdn,hp];dsimp only;rw [if_neg (fun q => h2 q.1)]
    have HP:=Lib.hid hpi;have HNM:=Lib.hid hnum;clear h hG hW hpi hdn hlg hp hpl hz hid hnum;go_enter Tryz.func65,Tryz.ntmps65;go_wp2_with fail
    refine hUp.mono ?_;rintro ev w1 ⟨rfl,rfl⟩;go_wp2_with fail
    refine hAt.mono ?_;rintro ev w2 ⟨rfl,hb2⟩;have hL:=HLG.out HNM.out w2 hb2;change Calls _ _ #[.pointer (some ⟨c.b,0,none⟩),.agg #[.int .i64 op,.int .i64 id,.string ⟨#[]⟩]] _ _ at hL;have HF:=Lib.hid (Foot.of_below (F:=QF2 c v p g) hb2);clear hb2;go_wp2_with fail
    with_reducible refine hL.mono ?_
    rintro ev w3 ⟨rfl,q',hlk,hW⟩;have hfin:=QWent.trans rfl HF.out (fun k hk => .inl hk) hW;clear hL hW;go_wp2_with fail
    go_ret;exact ⟨by rw [HP.out];rfl,q',by rw [HP.out];exact hlk,hfin⟩
theorem told_errQ (x : Int) (w : World) (h : SInv w) : Calls Tryz.prog 62 #[errQ x] w (Ret (.int .i64 x) w) := by
 unfold errQ
 by_cases h0 : x = 0
 ·rw [if_pos h0,h0];exact qtold_ok w
 ·rw [if_neg h0];exact qtold_wr x w h
theorem became_nil (op id : Int) (w : World) : Calls Tryz.prog 65 #[.pointer none,.int .i64 op,.int .i64 id] w (Ret (QWrV 1) w) := by
 have h1:=qup_nil w
 unfold QWrV at h1 ⊢
 go_enter Tryz.func65,Tryz.ntmps65
 go_wp2_with fail
 refine h1.mono ?_
 rintro ev w1 ⟨rfl,rfl⟩
 go_wp2_with fail
 go_ret
 exact ⟨rfl,ext_refl _⟩
theorem put_nil (e : EI) (w : World) : Calls Tryz.prog 67 #[.pointer none,e.val] w (Ret (.tuple #[.int .i64 0,QWrV 1]) w) := by
 have h1:=qup_nil (w.alloc (.cells #[.int .i64 e.id,.int .i64 e.side,.string e.key,.string e.data,.int .i64 e.due,.bool e.cust,.bool e.sent] 23))
 have hb:=ext_new w (.cells #[.int .i64 e.id,.int .i64 e.side,.string e.key,.string e.data,.int .i64 e.due,.bool e.cust,.bool e.sent] 23)
 unfold QWrV at h1 ⊢
 unfold EI.val
 go_enter Tryz.func67,Tryz.ntmps67
 go_wp2_with fail
 refine h1.mono ?_
 rintro ev w1 ⟨rfl,rfl⟩
 go_wp2_with fail
 go_ret2
 exact ⟨rfl,hb⟩
set_option maxRecDepth 100000 in
theorem Put_nil (e : EI) (w : World) (hI : SInv w) : Calls Tryz.prog 39 #[.pointer none,e.val] w (Ret (.tuple #[.int .i64 0,.int .i64 1]) w) := by
 have hb:=ext_new w (.cells #[.int .i64 e.id,.int .i64 e.side,.string e.key,.string e.data,.int .i64 e.due,.bool e.cust,.bool e.sent] 23)
 have h1:=put_nil e (w.alloc (.cells #[.int .i64 e.id,.int .i64 e.side,.string e.key,.string e.data,.int .i64 e.due,.bool e.cust,.bool e.sent] 23))
 have h2:=fun W (q : Below w.heap.size w W) => qtold_wr 1 W (hI.below q)
 unfold QWrV at h1 h2
 unfold EI.val at h1 ⊢
 go_enter Tryz.func39,Tryz.ntmps39
 go_wp2_with fail
 refine h1.mono ?_
 rintro ev w1 ⟨rfl,hb1⟩
 have hbb:=ext_trans hb hb1
 go_wp2_with fail
 refine (h2 w1 hbb).mono ?_
 rintro ev w2 ⟨rfl,hb2⟩
 go_wp2_with fail
 go_ret2
 exact ⟨rfl,ext_trans hbb hb2⟩
def PutAt2 (w : World) (c : QC) (v : QV) (p g : Nat) (r : QN × Int × Int) (e : Ending) (w' : World) : Prop := e = .returned (.tuple #[.int .i64 r.2.1,.int .i64 r.2.2]) ∧ ∃ q',QN.Like q' r.1 ∧ QWent w c v p g q' w'
theorem went_glb (h : QWent w c v p g q w') (hG : Glb (QF2 c v p g) aA aT aN aW aS w) : GInv w' aA aT aN aW aS := by
 obtain ⟨c',v',-,-,hf,-⟩:=h
 exact hG _ hf
theorem went_ext {w1 w2 : World} (h : QWent w c v p g q w1) (hb : Below w1.heap.size w1 w2) : QWent w c v p g q w2 := by
 obtain ⟨c',v',h1,h2,h3,h4⟩:=h
 exact ⟨c',v',h1,h2.below hb,h3.ext hb,h4⟩
set_option maxRecDepth 100000 in
theorem Put_any (e : EI) (h : QAt w c v p g q) (hG : Glb (QF2 c v p g) aA aT aN aW aS w) (hW : QW q) (hk : e.key.size ≤ 1000000) (hdz : e.data.size ≤ 1000000) (hn : q.d.n + 600 ≤ 1000000) :
  Calls Tryz.prog 39 #[.pointer (some ⟨c.b,0,none⟩),e.val] w (PutAt2 w c v p g (q.put e)):=by
 have hb:=ext_new w (.cells #[.int .i64 e.id,.int .i64 e.side,.string e.key,.string e.data,.int .i64 e.due,.bool e.cust,.bool e.sent] 23)
 have h1:=put_in e (h.below hb) (hG.foot (Foot.of_below hb)) hW hk hdz hn
 have HP:=Lib.hid (putI_put q e)
 have HF:=Lib.hid (Foot.of_below (F:=QF2 c v p g) hb)
 have HG:=Lib.hid hG
 obtain ⟨⟨q1,n1,x1⟩,hr⟩ : ∃ r,q.putI e = r:=⟨_,rfl⟩
 rw [hr] at h1
 have HR:=Lib.hid hr
 unfold EI.val at h1 ⊢
 clear h hG hW hr
 go_enter Tryz.func39,Tryz.ntmps39
 go_wp2_with fail
 refine h1.mono ?_
 rintro ev w1 ⟨rfl,q',hlk,hW⟩
 have hfin:=QWent.trans rfl HF.out (fun k hk => .inl hk) hW
 have HI:=Lib.hid (went_glb hfin HG.out).d.s
 have HFI:=Lib.hid hfin
 have HLK:=Lib.hid hlk
 clear hW hfin hlk
 by_cases h0 : x1 = 0
 ·subst h0
  have HPE:=Lib.hid (show q.put e = (q1,n1,0) from by rw [HP.out,HR.out];rfl);unfold errQ;go_wp2_with fail
  go_ret2
  exact ⟨by rw [HPE.out];rfl,q',by rw [HPE.out];exact HLK.out,HFI.out⟩
 ·have HPE:=Lib.hid (show q.put e = (q1,0,x1) from by rw [HP.out,HR.out];dsimp only;rw [if_neg h0])
  have hT:=qtold_wr x1 w1 HI.out;unfold QWrV at hT;unfold errQ QWrV;dsimp only;rw [if_neg h0];have H0:=Lib.hid h0;clear h0;go_wp2_with fail
  refine hT.mono ?_;rintro ev w2 ⟨rfl,hb2⟩;have HF2:=Lib.hid (went_ext HFI.out hb2);go_wp2_with fail
  go_ret2
  exact ⟨by rw [HPE.out];rfl,q',by rw [HPE.out];exact HLK.out,HF2.out⟩
set_option maxRecDepth 100000 in
theorem Sent_nil (id : Int) (w : World) (hI : SInv w) : Calls Tryz.prog 38 #[.pointer none,.int .i64 id] w (Ret (.int .i64 1) w) := by
 have h1:=became_nil 2 id w
 have h2:=fun W (q : Below w.heap.size w W) => qtold_wr 1 W (hI.below q)
 unfold QWrV at h1 h2
 go_enter Tryz.func38,Tryz.ntmps38
 go_wp2_with fail
 refine h1.mono ?_
 rintro ev w1 ⟨rfl,hb1⟩
 go_wp2_with fail
 refine (h2 w1 hb1).mono ?_
 rintro ev w2 ⟨rfl,hb2⟩
 go_wp2_with fail
 go_ret
 exact ⟨rfl,ext_trans hb1 hb2⟩
set_option maxRecDepth 100000 in
theorem Sent_any (id : Int) (h : QAt w c v p g q) (hG : Glb (QF2 c v p g) aA aT aN aW aS w) (hW : QW q) (hn : q.d.n + 600 ≤ 1000000) :
  Calls Tryz.prog 38 #[.pointer (some ⟨c.b,0,none⟩),.int .i64 id] w (TolAt w c v p g (q.became 2 id)):=by
 have h1:=became_any 2 id (by omega) h hG hW hn
 have HG:=Lib.hid hG
 clear h hG hW
 go_enter Tryz.func38,Tryz.ntmps38
 go_wp2_with fail
 refine h1.mono ?_
 rintro ev w1 ⟨rfl,q',hlk,hW⟩
 have h2:=told_errQ (q.became 2 id).2 w1 (went_glb hW HG.out).d.s
 have HLK:=Lib.hid hlk
 have HWW:=Lib.hid hW
 clear hlk hW
 generalize errQ (q.became 2 id).2 = ev at *
 go_wp2_with fail
 refine h2.mono ?_
 rintro ev w2 ⟨rfl,hb2⟩
 have HF2:=Lib.hid (went_ext HWW.out hb2)
 go_wp2_with fail
 go_ret
 exact ⟨rfl,q',HLK.out,HF2.out⟩
set_option maxRecDepth 100000 in
theorem Done_nil (id : Int) (w : World) (hI : SInv w) : Calls Tryz.prog 32 #[.pointer none,.int .i64 id] w (Ret (.int .i64 1) w) := by
 have h1:=became_nil 3 id w
 have h2:=fun W (q : Below w.heap.size w W) => qtold_wr 1 W (hI.below q)
 unfold QWrV at h1 h2
 go_enter Tryz.func32,Tryz.ntmps32
 go_wp2_with fail
 refine h1.mono ?_
 rintro ev w1 ⟨rfl,hb1⟩
 go_wp2_with fail
 refine (h2 w1 hb1).mono ?_
 rintro ev w2 ⟨rfl,hb2⟩
 go_wp2_with fail
 go_ret
 exact ⟨rfl,ext_trans hb1 hb2⟩
set_option maxRecDepth 100000 in
theorem Done_any (id : Int) (h : QAt w c v p g q) (hG : Glb (QF2 c v p g) aA aT aN aW aS w) (hW : QW q) (hn : q.d.n + 600 ≤ 1000000) :
  Calls Tryz.prog 32 #[.pointer (some ⟨c.b,0,none⟩),.int .i64 id] w (TolAt w c v p g (q.became 3 id)):=by
 have h1:=became_any 3 id (by omega) h hG hW hn
 have HG:=Lib.hid hG
 clear h hG hW
 go_enter Tryz.func32,Tryz.ntmps32
 go_wp2_with fail
 refine h1.mono ?_
 rintro ev w1 ⟨rfl,q',hlk,hW⟩
 have h2:=told_errQ (q.became 3 id).2 w1 (went_glb hW HG.out).d.s
 have HLK:=Lib.hid hlk
 have HWW:=Lib.hid hW
 clear hlk hW
 generalize errQ (q.became 3 id).2 = ev at *
 go_wp2_with fail
 refine h2.mono ?_
 rintro ev w2 ⟨rfl,hb2⟩
 have HF2:=Lib.hid (went_ext HWW.out hb2)
 go_wp2_with fail
 go_ret
 exact ⟨rfl,q',HLK.out,HF2.out⟩
set_option maxRecDepth 100000 in
theorem Drop_nil (id : Int) (w : World) (hI : SInv w) : Calls Tryz.prog 33 #[.pointer none,.int .i64 id] w (Ret (.int .i64 1) w) := by
 have h1:=became_nil 4 id w
 have h2:=fun W (q : Below w.heap.size w W) => qtold_wr 1 W (hI.below q)
 unfold QWrV at h1 h2
 go_enter Tryz.func33,Tryz.ntmps33
 go_wp2_with fail
 refine h1.mono ?_
 rintro ev w1 ⟨rfl,hb1⟩
 go_wp2_with fail
 refine (h2 w1 hb1).mono ?_
 rintro ev w2 ⟨rfl,hb2⟩
 go_wp2_with fail
 go_ret
 exact ⟨rfl,ext_trans hb1 hb2⟩
set_option maxRecDepth 100000 in
theorem Drop_any (id : Int) (h : QAt w c v p g q) (hG : Glb (QF2 c v p g) aA aT aN aW aS w) (hW : QW q) (hn : q.d.n + 600 ≤ 1000000) :
  Calls Tryz.prog 33 #[.pointer (some ⟨c.b,0,none⟩),.int .i64 id] w (TolAt w c v p g (q.became 4 id)):=by
 have h1:=became_any 4 id (by omega) h hG hW hn
 have HG:=Lib.hid hG
 clear h hG hW
 go_enter Tryz.func33,Tryz.ntmps33
 go_wp2_with fail
 refine h1.mono ?_
 rintro ev w1 ⟨rfl,q',hlk,hW⟩
 have h2:=told_errQ (q.became 4 id).2 w1 (went_glb hW HG.out).d.s
 have HLK:=Lib.hid hlk
 have HWW:=Lib.hid hW
 clear hlk hW
 generalize errQ (q.became 4 id).2 = ev at *
 go_wp2_with fail
 refine h2.mono ?_
 rintro ev w2 ⟨rfl,hb2⟩
 have HF2:=Lib.hid (went_ext HWW.out hb2)
 go_wp2_with fail
 go_ret
 exact ⟨rfl,q',HLK.out,HF2.out⟩
def qPtr : Option (QC × QV) → Value
 | none => .pointer none
 | some cv => .pointer (some ⟨cv.1.b,0,none⟩)
def KF (o : Option (QC × QV)) (p g : Nat) (j : Nat) : Prop := j = p ∨ j = g ∨ ∃ cv,o = some cv ∧ QF cv.1 cv.2 j
theorem KF.two {j : Nat} (h : j = p ∨ j = g) : KF o p g j := h.elim .inl fun h => .inr (.inl h)
theorem kf_some (c : QC) (v : QV) (p g j : Nat) : KF (some (c,v)) p g j ↔ QF2 c v p g j := by
 unfold KF QF2
 constructor
 ·rintro (h | h | ⟨cv,h1,h2⟩)
  ·exact .inr (.inl h)
  ·exact .inr (.inr h)
  ·injection h1 with h1
   subst h1;exact .inl h2
 ·rintro (h | h | h)
  ·exact .inr (.inr ⟨_,rfl,h⟩)
  ·exact .inl h
  ·exact .inr (.inl h)
theorem kf_none (p g j : Nat) : KF none p g j ↔ j = p ∨ j = g := by
 unfold KF
 constructor
 ·rintro (h | h | ⟨cv,h1,-⟩)
  ·exact .inl h
  ·exact .inr h
  ·cases h1
 ·exact fun h => h.elim .inl fun h => .inr (.inl h)
structure PairAt (w : World) (p g : Nat) (o : Option (QC × QV)) (k : KN) : Prop where
 disk : DAt w p g k.d
 pos : 0 < k.d.L.length
 none_ : k.q = none → o = none
 some_ : ∀ q,k.q = some q → ∃ c v q',o = some (c,v) ∧ QN.Like q' q ∧ QW q ∧ QAt w c v p g q' ∧ q.d = k.d
theorem PairAt.below (h : PairAt w p g o k) (hb : Below w.heap.size w w') : PairAt w' p g o k :=
 ⟨h.disk.below hb,h.pos,h.none_,fun q hq => by
  obtain ⟨c,v,q',h1,h2,h3,h4,h5⟩:=h.some_ q hq;exact ⟨c,v,q',h1,h2,h3,h4.below hb,h5⟩⟩
theorem PairAt.lt (h : PairAt w p g o k) {j : Nat} (hj : KF o p g j) : j < w.heap.size := by
 rcases hj with rfl | rfl | ⟨cv,h1,h2⟩
 ·exact h.disk.disk.lt
 ·exact h.disk.secs.lt
 ·cases hq : k.q with
  | none => exact absurd (h.none_ hq) (by rw [h1];simp)
  | some q =>
   obtain ⟨c,v,q',e1,-,-,e2,-⟩:=h.some_ q hq;rw [e1] at h1;injection h1 with h1
   subst h1;exact e2.st.lt h2
theorem PairAt.kept (h : PairAt w p g o k) (hb : ∀ j,KF o p g j → w'.heap[j]? = w.heap[j]?) : PairAt w' p g o k :=
 ⟨⟨h.disk.disk.kept (hb p (.inl rfl)),h.disk.secs.kept (hb g (.inr (.inl rfl))),h.disk.ne,h.disk.fit,h.disk.len,h.disk.left,h.disk.n⟩,h.pos,h.none_,fun q hq => by
  obtain ⟨c,v,q',h1,h2,h3,h4,h5⟩:=h.some_ q hq;exact ⟨c,v,q',h1,h2,h3,h4.keptF fun j hj => hb j (by rw [h1];exact (kf_some c v p g j).2 hj),h5⟩⟩
structure PairWent (w : World) (p g : Nat) (o : Option (QC × QV)) (k : KN) (o' : Option (QC × QV)) (w' : World) : Prop where
 at_ : PairAt w' p g o' k
 foot : Foot (KF o p g) w w'
 new_ : ∀ j,KF o' p g j → KF o p g j ∨ w.heap.size ≤ j
theorem PairWent.refl (h : PairAt w p g o k) (hb : Below w.heap.size w w') : PairWent w p g o k o w' := ⟨h.below hb,.of_below hb,fun _ q => .inl q⟩
theorem pair_call (hw : QWent w c v p g r' w') (hl : QN.Like r' r) (hr : QW r) : ∃ o',PairWent w p g (some (c,v)) ⟨r.d,some r⟩ (some o') w' ∧ o'.1.b = c.b := by
 obtain ⟨c',v',h1,h2,h3,h4⟩:=hw
 refine ⟨(c',v'),⟨⟨?_,?_,fun e => (by cases e),fun x hx => ?_⟩,h3.mono fun j hj => (kf_some c v p g j).2 hj,fun j hj => ?_⟩,h1⟩
 ·have:=h2.disk
  rw [hl.d] at this;exact this
 ·have:=hr.nine
  show 0 < r.d.L.length;omega
 ·injection hx with hx
  subst hx;exact ⟨c',v',r',rfl,hl,hr,h2,rfl⟩
 ·rcases h4 j ((kf_some c' v' p g j).1 hj) with q | q
  ·exact .inl ((kf_some c v p g j).2 q)
  ·exact .inr q
theorem pair_turn (h : PairAt w p g o k) (hd : DAt w' p g d) (hb : But2 p g w w') (hl : d.L.length = k.d.L.length) (hdn : d.down = k.d.down) : PairWent w p g o ⟨d,k.q.map fun q => { q with d := d }⟩ o w' := by
 refine ⟨⟨hd,by rw [show (⟨d,k.q.map fun q => { q with d:=d }⟩ : KN).d = d from rfl,hl];exact h.pos,fun e => ?_,fun q hq => ?_⟩,⟨hb.os,hb.tape,hb.output,hb.size,fun j hj hn => hb.block j hj (fun e => hn (.inl e)) (fun e => hn (.inr (.inl e)))⟩,fun j hj => .inl hj⟩
 ·cases hq : k.q with
  | none => exact h.none_ hq
  | some q => dsimp only at e;rw [hq] at e;cases e
 ·cases hkq : k.q with
  | none => dsimp only at hq;rw [hkq] at hq;cases hq
  | some q0 =>
   dsimp only at hq;rw [hkq] at hq;injection hq with hq
   subst hq;obtain ⟨c,v,q',h1,h2,h3,h4,h5⟩:=h.some_ q0 hkq;have hq'd : q'.d = k.d:=h2.d.trans h5;refine ⟨c,v,{ q' with d:=d },h1,⟨rfl,h2.s,h2.down,fun e => ?_⟩,⟨h3.ok,?_,hd.fit,fun e => ?_,fun e => ?_⟩,h4.turn hd hb (by rw [hq'd];exact hl),rfl⟩
   ·rw [h2.up e]
   ·show 9 ≤ d.L.length
    rw [hl,← h5];exact h3.nine
   ·show d.down = false
    rw [hdn,← h5];exact h3.up e
   ·show q0.tail ≤ szN d.L.length
    rw [hl,← h5];exact h3.tail e
theorem arm_down (d : DN) (a b : Int) : (d.arm a b).1.down = d.down := by unfold DN.arm; split <;> rfl
theorem newN_len (hf : d.Fit) : ∀ q,(newN d).2.1 = some q → QW q ∧ q.d = (newN d).1 ∧ 9 ≤ d.L.length := by
 intro q hq
 unfold newN at hq ⊢
 split at hq
 ·cases hq
 ·rename_i hd
  split at hq
  ·cases hq
  ·rename_i h9
   split at hq
   ·rename_i h0
    rw [if_neg hd,if_neg h9,if_pos h0];injection hq with hq
    subst hq;have hqw:=open_qw hf (by simpa using hd) (by omega);exact ⟨(drops_qw _ hqw rfl fun e he => (EI.right_iff.1 (hqw.ok.ents e (List.mem_filter.1 he).1)).2.1).1,rfl,by omega⟩
   ·cases hq
theorem pair_new {e : Ending} (h : NewAt p g (newN d) w e w') (hf : d.Fit) (hp : 0 < (newN d).1.L.length) : ∃ o' lv,e = .returned (.tuple #[qPtr o',lv,.int .i64 (newN d).2.2.2]) ∧ w'.ownsRow w.heap.size 23 7 lv (newN d).2.2.1.length (cellsE (newN d).2.2.1) ∧ PairWent w p g o ⟨(newN d).1,(newN d).2.1⟩ o' w' := by
 obtain ⟨qv,lv,h1,h2,h3,h4,h5⟩:=h
 have hl:=newN_len hf
 cases hq : (newN d).2.1 with
 | none =>
  rw [hq] at h5;exact ⟨none,lv,by rw [h1,h5];rfl,h2,⟨⟨h4,hp,fun _ => rfl,fun q e => (by cases e)⟩,h3.mono fun j hj => KF.two hj,fun j hj => .inl (KF.two ((kf_none p g j).1 hj))⟩⟩
 | some q =>
  rw [hq] at h5;obtain ⟨c,v,h6,h7,h8⟩:=h5;obtain ⟨l1,l2,-⟩:=hl q hq;refine ⟨some (c,v),lv,by rw [h1,h6];rfl,h2,⟨⟨h4,hp,fun e => (by cases e),fun x hx => ?_⟩,h3.mono fun j hj => KF.two hj,fun j hj => ?_⟩⟩
  ·injection hx with hx
   subst hx;exact ⟨c,v,q,rfl,QN.Like.refl q,l1,h7,l2⟩
  ·rcases (kf_some c v p g j).1 hj with hj | hj | hj
   ·exact .inr (h8 j hj)
   ·exact .inl (.inl hj)
   ·exact .inl (.inr (.inl hj))
def QO.Ok (x : QO) : Prop := x.e.key.size ≤ 1000000 ∧ x.e.data.size ≤ 1000000 ∧ x.a ≤ 9223372036854775807
theorem act_none (h0 : 0 ≤ x.kind) (h3 : x.kind ≤ 3) (hq : k.q = none) : k.act x = (k,⟨0,[],1⟩) := by
 unfold KN.act
 rw [if_neg (by omega),if_pos h3,hq]
theorem act_some (h0 : 0 ≤ x.kind) (h3 : x.kind ≤ 3) (hq : k.q = some q) : k.act x = (⟨(q.call x).1.d,some (q.call x).1⟩,⟨(q.call x).2.1,[],(q.call x).2.2⟩) := by
 unfold KN.act
 rw [if_neg (by omega),if_pos h3,hq]
theorem like_put (h : QN.Like a b) (e : EI) : QN.Like (a.put e).1 (b.put e).1 ∧ (a.put e).2 = (b.put e).2 := by
 rcases bool_cases b.down with hd | hd
 ·rw [h.up hd];exact ⟨QN.Like.refl _,rfl⟩
 ·have ha : a.down = true:=h.down.trans hd
  have e1 : a.put e = (a,0,180):=by unfold QN.put;rw [if_pos ha]
  have e2 : b.put e = (b,0,180):=by unfold QN.put;rw [if_pos hd]
  rw [e1,e2];exact ⟨h,rfl⟩
theorem like_became (h : QN.Like a b) (op id : Int) : QN.Like (a.became op id).1 (b.became op id).1 ∧ (a.became op id).2 = (b.became op id).2 := by
 rcases bool_cases b.down with hd | hd
 ·rw [h.up hd];exact ⟨QN.Like.refl _,rfl⟩
 ·have ha : a.down = true:=h.down.trans hd
  have e1 : a.became op id = (a,180):=by unfold QN.became;rw [if_pos ha]
  have e2 : b.became op id = (b,180):=by unfold QN.became;rw [if_pos hd]
  rw [e1,e2];exact ⟨h,rfl⟩
theorem QN.Like.trans {c : QN} (h : QN.Like a b) (k : QN.Like b c) : QN.Like a c := ⟨h.d.trans k.d,h.s.trans k.s,h.down.trans k.down,fun e => (h.up (k.down.trans e)).trans (k.up e)⟩
theorem put_qw (h : QW q) (e : EI) : QW (q.put e).1 ∧ (q.put e).1.d.L.length = q.d.L.length ∧ (q.put e).1.d.n ≤ q.d.n + (2 * q.d.L.length + 2) := by
 unfold QN.put
 split
 ·exact ⟨h,rfl,Nat.le_add_right _ _⟩
 ·rename_i hd
  split
  ·exact ⟨h,rfl,Nat.le_add_right _ _⟩
  ·rename_i hr
   split
   ·exact ⟨h,rfl,Nat.le_add_right _ _⟩
   ·split
    ·exact ⟨h,rfl,Nat.le_add_right _ _⟩
    ·obtain ⟨a1,a2,a3,-⟩:=log_qw h (by simpa using hd) (rec_ok' (e:=q.asNew e) (Classical.not_not.1 hr).2.2)
     split
     ·exact ⟨a1,a2,a3⟩
     ·exact ⟨a1,a2,a3⟩
theorem became_qw (h : QW q) {op : Int} (hop : op = 2 ∨ op = 3 ∨ op = 4) (id : Int) : QW (q.became op id).1 ∧ (q.became op id).1.d.L.length = q.d.L.length ∧ (q.became op id).1.d.n ≤ q.d.n + (2 * q.d.L.length + 2) := by
 unfold QN.became
 split
 ·exact ⟨h,rfl,Nat.le_add_right _ _⟩
 ·rename_i hd
  split
  ·exact ⟨h,rfl,Nat.le_add_right _ _⟩
  ·rename_i i hp
   split
   ·exact ⟨h,rfl,Nat.le_add_right _ _⟩
   ·obtain ⟨a1,a2,a3,-⟩:=log_qw h (by simpa using hd) (r:=⟨op,id,ByteArray.empty⟩) (rightV_iff.2 ⟨(by show 1 ≤ op;omega),(by show op ≤ 9;omega),place_num h.ok hp,(by decide : ByteArray.empty.size ≤ 2000)⟩)
    exact ⟨a1,a2,a3⟩
theorem went_like {r2 : QN} (hw : QWent w c v p g r2 w') (h1 : QN.Like r2 r') (h2 : QN.Like r' r) (hr : QW r) : ∃ o',PairWent w p g (some (c,v)) ⟨r.d,some r⟩ o' w' ∧ qPtr o' = qPtr (some (c,v)) := by
 obtain ⟨o',ho,hb⟩:=pair_call hw (h1.trans h2) hr
 exact ⟨some o',ho,by show Value.pointer (some ⟨o'.1.b,0,none⟩) = _;rw [hb];rfl⟩
theorem pair_put (x : QO) (hx : x.kind = 0) (h : PairAt w p g o k) (hG : Glb (KF o p g) aA aT aN aW aS w) (hok : x.Ok) (hn : k.d.n + 600 ≤ 1000000) :
  Calls Tryz.prog 39 #[qPtr o,x.e.val] w fun ev w' => ev = .returned (.tuple #[.int .i64 (k.act x).2.n,.int .i64 (k.act x).2.err]) ∧ ∃ o',PairWent w p g o (k.act x).1 o' w' ∧ qPtr o' = qPtr o:=by
 cases hq : k.q with
 | none =>
  rw [act_none (by omega) (by omega) hq,h.none_ hq];refine (Put_nil x.e w hG.here.d.s).mono ?_;rintro ev w' ⟨rfl,hb⟩;exact ⟨rfl,none,(by have:=PairWent.refl h hb;rw [h.none_ hq] at this;exact this),rfl⟩
 | some q =>
  obtain ⟨c,v,q',h1,h2,h3,h4,h5⟩:=h.some_ q hq;subst h1;rw [act_some (by omega) (by omega) hq];have hc : q.call x = q.put x.e:=by unfold QN.call;rw [if_pos hx]
  rw [hc];refine (Put_any x.e h4 (hG.later (Foot.refl _ _) fun j hj => .inl ((kf_some c v p g j).2 hj)) (h2.qw h3) hok.1 hok.2.1 (by rw [h2.d,h5];exact hn)).mono ?_;rintro ev w' ⟨rfl,r2,hl,hw⟩;obtain ⟨l1,l2⟩:=like_put h2 x.e;rw [l2];exact ⟨rfl,went_like hw hl l1 (put_qw h3 x.e).1⟩
theorem pair_sent (x : QO) (hx : x.kind = 1) (h : PairAt w p g o k) (hG : Glb (KF o p g) aA aT aN aW aS w) (hn : k.d.n + 600 ≤ 1000000) :
  Calls Tryz.prog 38 #[qPtr o,.int .i64 x.a] w fun ev w' => ev = .returned (.int .i64 (k.act x).2.err) ∧ (k.act x).2.n = 0 ∧ ∃ o',PairWent w p g o (k.act x).1 o' w' ∧ qPtr o' = qPtr o:=by
 cases hq : k.q with
 | none =>
  rw [act_none (by omega) (by omega) hq,h.none_ hq];refine (Sent_nil x.a w hG.here.d.s).mono ?_;rintro ev w' ⟨rfl,hb⟩;exact ⟨rfl,rfl,none,(by have:=PairWent.refl h hb;rw [h.none_ hq] at this;exact this),rfl⟩
 | some q =>
  obtain ⟨c,v,q',h1,h2,h3,h4,h5⟩:=h.some_ q hq;subst h1;rw [act_some (by omega) (by omega) hq];have hc : q.call x = ((q.became 2 x.a).1,0,(q.became 2 x.a).2):=by unfold QN.call;rw [if_neg (by omega),hx];rfl
  rw [hc];refine (Sent_any x.a h4 (hG.later (Foot.refl _ _) fun j hj => .inl ((kf_some c v p g j).2 hj)) (h2.qw h3) (by rw [h2.d,h5];exact hn)).mono ?_;rintro ev w' ⟨rfl,r2,hl,hw⟩;obtain ⟨l1,l2⟩:=like_became h2 2 x.a;rw [l2];exact ⟨rfl,rfl,went_like hw hl l1 (became_qw h3 (by omega) x.a).1⟩
theorem pair_done (x : QO) (hx : x.kind = 2) (h : PairAt w p g o k) (hG : Glb (KF o p g) aA aT aN aW aS w) (hn : k.d.n + 600 ≤ 1000000) :
  Calls Tryz.prog 32 #[qPtr o,.int .i64 x.a] w fun ev w' => ev = .returned (.int .i64 (k.act x).2.err) ∧ (k.act x).2.n = 0 ∧ ∃ o',PairWent w p g o (k.act x).1 o' w' ∧ qPtr o' = qPtr o:=by
 cases hq : k.q with
 | none =>
  rw [act_none (by omega) (by omega) hq,h.none_ hq];refine (Done_nil x.a w hG.here.d.s).mono ?_;rintro ev w' ⟨rfl,hb⟩;exact ⟨rfl,rfl,none,(by have:=PairWent.refl h hb;rw [h.none_ hq] at this;exact this),rfl⟩
 | some q =>
  obtain ⟨c,v,q',h1,h2,h3,h4,h5⟩:=h.some_ q hq;subst h1;rw [act_some (by omega) (by omega) hq];have hc : q.call x = ((q.became 3 x.a).1,0,(q.became 3 x.a).2):=by unfold QN.call;rw [if_neg (by omega),hx];rfl
  rw [hc];refine (Done_any x.a h4 (hG.later (Foot.refl _ _) fun j hj => .inl ((kf_some c v p g j).2 hj)) (h2.qw h3) (by rw [h2.d,h5];exact hn)).mono ?_;rintro ev w' ⟨rfl,r2,hl,hw⟩;obtain ⟨l1,l2⟩:=like_became h2 3 x.a;rw [l2];exact ⟨rfl,rfl,went_like hw hl l1 (became_qw h3 (by omega) x.a).1⟩
theorem pair_drop (x : QO) (hx : x.kind = 3) (h : PairAt w p g o k) (hG : Glb (KF o p g) aA aT aN aW aS w) (hn : k.d.n + 600 ≤ 1000000) :
  Calls Tryz.prog 33 #[qPtr o,.int .i64 x.a] w fun ev w' => ev = .returned (.int .i64 (k.act x).2.err) ∧ (k.act x).2.n = 0 ∧ ∃ o',PairWent w p g o (k.act x).1 o' w' ∧ qPtr o' = qPtr o:=by
 cases hq : k.q with
 | none =>
  rw [act_none (by omega) (by omega) hq,h.none_ hq];refine (Drop_nil x.a w hG.here.d.s).mono ?_;rintro ev w' ⟨rfl,hb⟩;exact ⟨rfl,rfl,none,(by have:=PairWent.refl h hb;rw [h.none_ hq] at this;exact this),rfl⟩
 | some q =>
  obtain ⟨c,v,q',h1,h2,h3,h4,h5⟩:=h.some_ q hq;subst h1;rw [act_some (by omega) (by omega) hq];have hc : q.call x = ((q.became 4 x.a).1,0,(q.became 4 x.a).2):=by unfold QN.call;rw [if_neg (by omega),hx];rfl
  rw [hc];refine (Drop_any x.a h4 (hG.later (Foot.refl _ _) fun j hj => .inl ((kf_some c v p g j).2 hj)) (h2.qw h3) (by rw [h2.d,h5];exact hn)).mono ?_;rintro ev w' ⟨rfl,r2,hl,hw⟩;obtain ⟨l1,l2⟩:=like_became h2 4 x.a;rw [l2];exact ⟨rfl,rfl,went_like hw hl l1 (became_qw h3 (by omega) x.a).1⟩
end Go.Proofs.YtmebjdbkngehiaaGreatDoor
