/-
  An entry put (put). Conditions: as the theorems' own hypotheses say.
-/
import Derived.Test.YtmebjdbkngehiaaGreatDoorQhI
import Derived.Test.YtmebjdbkngehiaaGreatDoorQhF
import Derived.Test.YtmebjdbkngehiaaGreatDoorQhE
import Derived.Test.YtmebjdbkngehiaaGreatDoorQhB
import Derived.Test.YtmebjdbkngehiaaGreatDoorQhG
namespace Go.Proofs.YtmebjdbkngehiaaGreatDoor
open Go.RowKit Go.Shelf
set_option maxHeartbeats 40000000
variable {w : World} {c : QC} {v : QV} {p g : Nat} {q : QN} {aA aT aN aW aS : Addr}
def QN.putI (q : QN) (e : EI) : QN × Int × Int :=
 if q.down = true then (q,0,180)
 else if ¬ (e.id = 0 ∧ e.sent = false ∧ (q.asNew e).right = true) then (q,0,191)
 else if q.s.knows e.key = true then (q,0,192)
 else if 60 ≤ q.s.K.length ∨ q.sz < lenR q.s.snap + (14 + (q.asNew e).ri.d.size) + (q.s.owed + 28) + 1 then (q,0,194)
 else ((q.log (q.asNew e).ri).1,q.s.next,(q.log (q.asNew e).ri).2)
theorem putI_put (q : QN) (e : EI) : q.put e = ((q.putI e).1,if (q.putI e).2.2 = 0 then (q.putI e).2.1 else 0,(q.putI e).2.2) := by
 unfold QN.put QN.putI
 split
 ·rfl
 ·split
  ·rfl
  ·split
   ·rfl
   ·split
    ·rfl
    ·by_cases h : (q.log (q.asNew e).ri).2 = 0
     ·rw [if_pos h]
      simp [h]
     ·rw [if_neg h]
      simp [h]
def PutAt (w : World) (c : QC) (v : QV) (p g : Nat) (r : QN × Int × Int) (e : Ending) (w' : World) : Prop := e = .returned (.tuple #[.int .i64 r.2.1,errQ r.2.2]) ∧ ∃ q',QN.Like q' r.1 ∧ QWent w c v p g q' w'
theorem more_new (w : World) (r : RI) : MoreAt (w.alloc (.cells #[.int .i64 r.op,.int .i64 r.id,.string r.d] 128)) (some ⟨w.heap.size,0,none⟩) 1 [r] :=
 ⟨rfl,.inr ⟨_,rfl,by simp,fun j u hu => (Blk.new_ w 128 #[.int .i64 r.op,.int .i64 r.id,.string r.d]).cells_ j u (by simpa [cellsQ,RI.cs] using hu)⟩⟩
theorem ents_new (w : World) (e : EI) : EntsAt (w.alloc (.cells #[.int .i64 e.id,.int .i64 e.side,.string e.key,.string e.data,.int .i64 e.due,.bool e.cust,.bool e.sent] 23)) (some ⟨w.heap.size,0,none⟩) 1 [e] :=
 ⟨rfl,.inr ⟨_,rfl,by simp,fun j u hu => (Blk.new_ w 23 #[.int .i64 e.id,.int .i64 e.side,.string e.key,.string e.data,.int .i64 e.due,.bool e.cust,.bool e.sent]).cells_ j u (by simpa [cellsE,EI.cs] using hu)⟩⟩
theorem more_ri (w : World) (e : EI) : MoreAt (w.alloc (.cells #[.int .i64 1,.int .i64 e.id,.string (e.ri).d] 128)) (some ⟨w.heap.size,0,none⟩) 1 [e.ri] := more_new w e.ri
theorem next_bounds {s : SN} (h : s.Ok) : 0 ≤ s.next ∧ s.next ≤ 281474976710656 := by
 have h1 : ∀ (l : List KI) (n : Int),0 ≤ n → n ≤ 281474976710655 → (∀ k ∈ l,1 ≤ k.id ∧ k.id ≤ 281474976710655) → 0 ≤ l.foldl (fun n k => max n k.id) n ∧ l.foldl (fun n k => max n k.id) n ≤ 281474976710655:=by
  intro l
  induction l with
  | nil => intro n a b _;exact ⟨a,b⟩
  | cons k l ih =>
   intro n a b hk;obtain ⟨k1,k2⟩:=hk k (by simp);show 0 ≤ l.foldl (fun n k => max n k.id) (max n k.id) ∧ l.foldl (fun n k => max n k.id) (max n k.id) ≤ 281474976710655;exact ih _ (by omega) (by omega) fun x hx => hk x (by simp [hx])
 obtain ⟨a,b⟩:=h1 s.K 0 (by omega) (by omega) fun k hk => ⟨(h.keys k hk).1,(h.keys k hk).2.1⟩
 unfold SN.next
 omega
theorem put_tail {W9 : World} {eb : Nat} {r : RI} {cs : Array Value} {T : TypeId} (h : QAt w c v p g q) (hG : Glb (QF2 c v p g) aA aT aN aW aS w) (hW : QW q) (hu : q.down = false) (hr : r.ok = true) (hn : q.d.n + 600 ≤ 1000000) (hlt : ∀ k,QF2 c v p g k → k < eb) (hb9 : Below w.heap.size w W9) (hB : Blk W9 eb T cs) :
  ∀ w5,Below W9.heap.size W9 w5 → (Calls Tryz.prog 64 #[.pointer (some ⟨c.b,0,none⟩),r.val] w5 fun ev w' => ev = .returned (errQ (q.log r).2) ∧ ∃ q',QN.Like q' (q.log r).1 ∧ QWent w5 c v p g q' w') ∧ (∀ q' w6,QWent w5 c v p g q' w6 → Blk w6 eb T cs ∧ QWent w c v p g q' w6):=by
 intro w5 hb5
 have hb:=hb9.trans (hb5.mono hb9.size)
 have hB5:=hB.below hb5
 refine ⟨log_any r (h.below hb) (hG.foot (Foot.of_below hb)) hW hu hr hn,fun q' w6 hQ => ⟨?_,QWent.trans rfl (Foot.of_below hb) (fun k hk => .inl hk) hQ⟩⟩
 obtain ⟨c',v',-,-,hf,-⟩:=hQ
 exact hB5.kept (hf.block eb hB5.lt fun e => by have:=hlt eb e;omega)
set_option maxRecDepth 100000 in
theorem put_in (e : EI) (h : QAt w c v p g q) (hG : Glb (QF2 c v p g) aA aT aN aW aS w) (hW : QW q) (hk : e.key.size ≤ 1000000) (hdz : e.data.size ≤ 1000000) (hn : q.d.n + 600 ≤ 1000000) :
  Calls Tryz.prog 67 #[.pointer (some ⟨c.b,0,none⟩),e.val] w (PutAt w c v p g (q.putI e)):=by
 obtain ⟨eb,heb⟩ : ∃ eb,w.heap.size = eb:=⟨_,rfl⟩
 have hb0:=ext_new w (.cells #[.int .i64 e.id,.int .i64 e.side,.string e.key,.string e.data,.int .i64 e.due,.bool e.cust,.bool e.sent] 23)
 have hbx:=Blk.at_ (w:=w) (t:=23) (cs:=#[.int .i64 e.id,.int .i64 e.side,.string e.key,.string e.data,.int .i64 e.due,.bool e.cust,.bool e.sent]) heb.symm
 have hUp:=qup_at (h.below hb0)
 have hlt : ∀ k,QF2 c v p g k → k < eb:=fun k hk => by rw [← heb];exact h.lt hk
 unfold EI.val
 by_cases hdn : q.down = true
 ·have hpi : q.putI e = (q,0,180):=by unfold QN.putI;rw [if_pos hdn]
  rw [hpi];rw [hdn,if_pos rfl] at hUp;have HEND:=Lib.hid (show QWent w c v p g q (w.alloc (.cells #[.int .i64 e.id,.int .i64 e.side,.string e.key,.string e.data,.int .i64 e.due,.bool e.cust,.bool e.sent] 23)) from .refl h hb0);unfold QWrV at hUp;clear h hG hW hpi hdn;go_enter Tryz.func67,Tryz.ntmps67;go_wp2_with fail
  refine hUp.mono ?_;rintro ev w1 ⟨rfl,rfl⟩;go_wp2_with fail
  go_ret2
  exact ⟨rfl,q,QN.Like.refl q,HEND.out⟩
 ·have hu : q.down = false:=by simpa using hdn
  rw [hu] at hUp;rw [if_neg (by decide)] at hUp;obtain ⟨nb0,nb1⟩:=next_bounds hW.ok;have hNx:=next_any (h.below hb0).st (by have:=hW.ok.most;show q.s.K.length ≤ 1000;omega) nb0 nb1;obtain ⟨W,hWW⟩ : ∃ W,w.alloc (.cells #[.int .i64 e.id,.int .i64 e.side,.string e.key,.string e.data,.int .i64 e.due,.bool e.cust,.bool e.sent] 23) = W:=⟨_,rfl⟩
  rw [hWW] at hb0 hbx hUp hNx;obtain ⟨en,hen⟩ : ∃ en,q.asNew e = en:=⟨_,rfl⟩
  have hend : en.id = q.s.next ∧ en.side = e.side ∧ en.key = e.key ∧ en.data = e.data ∧ en.due = e.due ∧ en.cust = e.cust ∧ en.sent = e.sent:=by rw [← hen];exact ⟨rfl,rfl,rfl,rfl,rfl,rfl,rfl⟩
  have HEN:=Lib.hid hend;clear hend;have hpi : q.putI e = if ¬ (e.id = 0 ∧ e.sent = false ∧ en.right = true) then (q,0,191) else if q.s.knows e.key = true then (q,0,192)
   else if 60 ≤ q.s.K.length ∨ q.sz < lenR q.s.snap + (14 + (en.ri).d.size) + (q.s.owed + 28) + 1 then (q,0,194) else ((q.log en.ri).1,q.s.next,(q.log en.ri).2):=by
   unfold QN.putI;rw [if_neg (by rw [hu];decide),hen]
  obtain ⟨⟨b0,b1,b2,b3,b4,b5,b6⟩,f0,-⟩:=hbx.c7;have HEND:=Lib.hid (fun (V : World) (hb : Below w.heap.size w V) => (show QWent w c v p g q V from .refl h hb));have HNW:=Lib.hid (fun (w2 : World) (hb : Below W.heap.size W w2) => (show Blk w2 eb 23 #[.int .i64 e.id,.int .i64 e.side,.string e.key,.string e.data,.int .i64 e.due,.bool e.cust,.bool e.sent] ∧ Below w.heap.size w (w2.setCell ⟨eb,0,none⟩ (.int .i64 q.s.next)) ∧ Blk (w2.setCell ⟨eb,0,none⟩ (.int .i64 q.s.next)) eb 23 #[.int .i64 en.id,.int .i64 en.side,.string en.key,.string en.data,.int .i64 en.due,.bool en.cust,.bool en.sent] from by
   refine ⟨hbx.below hb,(ext_trans hb0 hb).setCell (p:=⟨eb,0,none⟩) (by show w.heap.size ≤ eb;omega) _,?_⟩;have:=(hbx.below hb).set_ 0 (.int .i64 q.s.next);rw [HEN.out.1,HEN.out.2.1,HEN.out.2.2.1,HEN.out.2.2.2.1,HEN.out.2.2.2.2.1,HEN.out.2.2.2.2.2.1,HEN.out.2.2.2.2.2.2];exact this))
  have HPI:=Lib.hid hpi;have HH:=Lib.hid h;have HG:=Lib.hid hG;have HW:=Lib.hid hW;have HU:=Lib.hid hu;have HLT:=Lib.hid hlt;have HWW:=Lib.hid hWW;clear hpi h hG hW hlt hbx hWW hdn;by_cases hid : e.id = 0
  ·rcases bool_cases e.sent with hsn | hsn
   ·have HID:=Lib.hid hid
    have HSN:=Lib.hid hsn;have HSN0:=Lib.hid hsn;clear hid hsn;go_enter Tryz.func67,Tryz.ntmps67;go_wp2_with fail
    rw [HWW.out];rw [HID.out] at b0;rw [HSN.out] at b6;with_reducible refine hUp.mono ?_
    rintro ev w1 ⟨rfl,rfl⟩;go_wp2_with fail
    with_reducible refine hNx.mono ?_
    rintro ev w2 ⟨rfl,hb2⟩;obtain ⟨k1,k2,k3⟩:=HNW.out w2 hb2;obtain ⟨⟨b0',b1',b2',b3',b4',b5',b6'⟩,f0',-⟩:=k1.c7;have hE3:=HEND.out _ k2;have k4:=k3.c7.1;obtain ⟨W3,hW3⟩ : ∃ W3,w2.setCell ⟨eb,0,none⟩ (.int .i64 q.s.next) = W3:=⟨_,rfl⟩
    rw [hW3] at k2 k3 k4 hE3;have hIR:=isRight_any en W3 (by rw [HEN.out.2.2.1];exact hk) (by rw [HEN.out.2.2.2.1];exact hdz);unfold EI.val at hIR;obtain ⟨d0,d1,d2,d3,d4,d5,d6⟩:=k4;have HK2:=Lib.hid k2;have HK3:=Lib.hid k3;have HW3:=Lib.hid hW3;have HE3:=Lib.hid hE3;clear k1 k2 k3 hb2 hE3 hW3;rw [HEN.out.1,HEN.out.2.1,HEN.out.2.2.1,HEN.out.2.2.2.1,HEN.out.2.2.2.2.1,HEN.out.2.2.2.2.2.1,HEN.out.2.2.2.2.2.2] at hIR;go_wp2_with fail
    rw [HW3.out];with_reducible refine hIR.mono ?_
    rintro ev w4 ⟨rfl,hb4⟩;have hb04:=HK2.out.trans (hb4.mono HK2.out.size);have hE4:=HEND.out _ hb04;have hBX4:=HK3.out.below hb4;have hQ4:=HH.out.below hb04;have hKn:=knows_any en.key hQ4.st (by have:=HW.out.ok.most;show q.s.K.length ≤ 1000000;omega);obtain ⟨d0',d1',d2',d3',d4',d5',d6'⟩:=hBX4.c7.1;have hP:=HPI.out;clear hIR d0 d1 d2 d3 d4 d5 d6 b0 b1 b2 b3 b4 b5 b6 b0' b1' b2' b3' b4' b5' b6';rcases bool_cases en.right with hrt | hrt
    ·rw [if_pos (fun q => by rw [hrt] at q;cases q.2.2)] at hP
     rw [hrt];have HP:=Lib.hid hP;clear hP hrt hKn hQ4 hBX4;go_wp2_with fail
     go_ret2
     exact ⟨by rw [HP.out];rfl,q,by rw [HP.out];exact QN.Like.refl q,hE4⟩
    ·rw [if_neg (fun q => q ⟨HID.out,HSN.out,hrt⟩)] at hP
     rw [hrt];rcases bool_cases (q.s.knows e.key) with hkw | hkw
     ·rw [if_neg (by rw [hkw];decide)] at hP
      rw [HEN.out.2.2.1,hkw] at hKn;rw [HEN.out.2.2.1] at d2';have HP:=Lib.hid hP;have HRT:=Lib.hid hrt;have HBX:=Lib.hid hBX4;have HQ4:=Lib.hid hQ4;have HB4:=Lib.hid hb04;clear hP hrt hkw hBX4 hQ4 hE4;go_wp2_with fail
      with_reducible refine hKn.mono ?_
      rintro ev w5 ⟨rfl,rfl⟩;clear hKn d0' d1' d2' d3' d4' d5' d6';have HLB:=Lib.hid (fun (V : World) (hV : Below w4.heap.size w4 V) => (show V.cell? ⟨c.b,1,none⟩ = some v.l ∧ V.cell? ⟨eb,0,none⟩ = some (.int .i64 en.id) ∧ V.cell? ⟨eb,1,none⟩ = some (.int .i64 en.side) ∧ V.cell? ⟨eb,2,none⟩ = some (.string en.key) ∧ V.cell? ⟨eb,3,none⟩ = some (.string en.data) ∧ V.cell? ⟨eb,4,none⟩ = some (.int .i64 en.due) ∧ V.cell? ⟨eb,5,none⟩ = some (.bool en.cust) ∧ V.cell? ⟨eb,6,none⟩ = some (.bool en.sent) from
       ⟨(HQ4.out.below hV).blk.c7.1.2.1,(HBX.out.below hV).c7.1⟩))
      obtain ⟨Al,cl,hvl⟩:=own_form HQ4.out.st.txt;rw [hvl] at HLB;have HRE:=Lib.hid (fun (V : World) (hV : Below w4.heap.size w4 V) => (show Calls Tryz.prog 105 #[.agg #[.int .i64 en.id,.int .i64 en.side,.string en.key,.string en.data,.int .i64 en.due,.bool en.cust,.bool en.sent]] V (Ret (.agg #[.int .i64 1,.int .i64 en.id,.string (en.ri).d]) V) from record_any en V aN aW aS (HG.out.here.below (HB4.out.trans (hV.mono HB4.out.size))).d.n HRT.out));have hok : ∀ x ∈ q.s.snap ++ [en.ri],x.ok = true:=by
       intro x hx;rcases List.mem_append.1 hx with hx | hx
       ·exact HW.out.ok.snap_ok x hx
       ·rw [List.mem_singleton.1 hx];exact rec_ok' HRT.out
      have hll : (layL ((q.s.snap ++ [en.ri]).map RI.n)).length = lenR q.s.snap + (14 + (en.ri).d.size):=by
       rw [lay_lenR,lenR_append];simp [lenR]
      obtain ⟨n1,hn1⟩ : ∃ n1,lenR q.s.snap + (14 + (en.ri).d.size) = n1:=⟨_,rfl⟩
      rw [hn1] at hll;have hn1l : n1 ≤ 300000:=by
       have h1 : ∀ l : List RI,(∀ x ∈ l,x.ok = true) → lenR l ≤ 2014 * l.length:=by
        intro l
        induction l with
        | nil => intro _;simp [lenR]
        | cons x l ih =>
         intro hx;have h2:=ih fun y hy => hx y (by simp [hy]);have h3:=(rightV_iff.1 (show rightV x.op x.id x.d = true from hx x (by simp))).2.2.2;unfold lenR at h2 ⊢;rw [List.map_cons,List.sum_cons,List.length_cons];omega
       have h2:=h1 _ hok;have h3:=HW.out.ok.snap_len;rw [List.length_append,List.length_singleton,lenR_append] at h2;have h4 : lenR [en.ri] = 14 + (en.ri).d.size:=by simp [lenR]
       omega
      obtain ⟨AL,hAL⟩ : ∃ AL,layL ((q.s.snap ++ [en.ri]).map RI.n) = AL:=⟨_,rfl⟩
      have hvo:=layV_ok hok;rw [hAL] at hvo hll;have hALs : (⟨AL.toArray⟩ : ByteArray).size = n1:=by rw [list_size2,hll]
      have HSN:=Lib.hid (fun (V : World) (hV : Below w4.heap.size w4 V) (A : Option Addr) (hm : MoreAt V A 1 [en.ri]) => (show Calls Tryz.prog 99 #[.pointer (some ⟨c.b,0,none⟩),.slice A 1 1] V (Ret (.string ⟨AL.toArray⟩) V) from by
       have:=snap_any (HQ4.out.below hV).st HW.out.ok.most (by have:=HW.out.ok.len;omega) HW.out.ok.ents A 1 1 [en.ri] hm (by omega) aA aT aN aW aS (HG.out.here.below (HB4.out.trans (hV.mono HB4.out.size))).c;rw [hvo] at this;exact this))
      obtain ⟨n2,hn2⟩ : ∃ n2,q.s.owed + 28 = n2:=⟨_,rfl⟩
      have hco : costL (q.s.L ++ [en]) = n2:=by
       have h1 : en.cost = 28:=by unfold EI.cost;rw [HEN.out.2.2.2.2.2.2,HSN0.out];rfl
       have h2 : costL (q.s.L ++ [en]) = q.s.owed + en.cost:=by simp [costL,SN.owed]
       rw [h2,h1,hn2]
      have hn2l : n2 ≤ 2000:=by
       have h1:=cost_le (q.s.L ++ [en]);rw [List.length_append,List.length_singleton] at h1;have:=HW.out.ok.len;omega
      have HOW:=Lib.hid (fun (V : World) (hV : Below w4.heap.size w4 V) (A : Option Addr) (hm : EntsAt V A 1 [en]) => (show Calls Tryz.prog 106 #[.pointer (some ⟨c.b,0,none⟩),.slice A 1 1] V (Ret (.int .i64 (n2 : Int)) V) from by
       have:=owed_any (c2:=1) (HQ4.out.below hV).st (by have:=HW.out.ok.len;omega) hm (by omega) (by omega);rw [hco] at this;exact this))
      obtain ⟨sz,hsz⟩ : ∃ sz,q.sz = sz:=⟨_,rfl⟩
      have hszl : sz ≤ 16384:=by rw [← hsz];have:=HH.out.disk.len;unfold QN.sz szN;omega
      have HSZ:=Lib.hid (fun (V : World) (hV : Below w4.heap.size w4 V) => (show Calls Tryz.prog 95 #[.pointer (some ⟨c.b,0,none⟩)] V (Pure (.int .i64 (sz : Int)) V) from by
       have:=size_any (HQ4.out.below hV);rw [show szN q.d.L.length = sz from hsz] at this;exact this))
      obtain ⟨N,hN⟩ : ∃ N,q.s.K.length = N:=⟨_,rfl⟩
      have hNl : N ≤ 60:=by rw [← hN];exact HW.out.ok.most
      rw [hN] at HLB;have hP2:=HP.out;rw [hN,hn1,hn2,hsz] at hP2;have HP:=Lib.hid hP2;clear hP2 hll hvo hok hn1 hn2 hsz hN hAL hco hvl;have hwr1 : IntKind.i64.wrap ((n1 : Int) + (n2 : Int)) = (n1 : Int) + (n2 : Int):=IntWalk.i64_in _ (by omega);have hwr2 : IntKind.i64.wrap ((n1 : Int) + (n2 : Int) + 1) = (n1 : Int) + (n2 : Int) + 1:=IntWalk.i64_in _ (by omega);go_wp2_with fail
      by_cases h60 : 60 ≤ N
      ·have HP2:=HP.out
       rw [if_pos (.inl h60)] at HP2;have HP:=Lib.hid HP2;have h60' : (60 : Int) ≤ (N : Int):=by omega
       clear HP2;refine wp_region_held_drew (S:=(Below w4.heap.size w4)) (by kernel_rfl) (Below.refl _ _).drew (fun hHeld => ?_);generalize w4.drew = W0 at hHeld ⊢;refine tk_ 0 44 rfl rfl ?_;refine tk_ 1 45 rfl rfl ?_;refine tk_ 2 46 rfl rfl ?_;refine tk_ 3 47 rfl rfl ?_;refine tk_ 4 48 rfl rfl ?_;refine tk_ 5 49 rfl rfl ?_ (fun wx hSx => by have zz:=HLB.out _ hSx;have g0:=zz.1;clear zz;go_simp;try with_reducible rfl);refine tk_ 6 50 rfl rfl ?_;refine tk_ 7 51 rfl rfl ?_;refine tk_ 8 52 rfl rfl ?_;refine wpAnyH_no (i:=9) (some 53) rfl rfl ?_;refine wpAnyH_no (i:=10) (some 54) rfl rfl ?_;refine wpAnyH_no (i:=11) (some 55) rfl rfl ?_;refine wpAnyH_no (i:=12) (some 56) rfl rfl ?_;refine wpAnyH_no (i:=13) (some 57) rfl rfl ?_;refine wpAnyH_no (i:=14) (some 58) rfl rfl ?_;refine wpAnyH_no (i:=15) (some 59) rfl rfl ?_;refine wpAnyH_no (i:=16) (some 60) rfl rfl ?_;refine wpAnyH_no (i:=17) (some 61) rfl rfl ?_;refine wpAnyH_no (i:=18) (some 62) rfl rfl ?_;refine wpAnyH_no (i:=19) (some 63) rfl rfl ?_;refine wpAnyH_no (i:=20) (some 64) rfl rfl ?_;refine wpAnyH_no (i:=21) (some 65) rfl rfl ?_;refine wpAnyH_no (i:=22) (some 66) rfl rfl ?_;refine wpAnyH_no (i:=23) (some 67) rfl rfl ?_;refine wpAnyH_no (i:=24) (some 68) rfl rfl ?_;refine wpAnyH_no (i:=25) (some 69) rfl rfl ?_;refine wpAnyH_no (i:=26) (some 70) rfl rfl ?_;refine wpAnyH_no (i:=27) (some 71) rfl rfl ?_;refine tk_ 28 72 rfl rfl ?_;refine tk_ 29 43 rfl rfl ?_;refine wpAnyH_done (by kernel_rfl) ?_ _;try simp only [Act.put,List.setIfInBounds_toArray,List.set_cons_succ,List.set_cons_zero]
       go_wp2_with fail
       have hE9:=HEND.out _ (HB4.out.trans (hHeld.mono HB4.out.size))
       go_ret2
       exact ⟨by rw [HP.out];rfl,q,by rw [HP.out];exact QN.Like.refl q,hE9⟩
      ·have h60' : ¬ ((60 : Int) ≤ (N : Int)):=by omega
       refine wp_region_held_drew (S:=(Below w4.heap.size w4)) (by kernel_rfl) (Below.refl _ _).drew (fun hHeld => ?_);generalize w4.drew = W0 at hHeld ⊢;refine tk_ 0 44 rfl rfl ?_;refine tk_ 1 45 rfl rfl ?_;refine tk_ 2 46 rfl rfl ?_;refine tk_ 3 47 rfl rfl ?_;refine tk_ 4 48 rfl rfl ?_;refine tk_ 5 49 rfl rfl ?_ (fun wx hSx => by have zz:=HLB.out _ hSx;have g0:=zz.1;clear zz;go_simp;try with_reducible rfl);refine tk_ 6 50 rfl rfl ?_;refine tk_ 7 51 rfl rfl ?_;refine tk_ 8 52 rfl rfl ?_;refine tk_ 9 53 rfl rfl ?_;refine tk_ 10 54 rfl rfl ?_;refine tk_ 11 55 rfl rfl ?_;refine tk_ 12 56 rfl rfl ?_ (fun wx hSx => by have zz:=HLB.out _ hSx;obtain ⟨-,g0,g1,g2,g3,g4,g5,g6⟩:=zz;go_simp;try with_reducible rfl);refine tk_ 17 61 rfl rfl ?_;refine tk_ 18 62 rfl rfl ?_;refine tk_ 19 63 rfl rfl ?_;refine tk_ 20 64 rfl rfl ?_ (fun wx hSx => by have zz:=HLB.out _ hSx;obtain ⟨-,g0,g1,g2,g3,g4,g5,g6⟩:=zz;go_simp;try with_reducible rfl);refine tk_ 25 69 rfl rfl ?_;refine rdy2 13 21 rfl rfl (fun K hK => ?_) (fun K hK => ?_)
       ·go_simp
        with_reducible refine (HRE.out _ hHeld).mono ?_
        rintro ev w13 ⟨rfl,hb13⟩;try go_wp2_with fail
        refine hK.out _ _ (ext_trans hHeld hb13) (fun hHeld => ?_);clear hK K;refine rdy2 14 21 rfl rfl (fun K hK => ?_) (fun K hK => ?_)
        ·have hM:=more_ri w13 en
         try simp only [World.size_alloc] at hM
         go_simp;refine hK.out _ _ (hHeld.alloc hHeld.size _) (fun hHeld => ?_);clear hK K;refine rdy2 15 21 rfl rfl (fun K hK => ?_) (fun K hK => ?_)
         ·go_simp
          with_reducible refine (HSN.out _ hHeld _ hM).mono ?_
          rintro ev w15 ⟨rfl,hb15⟩;try go_wp2_with fail
          refine hK.out _ _ (ext_trans hHeld hb15) (fun hHeld => ?_);clear hK K;refine tk_ 16 60 rfl rfl ?_;refine rdy1 21 rfl (fun K hK => ?_);have hE:=ents_new w15 en;try simp only [World.size_alloc] at hE
          go_simp;refine hK.out _ _ (hHeld.alloc hHeld.size _) (fun hHeld => ?_);clear hK K;refine rdy1 22 rfl (fun K hK => ?_);go_simp;with_reducible refine (HOW.out _ hHeld _ hE).mono ?_
          rintro ev w22 ⟨rfl,hb22⟩;try go_wp2_with fail
          refine hK.out _ _ (ext_trans hHeld hb22) (fun hHeld => ?_);clear hK K;refine tk_ 23 67 rfl rfl ?_;refine tk_ 24 68 rfl rfl ?_;refine rdy1 26 rfl (fun K hK => ?_);go_simp;with_reducible refine (HSZ.out _ hHeld).mono ?_
          rintro ev w26 ⟨rfl,rfl⟩;try go_wp2_with fail
          refine hK.out _ _ hHeld (fun hHeld => ?_);clear hK K;refine tk_ 27 71 rfl rfl ?_;refine tk_ 28 72 rfl rfl ?_;refine tk_ 29 43 rfl rfl ?_;refine wpAnyH_done (by kernel_rfl) ?_ _;try simp only [Act.put,List.setIfInBounds_toArray,List.set_cons_succ,List.set_cons_zero]
          by_cases hfull : sz < n1 + n2 + 1
          ·have HP2:=HP.out
           rw [if_pos (.inr hfull)] at HP2;have HP:=Lib.hid HP2;have hf' : decide ((sz : Int) < (n1 : Int) + (n2 : Int) + 1) = true:=decide_eq_true (by omega);have hE9:=HEND.out _ (HB4.out.trans (hHeld.mono HB4.out.size));clear HP2 hE hM;go_wp2_with fail
           go_ret2
           exact ⟨by rw [HP.out];rfl,q,by rw [HP.out];exact QN.Like.refl q,hE9⟩
          ·have HP2:=HP.out
           rw [if_neg (fun q => q.elim h60 hfull)] at HP2;have HP:=Lib.hid HP2;have hf' : decide ((sz : Int) < (n1 : Int) + (n2 : Int) + 1) = false:=decide_eq_false (by omega);obtain ⟨W9,hW9⟩ : ∃ W9,w22.drew = W9:=⟨_,rfl⟩
           have hBX : Blk w22.drew eb 23 #[.int .i64 en.id,.int .i64 en.side,.string en.key,.string en.data,.int .i64 en.due,.bool en.cust,.bool en.sent]:=HBX.out.below hHeld.drew;have hb9 : Below w4.heap.size w4 W9:=by rw [← hW9];exact hHeld.drew
           have hRE9:=HRE.out W9 hb9;have hw9:=HB4.out.trans (hb9.mono HB4.out.size);have HT9:=Lib.hid (put_tail HH.out HG.out HW.out HU.out (rec_ok' HRT.out) hn HLT.out hw9 (HBX.out.below hb9));clear HP2 hE hM;go_wp2_with fail
           refine wp_region_held_drew (S:=(fun V : World => Blk V eb 23 #[.int .i64 en.id,.int .i64 en.side,.string en.key,.string en.data,.int .i64 en.due,.bool en.cust,.bool en.sent])) (by kernel_rfl) hBX (fun hHeld => ?_);rw [hW9] at hHeld ⊢;refine tk_ 0 75 rfl rfl ?_;refine tk_ 1 76 rfl rfl ?_ (fun wx hSx => by obtain ⟨g0,g1,g2,g3,g4,g5,g6⟩:=hSx.c7.1;go_simp;try with_reducible rfl);refine tk_ 2 77 rfl rfl ?_;refine tk_ 3 78 rfl rfl ?_ (fun wx hSx => by obtain ⟨g0,g1,g2,g3,g4,g5,g6⟩:=hSx.c7.1;go_simp;try with_reducible rfl);refine rdy1 4 rfl (fun K hK => ?_);go_simp;with_reducible refine hRE9.mono ?_
           rintro ev w5 ⟨rfl,hb5⟩;try go_wp2_with fail
           refine hK.out _ _ (hHeld.below hb5) (fun hHeld => ?_);clear hK K;refine rdy1 5 rfl (fun K hK => ?_);go_simp;have hL9:=(HT9.out w5 hb5).1;change Calls _ _ #[.pointer (some ⟨c.b,0,none⟩),.agg #[.int .i64 1,.int .i64 en.id,.string (en.ri).d]] _ _ at hL9;with_reducible refine hL9.mono ?_
           rintro ev w6 ⟨rfl,q',hlk,hW⟩;have hBX6:=((HT9.out w5 hb5).2 _ _ hW).1;try go_wp2_with fail
           refine hK.out _ _ hBX6 (fun hHeld => ?_);clear hK K;refine tk_ 6 4 rfl rfl ?_;refine tk_ 7 5 rfl rfl ?_;refine wpAnyH_done (by kernel_rfl) ?_ _;try simp only [Act.put,List.setIfInBounds_toArray,List.set_cons_succ,List.set_cons_zero]
           go_wp2_with fail
           go_ret2
           exact ⟨by rw [HP.out,HEN.out.1];rfl,q',by rw [HP.out];exact hlk,((HT9.out w5 hb5).2 _ _ hW).2⟩
         ·have hE:=ents_new (w13.alloc (.cells #[.int .i64 1,.int .i64 en.id,.string (en.ri).d] 128)) en
          try simp only [World.size_alloc] at hE
          replace hM:=hM.below (ext_new (w13.alloc (.cells #[.int .i64 1,.int .i64 en.id,.string (en.ri).d] 128)) (.cells #[.int .i64 en.id,.int .i64 en.side,.string en.key,.string en.data,.int .i64 en.due,.bool en.cust,.bool en.sent] 23));go_simp;refine hK.out _ _ (hHeld.alloc hHeld.size _) (fun hHeld => ?_);clear hK K;refine rdy1 15 rfl (fun K hK => ?_);go_simp;with_reducible refine (HSN.out _ hHeld _ hM).mono ?_
          rintro ev w15 ⟨rfl,hb15⟩;replace hE:=hE.below hb15;try go_wp2_with fail
          refine hK.out _ _ (ext_trans hHeld hb15) (fun hHeld => ?_);clear hK K;refine tk_ 16 60 rfl rfl ?_;refine rdy1 22 rfl (fun K hK => ?_);go_simp;with_reducible refine (HOW.out _ hHeld _ hE).mono ?_
          rintro ev w22 ⟨rfl,hb22⟩;try go_wp2_with fail
          refine hK.out _ _ (ext_trans hHeld hb22) (fun hHeld => ?_);clear hK K;refine tk_ 23 67 rfl rfl ?_;refine tk_ 24 68 rfl rfl ?_;refine rdy1 26 rfl (fun K hK => ?_);go_simp;with_reducible refine (HSZ.out _ hHeld).mono ?_
          rintro ev w26 ⟨rfl,rfl⟩;try go_wp2_with fail
          refine hK.out _ _ hHeld (fun hHeld => ?_);clear hK K;refine tk_ 27 71 rfl rfl ?_;refine tk_ 28 72 rfl rfl ?_;refine tk_ 29 43 rfl rfl ?_;refine wpAnyH_done (by kernel_rfl) ?_ _;try simp only [Act.put,List.setIfInBounds_toArray,List.set_cons_succ,List.set_cons_zero]
          by_cases hfull : sz < n1 + n2 + 1
          ·have HP2:=HP.out
           rw [if_pos (.inr hfull)] at HP2;have HP:=Lib.hid HP2;have hf' : decide ((sz : Int) < (n1 : Int) + (n2 : Int) + 1) = true:=decide_eq_true (by omega);have hE9:=HEND.out _ (HB4.out.trans (hHeld.mono HB4.out.size));clear HP2 hE hM;go_wp2_with fail
           go_ret2
           exact ⟨by rw [HP.out];rfl,q,by rw [HP.out];exact QN.Like.refl q,hE9⟩
          ·have HP2:=HP.out
           rw [if_neg (fun q => q.elim h60 hfull)] at HP2;have HP:=Lib.hid HP2;have hf' : decide ((sz : Int) < (n1 : Int) + (n2 : Int) + 1) = false:=decide_eq_false (by omega);obtain ⟨W9,hW9⟩ : ∃ W9,w22.drew = W9:=⟨_,rfl⟩
           have hBX : Blk w22.drew eb 23 #[.int .i64 en.id,.int .i64 en.side,.string en.key,.string en.data,.int .i64 en.due,.bool en.cust,.bool en.sent]:=HBX.out.below hHeld.drew;have hb9 : Below w4.heap.size w4 W9:=by rw [← hW9];exact hHeld.drew
           have hRE9:=HRE.out W9 hb9;have hw9:=HB4.out.trans (hb9.mono HB4.out.size);have HT9:=Lib.hid (put_tail HH.out HG.out HW.out HU.out (rec_ok' HRT.out) hn HLT.out hw9 (HBX.out.below hb9));clear HP2 hE hM;go_wp2_with fail
           refine wp_region_held_drew (S:=(fun V : World => Blk V eb 23 #[.int .i64 en.id,.int .i64 en.side,.string en.key,.string en.data,.int .i64 en.due,.bool en.cust,.bool en.sent])) (by kernel_rfl) hBX (fun hHeld => ?_);rw [hW9] at hHeld ⊢;refine tk_ 0 75 rfl rfl ?_;refine tk_ 1 76 rfl rfl ?_ (fun wx hSx => by obtain ⟨g0,g1,g2,g3,g4,g5,g6⟩:=hSx.c7.1;go_simp;try with_reducible rfl);refine tk_ 2 77 rfl rfl ?_;refine tk_ 3 78 rfl rfl ?_ (fun wx hSx => by obtain ⟨g0,g1,g2,g3,g4,g5,g6⟩:=hSx.c7.1;go_simp;try with_reducible rfl);refine rdy1 4 rfl (fun K hK => ?_);go_simp;with_reducible refine hRE9.mono ?_
           rintro ev w5 ⟨rfl,hb5⟩;try go_wp2_with fail
           refine hK.out _ _ (hHeld.below hb5) (fun hHeld => ?_);clear hK K;refine rdy1 5 rfl (fun K hK => ?_);go_simp;have hL9:=(HT9.out w5 hb5).1;change Calls _ _ #[.pointer (some ⟨c.b,0,none⟩),.agg #[.int .i64 1,.int .i64 en.id,.string (en.ri).d]] _ _ at hL9;with_reducible refine hL9.mono ?_
           rintro ev w6 ⟨rfl,q',hlk,hW⟩;have hBX6:=((HT9.out w5 hb5).2 _ _ hW).1;try go_wp2_with fail
           refine hK.out _ _ hBX6 (fun hHeld => ?_);clear hK K;refine tk_ 6 4 rfl rfl ?_;refine tk_ 7 5 rfl rfl ?_;refine wpAnyH_done (by kernel_rfl) ?_ _;try simp only [Act.put,List.setIfInBounds_toArray,List.set_cons_succ,List.set_cons_zero]
           go_wp2_with fail
           go_ret2
           exact ⟨by rw [HP.out,HEN.out.1];rfl,q',by rw [HP.out];exact hlk,((HT9.out w5 hb5).2 _ _ hW).2⟩
        ·have hE:=ents_new w13 en
         try simp only [World.size_alloc] at hE
         go_simp;refine hK.out _ _ (hHeld.alloc hHeld.size _) (fun hHeld => ?_);clear hK K;refine rdy1 14 rfl (fun K hK => ?_);have hM:=more_ri (w13.alloc (.cells #[.int .i64 en.id,.int .i64 en.side,.string en.key,.string en.data,.int .i64 en.due,.bool en.cust,.bool en.sent] 23)) en;try simp only [World.size_alloc] at hM
         replace hE:=hE.below (ext_new (w13.alloc (.cells #[.int .i64 en.id,.int .i64 en.side,.string en.key,.string en.data,.int .i64 en.due,.bool en.cust,.bool en.sent] 23)) (.cells #[.int .i64 1,.int .i64 en.id,.string (en.ri).d] 128));go_simp;refine hK.out _ _ (hHeld.alloc hHeld.size _) (fun hHeld => ?_);clear hK K;refine rdy1 15 rfl (fun K hK => ?_);go_simp;with_reducible refine (HSN.out _ hHeld _ hM).mono ?_
         rintro ev w15 ⟨rfl,hb15⟩;replace hE:=hE.below hb15;try go_wp2_with fail
         refine hK.out _ _ (ext_trans hHeld hb15) (fun hHeld => ?_);clear hK K;refine tk_ 16 60 rfl rfl ?_;refine rdy1 22 rfl (fun K hK => ?_);go_simp;with_reducible refine (HOW.out _ hHeld _ hE).mono ?_
         rintro ev w22 ⟨rfl,hb22⟩;try go_wp2_with fail
         refine hK.out _ _ (ext_trans hHeld hb22) (fun hHeld => ?_);clear hK K;refine tk_ 23 67 rfl rfl ?_;refine tk_ 24 68 rfl rfl ?_;refine rdy1 26 rfl (fun K hK => ?_);go_simp;with_reducible refine (HSZ.out _ hHeld).mono ?_
         rintro ev w26 ⟨rfl,rfl⟩;try go_wp2_with fail
         refine hK.out _ _ hHeld (fun hHeld => ?_);clear hK K;refine tk_ 27 71 rfl rfl ?_;refine tk_ 28 72 rfl rfl ?_;refine tk_ 29 43 rfl rfl ?_;refine wpAnyH_done (by kernel_rfl) ?_ _;try simp only [Act.put,List.setIfInBounds_toArray,List.set_cons_succ,List.set_cons_zero]
         by_cases hfull : sz < n1 + n2 + 1
         ·have HP2:=HP.out
          rw [if_pos (.inr hfull)] at HP2;have HP:=Lib.hid HP2;have hf' : decide ((sz : Int) < (n1 : Int) + (n2 : Int) + 1) = true:=decide_eq_true (by omega);have hE9:=HEND.out _ (HB4.out.trans (hHeld.mono HB4.out.size));clear HP2 hE hM;go_wp2_with fail
          go_ret2
          exact ⟨by rw [HP.out];rfl,q,by rw [HP.out];exact QN.Like.refl q,hE9⟩
         ·have HP2:=HP.out
          rw [if_neg (fun q => q.elim h60 hfull)] at HP2;have HP:=Lib.hid HP2;have hf' : decide ((sz : Int) < (n1 : Int) + (n2 : Int) + 1) = false:=decide_eq_false (by omega);obtain ⟨W9,hW9⟩ : ∃ W9,w22.drew = W9:=⟨_,rfl⟩
          have hBX : Blk w22.drew eb 23 #[.int .i64 en.id,.int .i64 en.side,.string en.key,.string en.data,.int .i64 en.due,.bool en.cust,.bool en.sent]:=HBX.out.below hHeld.drew;have hb9 : Below w4.heap.size w4 W9:=by rw [← hW9];exact hHeld.drew
          have hRE9:=HRE.out W9 hb9;have hw9:=HB4.out.trans (hb9.mono HB4.out.size);have HT9:=Lib.hid (put_tail HH.out HG.out HW.out HU.out (rec_ok' HRT.out) hn HLT.out hw9 (HBX.out.below hb9));clear HP2 hE hM;go_wp2_with fail
          refine wp_region_held_drew (S:=(fun V : World => Blk V eb 23 #[.int .i64 en.id,.int .i64 en.side,.string en.key,.string en.data,.int .i64 en.due,.bool en.cust,.bool en.sent])) (by kernel_rfl) hBX (fun hHeld => ?_);rw [hW9] at hHeld ⊢;refine tk_ 0 75 rfl rfl ?_;refine tk_ 1 76 rfl rfl ?_ (fun wx hSx => by obtain ⟨g0,g1,g2,g3,g4,g5,g6⟩:=hSx.c7.1;go_simp;try with_reducible rfl);refine tk_ 2 77 rfl rfl ?_;refine tk_ 3 78 rfl rfl ?_ (fun wx hSx => by obtain ⟨g0,g1,g2,g3,g4,g5,g6⟩:=hSx.c7.1;go_simp;try with_reducible rfl);refine rdy1 4 rfl (fun K hK => ?_);go_simp;with_reducible refine hRE9.mono ?_
          rintro ev w5 ⟨rfl,hb5⟩;try go_wp2_with fail
          refine hK.out _ _ (hHeld.below hb5) (fun hHeld => ?_);clear hK K;refine rdy1 5 rfl (fun K hK => ?_);go_simp;have hL9:=(HT9.out w5 hb5).1;change Calls _ _ #[.pointer (some ⟨c.b,0,none⟩),.agg #[.int .i64 1,.int .i64 en.id,.string (en.ri).d]] _ _ at hL9;with_reducible refine hL9.mono ?_
          rintro ev w6 ⟨rfl,q',hlk,hW⟩;have hBX6:=((HT9.out w5 hb5).2 _ _ hW).1;try go_wp2_with fail
          refine hK.out _ _ hBX6 (fun hHeld => ?_);clear hK K;refine tk_ 6 4 rfl rfl ?_;refine tk_ 7 5 rfl rfl ?_;refine wpAnyH_done (by kernel_rfl) ?_ _;try simp only [Act.put,List.setIfInBounds_toArray,List.set_cons_succ,List.set_cons_zero]
          go_wp2_with fail
          go_ret2
          exact ⟨by rw [HP.out,HEN.out.1];rfl,q',by rw [HP.out];exact hlk,((HT9.out w5 hb5).2 _ _ hW).2⟩
       ·have hE:=ents_new W0 en
        try simp only [World.size_alloc] at hE
        go_simp;refine hK.out _ _ (hHeld.alloc hHeld.size _) (fun hHeld => ?_);clear hK K;refine rdy1 13 rfl (fun K hK => ?_);go_simp;with_reducible refine (HRE.out _ hHeld).mono ?_
        rintro ev w13 ⟨rfl,hb13⟩;replace hE:=hE.below hb13;try go_wp2_with fail
        refine hK.out _ _ (ext_trans hHeld hb13) (fun hHeld => ?_);clear hK K;refine rdy1 14 rfl (fun K hK => ?_);have hM:=more_ri w13 en;try simp only [World.size_alloc] at hM
        replace hE:=hE.below (ext_new w13 (.cells #[.int .i64 1,.int .i64 en.id,.string (en.ri).d] 128));go_simp;refine hK.out _ _ (hHeld.alloc hHeld.size _) (fun hHeld => ?_);clear hK K;refine rdy1 15 rfl (fun K hK => ?_);go_simp;with_reducible refine (HSN.out _ hHeld _ hM).mono ?_
        rintro ev w15 ⟨rfl,hb15⟩;replace hE:=hE.below hb15;try go_wp2_with fail
        refine hK.out _ _ (ext_trans hHeld hb15) (fun hHeld => ?_);clear hK K;refine tk_ 16 60 rfl rfl ?_;refine rdy1 22 rfl (fun K hK => ?_);go_simp;with_reducible refine (HOW.out _ hHeld _ hE).mono ?_
        rintro ev w22 ⟨rfl,hb22⟩;try go_wp2_with fail
        refine hK.out _ _ (ext_trans hHeld hb22) (fun hHeld => ?_);clear hK K;refine tk_ 23 67 rfl rfl ?_;refine tk_ 24 68 rfl rfl ?_;refine rdy1 26 rfl (fun K hK => ?_);go_simp;with_reducible refine (HSZ.out _ hHeld).mono ?_
        rintro ev w26 ⟨rfl,rfl⟩;try go_wp2_with fail
        refine hK.out _ _ hHeld (fun hHeld => ?_);clear hK K;refine tk_ 27 71 rfl rfl ?_;refine tk_ 28 72 rfl rfl ?_;refine tk_ 29 43 rfl rfl ?_;refine wpAnyH_done (by kernel_rfl) ?_ _;try simp only [Act.put,List.setIfInBounds_toArray,List.set_cons_succ,List.set_cons_zero]
        by_cases hfull : sz < n1 + n2 + 1
        ·have HP2:=HP.out
         rw [if_pos (.inr hfull)] at HP2;have HP:=Lib.hid HP2;have hf' : decide ((sz : Int) < (n1 : Int) + (n2 : Int) + 1) = true:=decide_eq_true (by omega);have hE9:=HEND.out _ (HB4.out.trans (hHeld.mono HB4.out.size));clear HP2 hE hM;go_wp2_with fail
         go_ret2
         exact ⟨by rw [HP.out];rfl,q,by rw [HP.out];exact QN.Like.refl q,hE9⟩
        ·have HP2:=HP.out
         rw [if_neg (fun q => q.elim h60 hfull)] at HP2;have HP:=Lib.hid HP2;have hf' : decide ((sz : Int) < (n1 : Int) + (n2 : Int) + 1) = false:=decide_eq_false (by omega);obtain ⟨W9,hW9⟩ : ∃ W9,w22.drew = W9:=⟨_,rfl⟩
         have hBX : Blk w22.drew eb 23 #[.int .i64 en.id,.int .i64 en.side,.string en.key,.string en.data,.int .i64 en.due,.bool en.cust,.bool en.sent]:=HBX.out.below hHeld.drew;have hb9 : Below w4.heap.size w4 W9:=by rw [← hW9];exact hHeld.drew
         have hRE9:=HRE.out W9 hb9;have hw9:=HB4.out.trans (hb9.mono HB4.out.size);have HT9:=Lib.hid (put_tail HH.out HG.out HW.out HU.out (rec_ok' HRT.out) hn HLT.out hw9 (HBX.out.below hb9));clear HP2 hE hM;go_wp2_with fail
         refine wp_region_held_drew (S:=(fun V : World => Blk V eb 23 #[.int .i64 en.id,.int .i64 en.side,.string en.key,.string en.data,.int .i64 en.due,.bool en.cust,.bool en.sent])) (by kernel_rfl) hBX (fun hHeld => ?_);rw [hW9] at hHeld ⊢;refine tk_ 0 75 rfl rfl ?_;refine tk_ 1 76 rfl rfl ?_ (fun wx hSx => by obtain ⟨g0,g1,g2,g3,g4,g5,g6⟩:=hSx.c7.1;go_simp;try with_reducible rfl);refine tk_ 2 77 rfl rfl ?_;refine tk_ 3 78 rfl rfl ?_ (fun wx hSx => by obtain ⟨g0,g1,g2,g3,g4,g5,g6⟩:=hSx.c7.1;go_simp;try with_reducible rfl);refine rdy1 4 rfl (fun K hK => ?_);go_simp;with_reducible refine hRE9.mono ?_
         rintro ev w5 ⟨rfl,hb5⟩;try go_wp2_with fail
         refine hK.out _ _ (hHeld.below hb5) (fun hHeld => ?_);clear hK K;refine rdy1 5 rfl (fun K hK => ?_);go_simp;have hL9:=(HT9.out w5 hb5).1;change Calls _ _ #[.pointer (some ⟨c.b,0,none⟩),.agg #[.int .i64 1,.int .i64 en.id,.string (en.ri).d]] _ _ at hL9;with_reducible refine hL9.mono ?_
         rintro ev w6 ⟨rfl,q',hlk,hW⟩;have hBX6:=((HT9.out w5 hb5).2 _ _ hW).1;try go_wp2_with fail
         refine hK.out _ _ hBX6 (fun hHeld => ?_);clear hK K;refine tk_ 6 4 rfl rfl ?_;refine tk_ 7 5 rfl rfl ?_;refine wpAnyH_done (by kernel_rfl) ?_ _;try simp only [Act.put,List.setIfInBounds_toArray,List.set_cons_succ,List.set_cons_zero]
         go_wp2_with fail
         go_ret2
         exact ⟨by rw [HP.out,HEN.out.1];rfl,q',by rw [HP.out];exact hlk,((HT9.out w5 hb5).2 _ _ hW).2⟩
     ·rw [if_pos hkw] at hP
      have HP:=Lib.hid hP;rw [HEN.out.2.2.1,hkw] at hKn;rw [HEN.out.2.2.1] at d2';clear hP hrt hkw hBX4 hQ4;go_wp2_with fail
      with_reducible refine hKn.mono ?_
      rintro ev w5 ⟨rfl,rfl⟩;go_wp2_with fail
      go_ret2
      exact ⟨by rw [HP.out];rfl,q,by rw [HP.out];exact QN.Like.refl q,hE4⟩
   ·have hP:=HPI.out
    rw [if_pos (fun q => by rw [hsn] at q;cases q.2.1)] at hP;rw [hP];clear hP;have HID:=Lib.hid hid;have HSN:=Lib.hid hsn;have HSN0:=Lib.hid hsn;clear hid hsn;go_enter Tryz.func67,Tryz.ntmps67;go_wp2_with fail
    rw [HWW.out];rw [HID.out] at b0;rw [HSN.out] at b6;with_reducible refine hUp.mono ?_
    rintro ev w1 ⟨rfl,rfl⟩;go_wp2_with fail
    with_reducible refine hNx.mono ?_
    rintro ev w2 ⟨rfl,hb2⟩;obtain ⟨k1,k2,k3⟩:=HNW.out w2 hb2;obtain ⟨⟨b0',b1',b2',b3',b4',b5',b6'⟩,f0',-⟩:=k1.c7;have hE3:=HEND.out _ k2;clear k2 k3;go_wp2_with fail
    go_ret2
    exact ⟨rfl,q,QN.Like.refl q,hE3⟩
  ·have hP:=HPI.out
   rw [if_pos (fun q => hid q.1)] at hP;rw [hP];clear hP;go_enter Tryz.func67,Tryz.ntmps67;go_wp2_with fail
   rw [HWW.out];with_reducible refine hUp.mono ?_
   rintro ev w1 ⟨rfl,rfl⟩;go_wp2_with fail
   with_reducible refine hNx.mono ?_
   rintro ev w2 ⟨rfl,hb2⟩;obtain ⟨k1,k2,k3⟩:=HNW.out w2 hb2;obtain ⟨⟨b0',b1',b2',b3',b4',b5',b6'⟩,f0',-⟩:=k1.c7;have hE3:=HEND.out _ k2;clear k2 k3;go_wp2_with fail
   go_ret2
   exact ⟨rfl,q,QN.Like.refl q,hE3⟩
end Go.Proofs.YtmebjdbkngehiaaGreatDoor
