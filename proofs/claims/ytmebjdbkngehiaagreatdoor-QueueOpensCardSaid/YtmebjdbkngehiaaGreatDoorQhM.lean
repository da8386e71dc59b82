/-
  How many writes a desk has made behind thirty calls, and more of the kind. Conditions: as the theorems' own hypotheses say.
-/
import Derived.Test.YtmebjdbkngehiaaGreatDoorQgR
import Derived.Test.YtmebjdbkngehiaaGreatDoorQhL
namespace Go.Proofs.YtmebjdbkngehiaaGreatDoor
end Go.Proofs.YtmebjdbkngehiaaGreatDoor
namespace Go.Proofs.YtmebjdbkngehiaaGreatDoor
open Go.RowKit Go.Shelf
set_option maxHeartbeats 8000000
variable {F : Nat → Prop} {w w1 w2 : World} {aA aT aN aW aS : Addr} {p g : Nat} {o : Option (QC × QV)} {k : KN} {d : DN} {q : QN}
theorem below_foot {n : Nat} {a b c : World} (h : Below n a b) (hf : Foot F b c) (hF : ∀ j,F j → n ≤ j) (hn : n ≤ b.heap.size) : Below n a c :=
 ⟨hf.os.trans h.os,hf.tape.trans h.tape,hf.output.trans h.output,Nat.le_trans h.size hf.size,fun j hj => (hf.block j (Nat.lt_of_lt_of_le hj hn) fun q => absurd (hF j q) (by omega)).trans (h.block j hj)⟩
theorem glb_below (hI : GInv w aA aT aN aW aS) (hb : Below w.heap.size w w1) (hF : ∀ j,F j → w.heap.size ≤ j) : Glb F aA aT aN aW aS w1 :=
 fun _ hf => hI.below (below_foot hb hf hF hb.size)
structure QPlay (w : World) (p g : Nat) (o : Option (QC × QV)) (k : KN) (w' : World) : Prop where
 at_ : PairAt w' p g o k
 bel : Below w.heap.size w w'
 new_ : ∀ j,KF o p g j → w.heap.size ≤ j
theorem QPlay.ext (h : QPlay w p g o k w1) (hb : Below w1.heap.size w1 w2) : QPlay w p g o k w2 :=
 ⟨h.at_.below hb,ext_trans h.bel hb,h.new_⟩
theorem QPlay.went {o2 : Option (QC × QV)} {k2 : KN} (h : QPlay w p g o k w1) (hw : PairWent w1 p g o k2 o2 w2) : QPlay w p g o2 k2 w2 :=
 ⟨hw.at_,below_foot h.bel hw.foot h.new_ h.bel.size,fun j hj => (hw.new_ j hj).elim (h.new_ j) fun q => Nat.le_trans h.bel.size q⟩
theorem QPlay.glb (h : QPlay w p g o k w1) (hI : GInv w aA aT aN aW aS) : Glb (KF o p g) aA aT aN aW aS w1 :=
 glb_below hI h.bel h.new_
theorem QPlay.of_new {m : Nat} {e : Ending} {w' : World} (h : NewRes m w e w') (hm : 0 < m) : ∃ p g,e = .returned (.tuple #[.pointer (some ⟨p,0,none⟩),.int .i64 0]) ∧ QPlay w p g none ⟨DN.new m,none⟩ w' := by
 obtain ⟨p,g,he,h1,h2,h3,h4⟩:=h
 refine ⟨p,g,he,⟨h3,by show 0 < (List.replicate m _).length;rw [List.length_replicate];exact hm,fun _ => rfl,fun q hq => (by cases hq)⟩,h4,fun j hj => ?_⟩
 rcases (kf_none p g j).1 hj with rfl | rfl
 ·exact h1
 ·exact h2
theorem PairAt.turn (h : PairAt w1 p g o k) (hd : DAt w2 p g d) (hb : But2 p g w1 w2) (hl : d.L.length = k.d.L.length) : PairWent w1 p g o ⟨d,none⟩ none w2 :=
 ⟨⟨hd,by show 0 < d.L.length;rw [hl];exact h.pos,fun _ => rfl,fun q hq => (by cases hq)⟩,⟨hb.os,hb.tape,hb.output,hb.size,fun j hj hn => hb.block j hj (fun e => hn (.inl e)) (fun e => hn (.inr (.inl e)))⟩,fun j hj => .inl (KF.two ((kf_none p g j).1 hj))⟩
theorem play_new (h : QPlay w p g o k w1) (hI : GInv w aA aT aN aW aS) (hn : k.d.n ≤ 950000) :
  Calls Tryz.prog 31 #[.pointer (some ⟨p,0,none⟩)] w1 fun e w' => ∃ o' lv,e = .returned (.tuple #[qPtr o',lv,.int .i64 (newN k.d).2.2.2]) ∧ w'.ownsRow w1.heap.size 23 7 lv (newN k.d).2.2.1.length (cellsE (newN k.d).2.2.1) ∧ PairWent w1 p g o ⟨(newN k.d).1,(newN k.d).2.1⟩ o' w':=by
 refine (new_on (h.glb hI) (Foot.refl _ _) h.at_.disk hn (newN_pos h.at_.disk.fit h.at_.pos)).mono ?_
 rintro e w' ⟨o',lv,he,ho,hw⟩
 exact ⟨o',lv,he,ho,hw⟩
theorem play_restart (h : QPlay w p g o k w1) :
  Calls Tryz.prog 37 #[.pointer (some ⟨p,0,none⟩)] w1 fun e w' => e = .returned (.int .i64 0) ∧ PairWent w1 p g o ⟨k.d.restart,none⟩ none w':=by
 refine (Restart_any h.at_.disk).mono ?_
 rintro e w' ⟨he,hd,hb⟩
 exact ⟨he,h.at_.turn hd hb rfl⟩
theorem play_put (x : QO) (hx : x.kind = 0) (h : QPlay w p g o k w1) (hI : GInv w aA aT aN aW aS) (hok : x.Ok) (hn : k.d.n ≤ 950000) :
  Calls Tryz.prog 39 #[qPtr o,x.e.val] w1 fun ev w' => ev = .returned (.tuple #[.int .i64 (k.act x).2.n,.int .i64 (k.act x).2.err]) ∧ ∃ o',PairWent w1 p g o (k.act x).1 o' w' ∧ qPtr o' = qPtr o:=by
 refine (pair_put x hx h.at_ (h.glb hI) hok (by omega)).mono ?_
 rintro e w' ⟨he,o',hw,ho⟩
 exact ⟨he,o',hw,ho⟩
theorem play_sent (x : QO) (hx : x.kind = 1) (h : QPlay w p g o k w1) (hI : GInv w aA aT aN aW aS) (hn : k.d.n ≤ 950000) :
  Calls Tryz.prog 38 #[qPtr o,.int .i64 x.a] w1 fun ev w' => ev = .returned (.int .i64 (k.act x).2.err) ∧ ∃ o',PairWent w1 p g o (k.act x).1 o' w' ∧ qPtr o' = qPtr o:=by
 refine (pair_sent x hx h.at_ (h.glb hI) (by omega)).mono ?_
 rintro e w' ⟨he,-,o',hw,ho⟩
 exact ⟨he,o',hw,ho⟩
theorem play_done (x : QO) (hx : x.kind = 2) (h : QPlay w p g o k w1) (hI : GInv w aA aT aN aW aS) (hn : k.d.n ≤ 950000) :
  Calls Tryz.prog 32 #[qPtr o,.int .i64 x.a] w1 fun ev w' => ev = .returned (.int .i64 (k.act x).2.err) ∧ ∃ o',PairWent w1 p g o (k.act x).1 o' w' ∧ qPtr o' = qPtr o:=by
 refine (pair_done x hx h.at_ (h.glb hI) (by omega)).mono ?_
 rintro e w' ⟨he,-,o',hw,ho⟩
 exact ⟨he,o',hw,ho⟩
theorem PairAt.some (h : PairAt w p g o ⟨d,some q⟩) : ∃ c v,o = some (c,v) ∧ SAt w c v q.s ∧ q.s.Ok ∧ q.d = d := by
 obtain ⟨c,v,q',h1,h2,h3,h4,h5⟩:=h.some_ q rfl
 exact ⟨c,v,h1,by rw [← h2.s];exact h4.st,h3.ok,h5⟩
theorem play_entries (h : PairAt w p g o ⟨d,some q⟩) :
  Calls Tryz.prog 22 #[qPtr o] w fun e w' => ∃ V',e = .returned V' ∧ w'.ownsRow w.heap.size 23 7 V' q.s.L.length (cellsE q.s.L) ∧ Below w.heap.size w w':=by
 obtain ⟨c,v,rfl,hs,hok,-⟩:=h.some
 exact entries_any hs (by have:=hok.len;omega)
theorem play_keys (h : PairAt w p g o ⟨d,some q⟩) :
  Calls Tryz.prog 25 #[qPtr o] w fun e w' => ∃ V',e = .returned V' ∧ w'.ownsRow w.heap.size 9 1 V' q.s.K.length ((txtsOf q.s.K).map (.string ·)) ∧ Below w.heap.size w w':=by
 obtain ⟨c,v,rfl,hs,hok,-⟩:=h.some
 exact keys_any hs (by have:=hok.most;omega)
theorem play_knows (t : ByteArray) (h : PairAt w p g o ⟨d,some q⟩) :
  Calls Tryz.prog 30 #[qPtr o,.string t] w (Pure (.bool (q.s.knows t)) w):=by
 obtain ⟨c,v,rfl,hs,hok,-⟩:=h.some
 exact knows_any t hs (by have:=hok.most;omega)
theorem qptr_some (h : PairAt w p g o ⟨d,some q⟩) : ∃ b,qPtr o = .pointer (some ⟨b,0,none⟩) := by
 obtain ⟨c,v,rfl,-⟩:=h.some
 exact ⟨c.b,rfl⟩
def shX : EI := ⟨0,7,⟨#[97]⟩,⟨#[104,105]⟩,5,false,false⟩
def shS : EI := ⟨1,7,⟨#[97]⟩,⟨#[104,105]⟩,5,false,true⟩
def getQ (o : Option QN) : QN := o.getD ⟨DN.new 0,SN.nil,false,0,false⟩
def sq0 : QN := getQ (newN (DN.new 20)).2.1
def sq1 : QN := getQ (KN.act ⟨sq0.d,some sq0⟩ ⟨0,0,0,shX⟩).1.q
def sq2 : QN := getQ (KN.act ⟨sq1.d,some sq1⟩ ⟨0,0,0,shX⟩).1.q
def sq3 : QN := getQ (KN.act ⟨sq2.d,some sq2⟩ ⟨1,1,0,EI.nil⟩).1.q
def sq4 : QN := getQ (KN.act ⟨sq3.d,some sq3⟩ ⟨2,2,0,EI.nil⟩).1.q
def sq5 : QN := getQ (newN sq4.d).2.1
set_option maxRecDepth 100000 in
theorem sh_law : ∃ q0 q1 q2 q3 q4 r,newN (DN.new 20) = (q0.d,some q0,[],0) ∧ KN.act ⟨q0.d,some q0⟩ ⟨0,0,0,shX⟩ = (⟨q1.d,some q1⟩,⟨1,[],0⟩) ∧ KN.act ⟨q1.d,some q1⟩ ⟨0,0,0,shX⟩ = (⟨q2.d,some q2⟩,⟨0,[],192⟩) ∧ KN.act ⟨q2.d,some q2⟩ ⟨1,1,0,EI.nil⟩ = (⟨q3.d,some q3⟩,⟨0,[],0⟩) ∧ KN.act ⟨q3.d,some q3⟩ ⟨2,2,0,EI.nil⟩ = (⟨q4.d,some q4⟩,⟨0,[],193⟩) ∧ newN q4.d = (r.d,some r,[shS],0) ∧ r.s.L = [] ∧ r.s.knows ⟨#[97]⟩ = true ∧
  q0.d.n ≤ 950000 ∧ q1.d.n ≤ 950000 ∧ q2.d.n ≤ 950000 ∧ q3.d.n ≤ 950000 ∧ q4.d.n ≤ 950000:=by
 exact ⟨sq0,sq1,sq2,sq3,sq4,sq5,by kernel_rfl,by kernel_rfl,by kernel_rfl,by kernel_rfl,by kernel_rfl,by kernel_rfl,by kernel_rfl,by kernel_rfl,Nat.le_of_ble_eq_true (by kernel_rfl),Nat.le_of_ble_eq_true (by kernel_rfl),Nat.le_of_ble_eq_true (by kernel_rfl),Nat.le_of_ble_eq_true (by kernel_rfl),Nat.le_of_ble_eq_true (by kernel_rfl)⟩
set_option maxRecDepth 100000 in
theorem shown_any (hI : GInv w aA aT aN aW aS) : Calls Tryz.prog 13 #[] w (Ret (.bool true) w) := by
 obtain ⟨q0,q1,q2,q3,q4,r,a0,a1,a2,a3,a4,a5,a6,a7,n0,n1,n2,n3,n4⟩:=sh_law
 have HA:=Lib.hid (And.intro a0 <| And.intro a1 <| And.intro a2 <| And.intro a3 <| And.intro a4 <| And.intro a5 <| And.intro a6 a7)
 have HN:=Lib.hid (And.intro n0 <| And.intro n1 <| And.intro n2 <| And.intro n3 n4)
 clear a0 a1 a2 a3 a4 a5 a6 a7 n0 n1 n2 n3 n4
 go_enter Tryz.func13,Tryz.ntmps13
 go_wp2_with fail
 refine (New_ok 20 _ (by decide) (by decide)).mono ?_
 intro e v1 hN
 obtain ⟨p,g,rfl,h1⟩:=QPlay.of_new hN (by decide)
 clear hN
 go_wp2_with fail
 have c1:=play_new h1 hI (Nat.zero_le _)
 rw [HA.out.1] at c1
 dsimp only at c1
 with_reducible refine c1.mono ?_
 rintro e v2 ⟨o0,lv,rfl,hlv,z2⟩
 have h2:=h1.went z2
 clear c1 h1 z2
 obtain ⟨-,A0,cp0,rfl,-⟩:=rowE_own hlv
 clear hlv
 obtain ⟨b,hb⟩:=qptr_some h2.at_
 rw [hb]
 have HB:=Lib.hid hb
 clear hb
 have hE:=ext_new v2 (.cells #[.int .i64 0,.int .i64 7,.string ⟨#[97]⟩,.string ⟨#[104,105]⟩,.int .i64 5,.bool false,.bool false] 23)
 have hX:=Blk.new_ v2 23 #[.int .i64 0,.int .i64 7,.string ⟨#[97]⟩,.string ⟨#[104,105]⟩,.int .i64 5,.bool false,.bool false]
 have hnx : ∀ j,KF o0 p g j → j < v2.heap.size:=fun j hj => h2.at_.lt hj
 have h3:=h2.ext hE
 obtain ⟨v3,hv3⟩ : ∃ v3,v2.alloc (.cells #[.int .i64 0,.int .i64 7,.string ⟨#[97]⟩,.string ⟨#[104,105]⟩,.int .i64 5,.bool false,.bool false] 23) = v3:=⟨_,rfl⟩
 rw [hv3] at hE hX h3
 obtain ⟨x,hx⟩ : ∃ x,v2.heap.size = x:=⟨_,rfl⟩
 rw [hx] at hX hnx hE
 have HV:=Lib.hid (And.intro hv3 hx)
 clear hv3 hx h2
 go_wp2_with fail
 rw [HV.out.1,HV.out.2]
 replace hnx : ¬ KF o0 p g x:=fun q => Nat.lt_irrefl _ (hnx _ q)
 have c3:=play_put ⟨0,0,0,shX⟩ rfl h3 hI ⟨by decide,by decide,by decide⟩ HN.out.1
 rw [HA.out.2.1,HB.out,show (QO.mk 0 0 0 shX).e.val = .agg #[.int .i64 0,.int .i64 7,.string ⟨#[97]⟩,.string ⟨#[104,105]⟩,.int .i64 5,.bool false,.bool false] from rfl] at c3
 dsimp only at c3
 with_reducible refine c3.mono ?_
 rintro e v4 ⟨rfl,o1,z,hq⟩
 have h4:=h3.went z
 have hX4:=hX.kept (z.foot.block x hX.lt hnx)
 replace HB:=Lib.hid hq
 clear c3 hq hX z h3 hnx hE
 obtain ⟨y0,y1,y2,y3,y4,y5,y6⟩:=hX4.c7.1
 go_wp2_with fail
 have c4:=play_put ⟨0,0,0,shX⟩ rfl h4 hI ⟨by decide,by decide,by decide⟩ HN.out.2.1
 rw [HA.out.2.2.1,HB.out,show (QO.mk 0 0 0 shX).e.val = .agg #[.int .i64 0,.int .i64 7,.string ⟨#[97]⟩,.string ⟨#[104,105]⟩,.int .i64 5,.bool false,.bool false] from rfl] at c4
 dsimp only at c4
 with_reducible refine c4.mono ?_
 rintro e v5 ⟨rfl,o2,z,hq⟩
 have h5:=h4.went z
 replace HB:=Lib.hid hq
 clear c4 hq z h4 y0 y1 y2 y3 y4 y5 y6 hX4
 go_wp2_with fail
 have c5:=play_sent ⟨1,1,0,EI.nil⟩ rfl h5 hI HN.out.2.2.1
 rw [HA.out.2.2.2.1,HB.out] at c5
 dsimp only at c5
 with_reducible refine c5.mono ?_
 rintro e v6 ⟨rfl,o3,z,hq⟩
 have h6:=h5.went z
 replace HB:=Lib.hid hq
 clear c5 hq z h5
 go_wp2_with fail
 have c6:=play_done ⟨2,2,0,EI.nil⟩ rfl h6 hI HN.out.2.2.2.1
 rw [HA.out.2.2.2.2.1,HB.out] at c6
 dsimp only at c6
 with_reducible refine c6.mono ?_
 rintro e v7 ⟨rfl,o4,z,hq⟩
 have h7:=h6.went z
 replace HB:=Lib.hid hq
 clear c6 hq z h6
 go_wp2_with fail
 have c7:=play_new h7 hI HN.out.2.2.2.2
 dsimp only at c7
 rw [HA.out.2.2.2.2.2.1] at c7
 dsimp only at c7
 with_reducible refine c7.mono ?_
 rintro e v8 ⟨o5,lv,rfl,hlv,z⟩
 have h8:=h7.went z
 clear c7 h7 z
 obtain ⟨-,A1,cp1,rfl,hrow⟩:=rowE_own hlv
 obtain ⟨m,rfl,hm,hcell⟩:=hrow (by decide)
 have hM:=hcell 0 (by decide)
 clear hlv hrow hcell
 obtain ⟨b2,hb2⟩:=qptr_some h8.at_
 rw [hb2]
 replace HB:=Lib.hid hb2
 clear hb2
 go_wp2_with fail
 refine (new_nil _ (hI.below h8.bel).d.s).mono ?_
 rintro e v9 ⟨rfl,hb9⟩
 have h9:=h8.ext hb9
 replace hM:=hM.below hm hb9
 have m2 : v9.cell? ⟨m,2,none⟩ = some (.string ⟨#[97]⟩):=hM.2.2.1
 have m6 : v9.cell? ⟨m,6,none⟩ = some (.bool true):=hM.2.2.2.2.2.2
 clear hM h8 hb9
 go_wp2_with fail
 have cE:=play_entries h9.at_
 rw [HA.out.2.2.2.2.2.2.1,HB.out] at cE
 with_reducible refine cE.mono ?_
 rintro e v10 ⟨lv,rfl,hlv,hb10⟩
 obtain ⟨-,A2,cp2,rfl,-⟩:=rowE_own hlv
 have h10:=h9.ext hb10
 clear cE hlv h9 hb10 m2 m6
 go_wp2_with fail
 have cK:=play_knows ⟨#[97]⟩ h10.at_
 rw [HA.out.2.2.2.2.2.2.2,HB.out] at cK
 with_reducible refine cK.mono ?_
 rintro e v11 ⟨rfl,rfl⟩
 have hfin:=h10.bel
 clear cK h10
 go_wp2_with fail
 go_ret
 exact ⟨rfl,hfin⟩
def QO.In (x : QO) : Prop := x.e.key.size ≤ 9223372036854775807 ∧ x.e.data.size ≤ 9223372036854775807 ∧ x.a ≤ 9223372036854775807
theorem QO.In.cut {x : QO} (h : x.In) : x.cut.Ok := by
 refine ⟨?_,?_,h.2.2⟩
 ·show (x.e.key.extract 0 (min x.e.key.size 121)).size ≤ 1000000
  rw [ByteArray.size_extract];omega
 ·show (x.e.data.extract 0 (min x.e.data.size 300)).size ≤ 1000000
  rw [ByteArray.size_extract];omega
end Go.Proofs.YtmebjdbkngehiaaGreatDoor
