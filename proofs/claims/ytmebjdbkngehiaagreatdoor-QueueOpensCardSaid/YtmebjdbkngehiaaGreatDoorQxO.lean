/-
  The document's New. Conditions: as the theorems' own hypotheses say.
-/
import Derived.Test.YtmebjdbkngehiaaGreatDoorQiD
import Derived.Test.YtmebjdbkngehiaaGreatDoorQhI
namespace Go.Proofs.YtmebjdbkngehiaaGreatDoor
open Go.RowKit Go.Shelf
set_option maxHeartbeats 40000000
variable {w : World} {b p g c k : Nat} {v : XV} {V : Value} {d : DN}
def XNewAt (p g c : Nat) (r : DN × Option QN × List EI × Int) (w : World) (e : Ending) (w' : World) : Prop :=
 ∃ qv lv k',e = .returned (.tuple #[qv,lv,.int .i64 r.2.2.2]) ∧ w'.ownsRow w.heap.size 23 7 lv r.2.2.1.length (cellsE r.2.2.1) ∧ Foot (fun j => j = p ∨ j = g) w w' ∧ RAt w' p g c k' r.1 ∧
  match r.2.1 with
  | none => qv = .pointer none
  | some q => ∃ b v,qv = .pointer (some ⟨b,0,none⟩) ∧ XQ w' b v p g c k' q ∧ ∀ j,XF b v p g j → (j = p ∨ j = g) ∨ w.heap.size ≤ j
theorem xown_told {w' : World} {q : QN} {base n size : Nat} {T : TypeId} {xs : List Value} (h : XQ w b v p g c k q) (hf : Foot (XF b v p g) w w') (ho : w.ownsRow base T size V n xs) (hT : T ≠ 117 ∧ T ≠ 59 ∧ T ≠ 9 ∧ T ≠ 23 ∧ T ≠ 158) : w'.ownsRow base T size V n xs := by
 refine own_keep ho fun j hj => hf.block j (own_lt ho hj) ?_
 obtain ⟨cs,hB⟩:=own_blk ho hj
 rintro (e | e | e | e | e)
 ·exact blk_ne hB h.blk hT.1 e
 ·exact blk_ne hB h.disk.disk hT.2.1 e
 ·subst e;exact own_type h.disk.row hB hT.2.2.1 rfl
 ·exact own_type h.ent hB hT.2.2.2.1 e
 ·exact own_type h.key hB hT.2.2.2.2 e
theorem ents_one {e : EI} (h : Blk w g 23 #[.int .i64 e.id,.int .i64 e.side,.string e.key,.string e.data,.int .i64 e.due,.bool e.cust,.bool e.sent]) : EntsAt w (some ⟨g,0,none⟩) 1 [e] :=
 ⟨rfl,.inr ⟨_,rfl,h.lt,fun j u hj => Blk.cells_ (ds:=[.int .i64 e.id,.int .i64 e.side,.string e.key,.string e.data,.int .i64 e.due,.bool e.cust,.bool e.sent]) h j u (by simpa [cellsE,EI.cs] using hj)⟩⟩
def OpX (w : World) (b p g c k : Nat) (d : DN) (o : Bool) (tl : Nat) (V : Value) (rs : List RI) (j : Nat) (W : World) : Prop :=
 ∃ v,XQ W b v p g c k ⟨d,SN.nil.tells (rs.take j),o,tl,false⟩ ∧ W.ownsRow w.heap.size 128 3 V rs.length (cellsQ rs) ∧ Foot (fun i => i = p ∨ i = g) w W ∧ ∀ i,XF b v p g i → (i = p ∨ i = g) ∨ w.heap.size ≤ i
theorem opx_next {A w7 : World} {tl j : Nat} {o : Bool} {rs : List RI} (hj : j < rs.length) (h : XQ A b v p g c k ⟨d,SN.nil.tells (rs.take j),o,tl,false⟩) (ho : A.ownsRow w.heap.size 128 3 V rs.length (cellsQ rs)) (hf : Foot (fun i => i = p ∨ i = g) w A) (hF : ∀ i,XF b v p g i → (i = p ∨ i = g) ∨ w.heap.size ≤ i)
  (hS : XWent A b v p g c k ⟨d,(SN.nil.tells (rs.take j)).tell rs[j],o,tl,false⟩ w7) : OpX w b p g c k d o tl V rs (j + 1) w7:=by
 obtain ⟨v',h1,h2,h3⟩:=hS
 refine ⟨v',by rw [tells_take rs _ hj];exact h1,xown_told h h2 ho (by decide),hf.trans h2 hF,fun i hi => ?_⟩
 rcases h3 i hi with q | q
 ·exact hF i q
 ·exact .inr (Nat.le_trans hf.size q)
structure DrX (w : World) (b p g c : Nat) (q0 : QN) (ls : List EI) (lv : Value) (j : Nat) (W : World) : Prop where
 ex : ∃ v k,XQ W b v p g c k (q0.drops (ls.take j)).1 ∧ (∀ i,XF b v p g i → some i ≠ lv.ownBlock) ∧ ∀ i,XF b v p g i → (i = p ∨ i = g) ∨ w.heap.size ≤ i
 ok : (q0.drops (ls.take j)).2 = 0
 row : W.ownsRow w.heap.size 23 7 lv ls.length (cellsE ls)
 foot : Foot (fun i => i = p ∨ i = g) w W
theorem DrX.logged {W W' : World} {k' : Nat} {q1 q2 : QN} {ls : List EI} {lv : Value} (_h : XQ W b v p g c k q1) (hN : ∀ i,XF b v p g i → some i ≠ lv.ownBlock) (hF : ∀ i,XF b v p g i → (i = p ∨ i = g) ∨ w.heap.size ≤ i) (hr : W.ownsRow w.heap.size 23 7 lv ls.length (cellsE ls)) (hf : Foot (fun i => i = p ∨ i = g) w W) (hW : XWent W b v p g c k' q2 W') :
  (∃ v k,XQ W' b v p g c k q2 ∧ (∀ i,XF b v p g i → some i ≠ lv.ownBlock) ∧ ∀ i,XF b v p g i → (i = p ∨ i = g) ∨ w.heap.size ≤ i) ∧ W'.ownsRow w.heap.size 23 7 lv ls.length (cellsE ls) ∧ Foot (fun i => i = p ∨ i = g) w W':=by
 obtain ⟨v',h1,h2,h3⟩:=hW
 refine ⟨⟨v',k',h1,fun i hi e => ?_,fun i hi => ?_⟩,own_keep hr fun i hi => h2.block i (own_lt hr hi) fun q => hN i q hi,hf.trans h2 hF⟩
 ·rcases h3 i hi with q | q
  ·exact hN i q e
  ·have:=own_lt hr e;omega
 ·rcases h3 i hi with q | q
  ·exact hF i q
  ·exact .inr (Nat.le_trans hf.size q)
set_option maxRecDepth 100000 in
theorem xnew_down (h : RAt w p g c k d) (hd : d.down = true) : Calls Tryz.prog 40 #[.pointer (some ⟨p,0,none⟩)] w (Pure (.tuple #[.pointer none,.slice none 0 0,.int .i64 180]) w) := by
 obtain ⟨a0,a1,a2,a3,a4,-⟩:=h.disk.c5
 rw [hd] at a3
 clear h hd
 go_enter Tryz.func40,Tryz.ntmps40
 go_wp2_with fail
 exact bodyPost_ret (v:=.tuple #[.pointer none,.slice none 0 0,.int .i64 180]) (by simp [results,Tryz.results40]) rfl ⟨rfl,rfl⟩
set_option maxRecDepth 100000 in
theorem xnew_small (h : RAt w p g c k d) (hd : d.down = false) (h9 : d.L.length < 9) : Calls Tryz.prog 40 #[.pointer (some ⟨p,0,none⟩)] w (Pure (.tuple #[.pointer none,.slice none 0 0,.int .i64 190]) w) := by
 obtain ⟨a0,a1,a2,a3,a4,-⟩:=h.disk.c5
 rw [hd] at a3
 have h3 : (d.L.length : Int) < 9:=by omega
 clear h hd
 go_enter Tryz.func40,Tryz.ntmps40
 go_wp2_with fail
 exact bodyPost_ret (v:=.tuple #[.pointer none,.slice none 0 0,.int .i64 190]) (by simp [results,Tryz.results40]) rfl ⟨rfl,rfl⟩
set_option maxRecDepth 100000 in
theorem xnew_ok (h : RAt w p g c k d) (hd : d.down = false) (h9 : 9 ≤ d.L.length) (hn : d.n ≤ 930000) :
  Calls Tryz.prog 40 #[.pointer (some ⟨p,0,none⟩)] w (XNewAt p g c (newN d) w):=by
 have hqw:=open_qw h.fit hd h9
 have hdl:=h.len
 have h3 : ¬ ((d.L.length : Int) < 9):=by omega
 obtain ⟨x0,xs,l,hL⟩ : ∃ x0 xs l,d.L = (x0 :: xs) :: l:=by
  cases hL : d.L with
  | nil => rw [hL] at h9;simp at h9
  | cons s l =>
   have:=h.fit.sec s (by rw [hL];simp)
   cases s with
   | nil => simp at this
   | cons x0 xs => exact ⟨_,_,_,rfl⟩
 have hfl:=flag_head hL
 obtain ⟨b,hb⟩ : ∃ b,w.heap.size = b:=⟨_,rfl⟩
 have hbn:=ext_new w (.cells #[.pointer (some ⟨p,0,none⟩),.slice none 0 0,.slice none 0 0,.int .i64 0,.int .i64 0,.bool false] 117)
 have hq0 : XQ (w.alloc (.cells #[.pointer (some ⟨p,0,none⟩),.slice none 0 0,.slice none 0 0,.int .i64 0,.int .i64 0,.bool false] 117)) b ⟨.slice none 0 0,.slice none 0 0⟩ p g c k ⟨d,SN.nil,false,0,false⟩:=⟨Blk.at_ hb.symm,own_nil,own_nil,h.below hbn⟩
 obtain ⟨o,ho⟩ : ∃ o,decide (x0 ≠ 0) = o:=⟨_,rfl⟩
 have hxo : ((x0.toNat : Int) != 0) = o:=by
  rw [← ho];have : ((x0.toNat : Int) = 0) ↔ x0 = 0:=by
   constructor
   ·intro e;exact UInt8.toNat_inj.1 (by show x0.toNat = 0;omega)
   ·intro e;rw [e];rfl
  by_cases hx : x0 = 0
  ·subst hx;rfl
  ·rw [decide_eq_true hx]
   simpa using fun e => hx (this.1 e)
 have hfo:=hfl.trans ho
 have hlen0 : 0 < (⟨(x0 :: xs).toArray⟩ : ByteArray).size:=by rw [list_size2];simp
 have hg0 : (⟨(x0 :: xs).toArray⟩ : ByteArray)[0] = x0:=rfl
 obtain ⟨a0,a1,a2,a3,a4,-⟩:=h.disk.c5
 obtain ⟨b0,b1,b2,b3,b4,-⟩:=(h.below hbn).disk.c5
 have t0 : (w.alloc (.cells #[.pointer (some ⟨p,0,none⟩),.slice none 0 0,.slice none 0 0,.int .i64 0,.int .i64 0,.bool false] 117)).cell? ⟨g,0,none⟩ = some (.string ⟨(x0 :: xs).toArray⟩):=by
  have:=(h.below hbn).cell (i:=0) (by omega)
  simpa [hL] using this
 rw [hd] at a3
 obtain ⟨N,hN⟩ : ∃ N,d.L.length = N:=⟨_,rfl⟩
 rw [hN] at a0 b0 h3
 have n9 : 9 ≤ N:=by omega
 have HN:=Lib.hid hN
 have HX:=Lib.hid (And.intro h <| And.intro hd <| And.intro h9 hn)
 have HQ0:=Lib.hid hq0
 have HBN:=Lib.hid hbn
 have HFO:=Lib.hid hfo
 have HQW:=Lib.hid hqw
 have hq0c:=hq0.blk.c6
 obtain ⟨-,-,-,z3,-,-,-,-,-,f3,-⟩:=hq0c
 clear hq0 hfl hL ho hbn hfo hqw h hd h9 hn hdl hN
 go_enter Tryz.func40,Tryz.ntmps40
 cases o
 go_wp2_with fail
 have HB3:=Lib.hid HBN.out
 have HQ3:=Lib.hid HQ0.out
 generalize w.alloc (.cells #[.pointer (some ⟨p,0,none⟩),.slice none 0 0,.slice none 0 0,.int .i64 0,.int .i64 0,.bool false] 117) = W3 at *
 rotate_left
 go_wp2_with fail
 have HQ3:=Lib.hid (show XQ (w.alloc (.cells #[.pointer (some ⟨p,0,none⟩),.slice none 0 0,.slice none 0 0,.int .i64 1,.int .i64 0,.bool false] 117)) b ⟨.slice none 0 0,.slice none 0 0⟩ p g c k ⟨d,SN.nil,true,0,false⟩ from ⟨Blk.at_ hb.symm,own_nil,own_nil,HX.out.1.below (ext_new w _)⟩)
 have HB3:=Lib.hid (ext_new w (.cells #[.pointer (some ⟨p,0,none⟩),.slice none 0 0,.slice none 0 0,.int .i64 1,.int .i64 0,.bool false] 117))
 generalize w.alloc (.cells #[.pointer (some ⟨p,0,none⟩),.slice none 0 0,.slice none 0 0,.int .i64 1,.int .i64 0,.bool false] 117) = W3 at *
 all_goals
  obtain ⟨o,hfo,hq3⟩ : ∃ o,flagN d = o ∧ XQ W3 b ⟨.slice none 0 0,.slice none 0 0⟩ p g c k ⟨d,SN.nil,o,0,false⟩:=⟨_,HFO.out,HQ3.out⟩
  obtain ⟨h,hd,h9,hn⟩:=HX.out;have hlen:=h.len;have hsl:=sz_lt h9 o;have hz : szN d.L.length ≤ 16384:=by unfold szN;omega
  have hdr:=hq3.below ((Below.refl _ W3).drew);have hb3:=HB3.out.drew;have hSz:=xsize_any (hdr.blk.cell 0) (hdr.disk.disk.cell 0) (by show 0 < d.L.length;omega) hlen;have hBy:=RBytes_any (beginN d.L.length o : Int) (szN d.L.length : Int) hdr.disk (by omega) (by omega);dsimp only at hSz hBy;rw [bytes_up hd h.fit hsl.1,show (d.L.flatten.drop (beginN d.L.length o)).take (szN d.L.length) = areaN d.L.flatten d.L.length o from rfl] at hBy;have hal : (areaN d.L.flatten d.L.length o).length ≤ 16384:=by
   unfold areaN;rw [List.length_take];omega
  have HOP:=Lib.hid (show openN d = ⟨d,SN.nil.tells ((scanOf (areaN d.L.flatten d.L.length o)).1.map RecN.i),o,(scanOf (areaN d.L.flatten d.L.length o)).2,false⟩ from by unfold openN;rw [hfo]);obtain ⟨AR,hAR⟩ : ∃ AR,areaN d.L.flatten d.L.length o = AR:=⟨_,rfl⟩
  rw [hAR] at hBy hal HOP;have hls:=lay_scan (AR.length + 1) AR (Nat.lt_succ_self _);have hsm:=scan_small AR;have hScn:=fun W => rFScan_any ⟨AR.toArray⟩ (by rw [list_size2];omega) W;rw [show (⟨AR.toArray⟩ : ByteArray).data.toList = AR by simp] at hScn;obtain ⟨rs,tl,hrt⟩ : ∃ rs tl,scanOf AR = (rs,tl):=⟨_,_,rfl⟩
  rw [hrt] at hls hsm hScn HOP;dsimp only at hls hsm hScn HOP;obtain ⟨z,hz0⟩ : ∃ z,szN d.L.length = z:=⟨_,rfl⟩
  obtain ⟨a,ha⟩ : ∃ a,beginN d.L.length o = a:=⟨_,rfl⟩
  have hbz : a = 64 + (if o then z else 0):=by rw [← ha,← hz0];unfold beginN;cases o <;> simp
  have e1 : IntKind.i64.wrap (oI o * (z : Int)) = ((if o then z else 0 : Nat) : Int):=by
   unfold oI
   cases o
   ·simp;rfl
   ·simp only [if_true,Int.one_mul];exact IntWalk.i64_in _ (by omega)
  have e2 : IntKind.i64.wrap (64 + ((if o then z else 0 : Nat) : Int)) = (a : Int):=by rw [IntWalk.i64_in _ (by rw [hz0] at hz;split <;> omega)];omega
  have hz1 : (if o then z else 0 : Nat) ≤ 16384:=by rw [hz0] at hz;split <;> omega
  generalize (if o then z else 0 : Nat) = z1 at *;rw [hz0] at hSz hBy;rw [ha] at hBy;obtain ⟨tx,htx⟩ : ∃ t : ByteArray,(⟨AR.toArray⟩ : ByteArray) = t:=⟨_,rfl⟩
  rw [htx] at hBy hScn;have ea : (a : Int) = 64 + (z1 : Int):=by omega
  rw [ea] at hBy e2;clear ea hbz;have x3:=hdr.blk.c6.2.2.2.1;dsimp only at x3;have HSC:=Lib.hid hScn;have HLS:=Lib.hid hls;have HQ4:=Lib.hid hdr;have HB4:=Lib.hid hb3;have HSZ:=Lib.hid hSz;have HBY:=Lib.hid hBy;clear hScn hls hAR hrt hq3 HQ3 h hd hn hlen hsl hdr hfo htx hb3 hSz hBy HB3 ha hz0 hz HQ0 HBN a0 a1 a2 a3 a4 b0 b1 b2 b3 b4 t0 z3 f3 hxo hg0 hlen0 HFO;refine wp_region_held_drew (S:=fun W => W.cell? ⟨b,3,none⟩ = some (.int .i64 (oI o))) (by kernel_rfl) x3 (fun hHeld => ?_);generalize W3.drew = W4 at *;clear x3;refine tk_ 0 42 rfl rfl ?_;refine tk_ 1 43 rfl rfl ?_;refine tk_ 2 44 rfl rfl ?_;refine tk_ 3 45 rfl rfl ?_;refine tk_ 4 46 rfl rfl ?_ (fun wx hSx => by have y3:=hSx;go_simp;try with_reducible rfl);refine tk_ 5 47 rfl rfl ?_;refine tk_ 9 51 rfl rfl ?_;refine rdy1 6 rfl ?_;intro K hK;go_simp;with_reducible refine HSZ.out.mono ?_
  rintro e w5 ⟨rfl,rfl⟩;try go_wp2_with fail
  refine hK.out _ _ hHeld (fun hHeld => ?_);clear hK K;refine tk_ 7 49 rfl rfl ?_;refine tk_ 8 50 rfl rfl ?_;refine rdy1 10 rfl ?_;intro K hK;go_simp;with_reducible refine HSZ.out.mono ?_
  rintro e w5 ⟨rfl,rfl⟩;try go_wp2_with fail
  refine hK.out _ _ hHeld (fun hHeld => ?_);clear hK K;refine rdy1 11 rfl ?_;intro K hK;go_simp;with_reducible refine HBY.out.mono ?_
  rintro e w5 ⟨rfl,rfl⟩;try go_wp2_with fail
  refine hK.out _ _ hHeld (fun hHeld => ?_);clear hK K;refine tk_ 12 41 rfl rfl ?_;refine tk_ 13 54 rfl rfl ?_;refine tk_ 14 55 rfl rfl ?_;refine tk_ 15 6 rfl rfl ?_;refine tk_ 16 7 rfl rfl ?_;refine wpAnyH_done (by kernel_rfl) ?_ _;try simp only [Act.put,List.setIfInBounds_toArray,List.set_cons_succ,List.set_cons_zero]
  go_wp2_with fail
  with_reducible refine (HSC.out W4).mono ?_
  rintro ev w5 ⟨V,rfl,hown,hb5⟩;obtain ⟨A,cp,rfl⟩:=own_form hown;have hown2:=own_base (base':=w.heap.size) hown HB4.out.size;rw [cellsR_i] at hown2;obtain ⟨ri,hri⟩ : ∃ ri,rs.map RecN.i = ri:=⟨_,rfl⟩
  have hrl : rs.length = ri.length:=by rw [← hri,List.length_map]
  have hok : ∀ x ∈ ri,okNum x.id = true ∧ x.d.size ≤ 2000:=by
   intro x hx;rw [← hri] at hx;obtain ⟨y,hy,rfl⟩:=List.mem_map.1 hx;have h2:=(rec_ok (HLS.out.1 y hy)).1;have h3:=rightV_iff.1 (show rightV (y.i).op (y.i).id (y.i).d = true from h2);exact ⟨h3.2.2.1,h3.2.2.2⟩
  have hsok : ∀ k,(SN.nil.tells (ri.take k)).Ok:=fun k => SN.nil_ok.tells fun x hx => (hok x (List.mem_of_mem_take hx)).1;rw [hri,hrl] at hown2;rw [hri] at HOP;rw [hrl];have hrl2 : ri.length ≤ 16384:=by omega
  have hq5:=HQ4.out.below hb5;have hB5:=ext_trans HB4.out hb5;obtain ⟨-,-,-,-,x4,-,-,-,-,-,f4,-⟩:=hq5.blk.c6;have hst : OpX w b p g c k d o tl (.slice A ri.length cp) ri 0 (w5.setCell ⟨b,4,none⟩ (.int .i64 (tl : Int))) :=
   ⟨_,hq5.set (q':=⟨d,SN.nil,o,tl,false⟩) 4 (.int .i64 (tl : Int)) rfl rfl rfl,own_set hown2 (own_type hown2 hq5.blk (by decide)) _ _,(Foot.of_below hB5).set (.inr (by omega)) 4 _,by
    rintro i (e | e | e | e | e)
    ·exact .inr (by omega)
    ·exact .inl (.inl e)
    ·exact .inl (.inr e)
    ·cases e
    ·cases e⟩
  have HOK:=Lib.hid hok;have HSO:=Lib.hid hsok;clear hown hown2 hb5 hq5 hB5 hok hsok hri hrl hsm hal;go_wp2_with fail
  go_loopw [10] (fun i wr => ∃ j : Nat,j ≤ ri.length ∧ i = .int .i64 (j : Int) ∧ OpX w b p g c k d o tl (.slice A ri.length cp) ri j wr) (fun i _ => ri.length - (intOf i).toNat)
  case atStart => exact ⟨0,Nat.zero_le _,rfl,hst⟩
  case round =>
   obtain ⟨j,hj,rfl,v,hqj,hoj,hfj,hFj⟩:=hrel;by_cases hlt : j < ri.length
   ·obtain ⟨-,A2,c2,e2,hrd⟩:=rdR_own hoj
    injection e2 with e2 e3 e4
    subst e2;clear e3 e4;obtain ⟨ad,rfl,hadl,hc⟩:=hrd (by omega);obtain ⟨g1,g2,g3⟩:=hc j hlt;have i0 : (0 : Int) ≤ (j : Int):=by omega
    have i1 : (j : Int) < (ri.length : Int):=by omega
    have hqA:=hqj.below (Below.refl _ wr).drew;have cT:=xtell_any ri[j] hqA (HSO.out j) (by have:=(HOK.out ri[j] (List.getElem_mem hlt)).2;omega);have HEND:=Lib.hid (fun (w7 : World) (hX7 : XWent wr.drew b v p g c k _ w7) => opx_next (w:=w) hlt hqA (own_below hoj (Below.refl _ wr).drew) (hfj.ext (Below.refl _ wr).drew) hFj hX7);unfold RI.val at cT;have y1 : wr.drew.cell? _ = _:=g1;have y2 : wr.drew.cell? _ = _:=g2;have y3 : wr.drew.cell? _ = _:=g3;clear hqj hoj hfj hFj hc hqA g1 g2 g3 hst;generalize ri[j] = x at *;go_wp2_with fail
    refine wp_region_held_drew (S:=fun _ => True) (by kernel_rfl) trivial (fun _ => ?_);generalize wr.drew = W6 at *;refine tk_ 0 71 rfl rfl ?_;refine tk_ 1 72 rfl rfl ?_;refine tk_ 2 73 rfl rfl ?_;refine tk_ 3 74 rfl rfl ?_;refine tk_ 4 75 rfl rfl ?_;refine tk_ 5 76 rfl rfl ?_;refine rdy1 6 rfl ?_;intro K hK;go_simp;refine hK.out _ _ trivial (fun _ => ?_);clear hK K;refine rdy1 7 rfl ?_;intro K hK;go_simp;with_reducible refine cT.mono ?_
    rintro e w7 ⟨rfl,hX7⟩;have hfin:=HEND.out w7 hX7;try go_wp2_with fail
    refine hK.out _ _ trivial (fun _ => ?_);clear hK K cT HEND hX7 y1 y2 y3;refine wpAnyH_done (by kernel_rfl) ?_ _;try simp only [Act.put,List.setIfInBounds_toArray,List.set_cons_succ,List.set_cons_zero]
    go_wp2_with fail
    go_roundw
    ·exact ⟨j + 1,by omega,by go_num,hfin⟩
    ·simp [intOf];omega
   ·obtain rfl : j = ri.length:=by omega
    rw [List.take_length] at hqj;obtain ⟨q0,hq0⟩ : ∃ q0,openN d = q0:=⟨_,rfl⟩
    rw [← HOP.out,hq0] at hqj;have hqw:=HQW.out;have hnew1:=new_ok_eq HX.out.2.1 HX.out.2.2.1;have hnew2:=new_no_eq HX.out.2.1 HX.out.2.2.1;rw [hq0] at hqw hnew1 hnew2;have hu0 : q0.down = false:=by rw [← hq0];rfl
    have hd0 : q0.d = d:=by rw [← hq0];rfl
    obtain ⟨L0,hL0⟩ : ∃ L0,q0.s.L = L0:=⟨_,rfl⟩
    rw [hL0] at hnew1 hnew2;have hL60 : L0.length ≤ 60:=by rw [← hL0];exact hqw.ok.len
    have hids : ∀ e ∈ L0,okNum e.id = true:=fun e he => (EI.right_iff.1 (hqw.ok.ents e (by rw [hL0];exact he))).2.1;obtain ⟨AL,AK,cL,cK,rfl,hS⟩:=hqj.xs;rw [hL0] at hqj hFj;obtain ⟨n0,hn0⟩ : ∃ n,L0.length = n:=⟨_,rfl⟩
    have x1:=hS.l;rw [hL0,hn0] at x1;have HS:=Lib.hid hS;have HN1:=Lib.hid hnew1;have HN2:=Lib.hid hnew2;have HID:=Lib.hid hids;have HQ0:=Lib.hid (And.intro hqw <| And.intro hu0 hd0);have HL0:=Lib.hid (And.intro hL0 hn0);have HXJ:=Lib.hid (And.intro hqj <| And.intro hFj hfj);rw [hn0] at hL60;have hLN : ∀ k,(lostL (L0.take k)).length ≤ 60:=fun k => Nat.le_trans (List.length_filter_le _ _) (by rw [List.length_take];omega);have HLN:=Lib.hid hLN;clear hqj hoj hfj hFj hqw hnew1 hnew2 hu0 hd0 hids hS hst hj hlt hq0 hL0 hn0 hLN
    rename World => w9
    go_wp2_with fail
    go_loopw [11,12] (fun lv i W => ∃ j : Nat,j ≤ n0 ∧ i = .int .i64 (j : Int) ∧ W.ownsRow w9.heap.size 23 7 lv (lostL (L0.take j)).length (cellsE (lostL (L0.take j))) ∧ Below w9.heap.size w9 W) (fun _ i _ => n0 - (intOf i).toNat)
    case atStart => exact ⟨0,Nat.zero_le _,rfl,own_nil,ext_refl _⟩
    case round =>
     obtain ⟨j,hj,rfl,hown,hb⟩:=hrel;by_cases hlt : j < n0
     ·have j0 : j < L0.length:=by rw [HL0.out.2];exact hlt
      have hSw:=HS.out.below hb;have y1:=hSw.l;have hen:=hSw.ents;rw [HL0.out.1] at y1 hen;rw [HL0.out.2] at y1;obtain ⟨gr,rfl,hgl,hc⟩:=hen (by omega);obtain ⟨g0,g1,g2,g3,g4,g5,g6⟩:=hc j j0;have hlk:=lost_take L0 j0;have hll:=HLN.out j;obtain ⟨⟨yi,ys,yk,yd,yu,yc,yt⟩,hy⟩ : ∃ y,L0[j] = y:=⟨_,rfl⟩
      rw [hy] at g0 g1 g2 g3 g4 g5 g6 hlk;dsimp only at g0 g1 g2 g3 g4 g5 g6;obtain ⟨ls,hls⟩ : ∃ ls,lostL (L0.take j) = ls:=⟨_,rfl⟩
      rw [hls] at hlk hll hown;have HLK:=Lib.hid hlk;have HOW:=Lib.hid (And.intro hown hb);have HLL:=Lib.hid hll;have i0 : (0 : Int) ≤ (j : Int):=by omega
      have i1 : (j : Int) < (n0 : Int):=by omega
      clear hSw hen hc hlk hll hown hb hy hls
      cases yt with
      | false =>
       have HEND:=Lib.hid (show lostL (L0.take (j + 1)) = ls from by rw [HLK.out];cases yc <;> rfl);clear HLK;go_wp2_with fail
       go_roundw
       ·exact ⟨j + 1,by omega,by go_num,by rw [HEND.out];exact HOW.out.1,HOW.out.2⟩
       ·simp [intOf];omega
      | true =>
       cases yc with
       | true =>
        have HEND:=Lib.hid (show lostL (L0.take (j + 1)) = ls from by rw [HLK.out];rfl);clear HLK;go_wp2_with fail
        go_roundw
        ·exact ⟨j + 1,by omega,by go_num,by rw [HEND.out];exact HOW.out.1,HOW.out.2⟩
        ·simp [intOf];omega
       | false =>
        have HEND:=Lib.hid (show lostL (L0.take (j + 1)) = ls ++ [⟨yi,ys,yk,yd,yu,false,true⟩] from by rw [HLK.out];rfl);have hbA:=ext_new wr (.cells #[.int .i64 yi,.int .i64 ys,.string yk,.string yd,.int .i64 yu,.bool false,.bool true] 23);have hownA:=own_below HOW.out.1 hbA;have hbC:=ext_trans HOW.out.2 hbA;obtain ⟨A7,c7,hv7⟩:=own_form hownA;obtain ⟨V',w6,hr,hown6,hg6⟩:=run_moreE (cp:=1) (ents_one (e:=⟨yi,ys,yk,yd,yu,false,true⟩) (Blk.new_ wr 23 #[.int .i64 yi,.int .i64 ys,.string yk,.string yd,.int .i64 yu,.bool false,.bool true])) hownA (by have:=HLL.out;omega) hbC.size 46;have hf6:=((Foot.of_below (F:=fun i => w9.heap.size ≤ i) hbC).grown hg6 (fun i hi => .inl (own_base_le hownA hi))).below (fun _ h => h) (Nat.le_refl _);have HE2:=Lib.hid (show w6.ownsRow w9.heap.size 23 7 V' (lostL (L0.take (j + 1))).length (cellsE (lostL (L0.take (j + 1)))) from by rw [HEND.out,List.length_append,cellsE_app];exact hown6);have HE3:=Lib.hid hf6;clear HLK hown6 hg6 hf6 hownA hbC hbA hv7 HEND;go_wp2_with (at_builtin;refine Lib.wpList_append_run _ rfl _ _ _ _ rfl _ _ rfl rfl _ _ hr ?_)
        go_roundw
        ·exact ⟨j + 1,by omega,by go_num,HE2.out,HE3.out⟩
        ·simp [intOf];omega
     ·have y1:=(HS.out.below hb).l
      rw [HL0.out.1,HL0.out.2] at y1;obtain rfl : j = n0:=by omega
      rw [← HL0.out.2,List.take_length] at hown;obtain ⟨Lst,hLst⟩ : ∃ l,lostL L0 = l:=⟨_,rfl⟩
      have hl60:=HLN.out j;rw [← HL0.out.2,List.take_length,hLst] at hl60;rw [hLst] at hown;have HN1':=HN1.out;have HN2':=HN2.out;rw [hLst] at HN1' HN2';have HNA:=Lib.hid HN1';have HNB:=Lib.hid HN2';have HID2:=Lib.hid (show ∀ e ∈ Lst,okNum e.id = true from fun e he => HID.out e (by rw [← hLst] at he;exact (List.mem_filter.1 he).1));have hst : DrX w b p g c q0 Lst u11 0 wr :=
       ⟨⟨_,_,HXJ.out.1.below hb,fun i hi e => by have:=HXJ.out.1.lt hi;have:=own_base_le hown e;omega,HXJ.out.2.1⟩,rfl,own_base hown HXJ.out.2.2.size,HXJ.out.2.2.ext hb⟩
      obtain ⟨A3,c3,rfl⟩:=own_form hown;obtain ⟨m0,hm0⟩ : ∃ m,Lst.length = m:=⟨_,rfl⟩
      rw [hm0] at hst hl60 ⊢;have HM0:=Lib.hid hm0;clear hown hb HN1' HN2' hm0 hLst hj hlt;go_wp2_with fail
      go_loopw [13] (fun i W => ∃ j : Nat,j ≤ m0 ∧ i = .int .i64 (j : Int) ∧ DrX w b p g c q0 Lst (.slice A3 m0 c3) j W) (fun i _ => m0 - (intOf i).toNat)
      case atStart => exact ⟨0,Nat.zero_le _,rfl,hst⟩
      case round =>
       obtain ⟨j,hj,rfl,⟨⟨v,kd,hq,hN,hF⟩,hok,hrow,hf⟩⟩:=hrel;by_cases hlt : j < m0
       ·have j0 : j < Lst.length:=by rw [HM0.out];exact hlt
        obtain ⟨-,A2,c2,e2,hrd⟩:=rowE_own hrow;injection e2 with e2 e3 e4
        subst e2;clear e3 e4;obtain ⟨gr,rfl,hgl,hc⟩:=hrd (by omega);obtain ⟨g0,-⟩:=hc j j0;have hyid : okNum Lst[j].id = true:=HID2.out _ (List.getElem_mem j0);have htk : Lst.take (j + 1) = Lst.take j ++ [Lst[j]]:=List.take_succ_eq_append_getElem j0;have hsp : Lst.take j ++ Lst[j] :: Lst.drop (j + 1) = Lst:=(at_split Lst j0).symm;obtain ⟨y,hy⟩ : ∃ y,Lst[j] = y:=⟨_,rfl⟩
        rw [hy] at g0 hyid htk hsp;obtain ⟨d1,d2,d3,d4⟩:=drops_qw (Lst.take j) HQ0.out.1 HQ0.out.2.1 (fun e he => HID2.out e (List.mem_of_mem_take he));have hup:=d4 hok;have hnb : (Lst.take j).length * (2 * q0.d.L.length + 2) ≤ 60 * 514:=Nat.mul_le_mul (by rw [List.length_take];omega) (by rw [HQ0.out.2.2];have:=HX.out.1.len;omega);have cL:=xlog_any (dropR y) hq d1 hup (drop_ok hyid) (by rw [HQ0.out.2.2] at d3 hnb;have:=HX.out.2.2.2;omega);change Calls _ _ #[.pointer (some ⟨b,0,none⟩),.agg #[.int .i64 4,.int .i64 y.id,.string ⟨#[]⟩]] _ _ at cL;have HLG:=Lib.hid (fun (k' : Nat) (q2 : QN) (W' : World) (hW : XWent wr b v p g c k' q2 W') => DrX.logged hq hN hF hrow hf hW);have HSN:=Lib.hid (drops_snoc (Lst.take j) y hok);have HST:=Lib.hid (drops_stop (Lst.take j) (Lst.drop (j + 1)) y hok);rw [hsp] at HST;have HTK:=Lib.hid htk;have i0 : (0 : Int) ≤ (j : Int):=by omega
        have i1 : (j : Int) < (m0 : Int):=by omega
        obtain ⟨q1,hq1⟩ : ∃ q1,(q0.drops (Lst.take j)).1 = q1:=⟨_,rfl⟩
        rw [hq1] at cL HSN HST;clear hq hN hF hok hrow hf hrd hc hyid htk hsp hy d1 d2 d3 d4 hup hnb hst hq1;go_wp2_with fail
        with_reducible refine cL.mono ?_
        rintro ev w7 ⟨rfl,k',hW⟩;obtain ⟨hex,hrow7,hf7⟩:=HLG.out _ _ _ hW;clear HLG hW cL;by_cases h0 : (q1.log (dropR y)).2 = 0
        ·have HEND:=Lib.hid (show DrX w b p g c q0 Lst (.slice (some ⟨gr,0,none⟩) m0 c3) (j + 1) w7 from ⟨by rw [HTK.out,HSN.out];exact hex,by rw [HTK.out,HSN.out];exact h0,hrow7,hf7⟩)
         rw [h0];clear hex hrow7 hf7 HTK HSN HST h0;go_wp2_with fail
         go_roundw
         ·exact ⟨j + 1,by omega,by go_num,HEND.out⟩
         ·simp [intOf];omega
        ·obtain ⟨v7,k7,hq7,-,-⟩:=hex
         have hn2:=HNB.out;rw [HST.out h0] at hn2;have HEND:=Lib.hid (show XNewAt p g c (newN d) w (.returned (.tuple #[.pointer none,.slice none 0 0,.int .i64 (q1.log (dropR y)).2])) w7 from by
          rw [hn2 h0];exact ⟨_,_,k7,rfl,own_nil,hf7,hq7.disk,rfl⟩)
         have hc0 : ((q1.log (dropR y)).2 == 0) = false:=by simp [h0]
         generalize (q1.log (dropR y)).2 = cx at *;clear hq7 hn2 hrow7 hf7 HTK HSN HST h0;go_wp2_with fail
         exact bodyPost_ret (v:=.tuple #[.pointer none,.slice none 0 0,.int .i64 cx]) (by simp [results,Tryz.results40]) rfl HEND.out
       ·obtain rfl : j = m0:=by omega
        rw [← HM0.out,List.take_length] at hq hok;have HEND:=Lib.hid (show XNewAt p g c (newN d) w (.returned (.tuple #[.pointer (some ⟨b,0,none⟩),.slice A3 j c3,.int .i64 0])) wr from by
         rw [HNA.out hok];exact ⟨_,_,kd,rfl,by rw [← HM0.out] at hrow ⊢;exact hrow,hf,hq.disk,b,v,rfl,hq,hF⟩)
        clear hq hN hF hok hrow hf hst;go_wp2_with fail
        exact bodyPost_ret (v:=.tuple #[.pointer (some ⟨b,0,none⟩),.slice A3 j c3,.int .i64 0]) (by simp [results,Tryz.results40]) rfl HEND.out
theorem xnew_any (h : RAt w p g c k d) (hn : d.n ≤ 930000) :
  Calls Tryz.prog 40 #[.pointer (some ⟨p,0,none⟩)] w (XNewAt p g c (newN d) w):=by
 rcases bool_cases d.down with hd | hd
 ·by_cases h9 : 9 ≤ d.L.length
  ·exact xnew_ok h hd h9 hn
  ·refine (xnew_small h hd (by omega)).mono ?_
   rintro e w' ⟨rfl,rfl⟩;have e1 : newN d = (d,none,[],190):=by unfold newN;rw [if_neg (by rw [hd];decide),if_pos (by omega)]
   rw [e1];exact ⟨_,_,k,rfl,own_nil,Foot.refl _ _,h,rfl⟩
 ·refine (xnew_down h hd).mono ?_
  rintro e w' ⟨rfl,rfl⟩;have e1 : newN d = (d,none,[],180):=by unfold newN;rw [if_pos hd]
  rw [e1];exact ⟨_,_,k,rfl,own_nil,Foot.refl _ _,h,rfl⟩
end Go.Proofs.YtmebjdbkngehiaaGreatDoor
