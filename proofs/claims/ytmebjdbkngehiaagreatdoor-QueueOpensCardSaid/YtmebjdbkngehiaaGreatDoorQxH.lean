/-
  The document's lay. Conditions: as the theorem's own hypotheses say.
-/
import Derived.Test.YtmebjdbkngehiaaGreatDoorQiB
import Derived.StillTailTactics
import Derived.Test.YtmebjdbkngehiaaGreatDoorQgA
namespace Go.Proofs.YtmebjdbkngehiaaGreatDoor
open Go.RowKit Go.Shelf
set_option maxHeartbeats 8000000
variable {x old : List UInt8} {q : QN}
theorem mix_set (hx : x.length = 64) (ho : old.length = 64) {k : Nat} (hk : k < 64) : x.take (k + 1) ++ old.drop (k + 1) = (x.take k ++ old.drop k).set k (x[k]'(by omega)) := by
 apply List.ext_getElem (by simp;omega)
 intro i h1 h2
 rw [List.getElem_set]
 split
 ·subst_vars
  rw [List.getElem_append_left (by simp;omega)];simp
 ·by_cases hi : i < k
  ·rw [List.getElem_append_left (by simp;omega),List.getElem_append_left (by simp;omega)]
   simp
  ·rw [List.getElem_append_right (by simp;omega),List.getElem_append_right (by simp;omega)]
   simp
   congr 1
   omega
theorem mix_same (hx : x.length = 64) (ho : old.length = 64) {k : Nat} (hk : k < 64) (h : x[k]'(by omega) = old[k]'(by omega)) : x.take (k + 1) ++ old.drop (k + 1) = x.take k ++ old.drop k := by
 rw [mix_set hx ho hk,h]
 apply List.ext_getElem (by simp)
 intro i h1 h2
 rw [List.getElem_set]
 split
 ·subst_vars
  rw [List.getElem_append_right (by simp;omega)];simp [show min i 64 = i by omega,hx]
 ·rfl
theorem wrs_append (l m : List (List UInt8)) : ∀ (q : QN) (k : Nat),q.wrs k (l ++ m) = (q.wrs k l).wrs (k + l.length) m := by
 induction l with
 | nil => intro q k;rfl
 | cons x l ih =>
  intro q k;show (q.wr k x).wrs (k + 1) (l ++ m) = ((q.wr k x).wrs (k + 1) l).wrs (k + (l.length + 1)) m;rw [ih,show k + 1 + l.length = k + (l.length + 1) by omega]
theorem lay_fail {f j : Nat} {ll : List (List UInt8)} (h : (q.wrs f (ll.take j)).down = true) : q.wrs f ll = q.wrs f (ll.take j) := by
 conv => lhs;rw [← List.take_append_drop j ll]
 rw [wrs_append]
 exact wrs_down _ h _
def secS (l : List (List UInt8)) (j : Nat) : ByteArray := if j = 0 then ⟨#[]⟩ else ⟨(l.headD []).toArray⟩
def layW (q : QN) (a : Nat) (s : List UInt8) (late : Bool) : QN :=
 if late = true then (q.wrs (firstN a) (zeroAt (a - 64 * firstN a) (secsN q.d.L.flatten a s))).wr (firstN a) ((secsN q.d.L.flatten a s).headD []) else q.wrs (firstN a) (secsN q.d.L.flatten a s)
set_option maxRecDepth 100000 in
theorem xlay_any {w : World} {b : Nat} {v : XV} {p g c k : Nat} (o : Bool) (at_ a : Nat) (s : ByteArray) (late : Bool) (h : XQ w b v p g c k q) (hu : q.down = false) (hd : q.d.down = false) (ha : beginN q.d.L.length o + at_ = a) (hs : 0 < s.size) (hf : a + s.size ≤ 64 * q.d.L.length) (h9 : 9 ≤ q.d.L.length) (hn : q.d.n ≤ 990000) :
  Calls Tryz.prog 113 #[.pointer (some ⟨b,0,none⟩),.int .i64 (oI o),.int .i64 (at_ : Int),.string s,.bool late] w fun e w' => e = .returned (.tuple #[]) ∧ ∃ k',XQ w' b v p g c k' (layW q a s.data.toList late) ∧ Foot (XF b v p g) w w':=by
 have hlen:=h.disk.len
 have hz : szN q.d.L.length ≤ 16384:=by unfold szN;omega
 have cS:=xsize_any (h.blk.cell 0) (h.disk.disk.cell 0) (by omega) hlen
 have HX:=Lib.hid h
 obtain ⟨z,hz0⟩ : ∃ z,szN q.d.L.length = z:=⟨_,rfl⟩
 have hbz : a = 64 + (if o then z else 0) + at_:=by rw [← ha,← hz0];unfold beginN;cases o <;> simp
 rw [hz0] at cS hz
 have ho1 : IntKind.i64.wrap (oI o * (z : Int)) = ((if o then z else 0 : Nat) : Int):=by
  unfold oI
  cases o
  ·simp;rfl
  ·simp only [if_true,Int.one_mul];exact IntWalk.i64_in _ (by omega)
 go_enter Tryz.func113,Tryz.ntmps113
 go_wp2_with fail
 with_reducible refine cS.mono ?_
 rintro e w1 ⟨rfl,rfl⟩
 generalize (if o then z else 0 : Nat) = z1 at *
 have hz1 : z1 + at_ + 64 ≤ 16384:=by omega
 have e1 : IntKind.i64.wrap (64 + (z1 : Int)) = 64 + (z1 : Int):=IntWalk.i64_in _ (by omega)
 have e2 : IntKind.i64.wrap (64 + (z1 : Int) + (at_ : Int)) = (a : Int):=by rw [IntWalk.i64_in _ (by omega)];omega
 go_wp2_with fail
 rw [show (64 + (z1 : Int) + (at_ : Int)) = (a : Int) by omega]
 obtain ⟨f,hfN⟩ : ∃ f,firstN a = f:=⟨_,rfl⟩
 obtain ⟨n,hnN⟩ : ∃ n,countN a s.size = n:=⟨_,rfl⟩
 have hf1 : f = a / 64:=hfN.symm
 have hn1 : n = (a + s.size - 1) / 64 - a / 64 + 1:=hnN.symm
 have hn0 : 0 < n:=by omega
 have hfn : f + n ≤ q.d.L.length:=by omega
 rw [show ((a : Int) + (s.size : Int) - 1) / 64 = ((f + n - 1 : Nat) : Int) by omega,show (a : Int) / 64 = (f : Int) by omega]
 obtain ⟨la,hla⟩ : ∃ la,f + n - 1 = la:=⟨_,rfl⟩
 rw [hla]
 have hsl : s.data.toList.length = s.size:=list_size s
 have hll:=fun (j : Nat) (hj : j < n) => secs_ovl h.disk.fit.sec a s.data.toList (by omega) (by omega) (j:=j) (by rw [hsl,hnN];exact hj)
 have hlc:=secs_len (L:=q.d.L) a s.data.toList
 rw [hsl,hnN] at hlc
 rw [hfN] at hll
 obtain ⟨l,hl⟩ : ∃ l,secsN q.d.L.flatten a s.data.toList = l:=⟨_,rfl⟩
 rw [hl] at hll hlc
 obtain ⟨o',hoo⟩ : ∃ o',a - 64 * f = o':=⟨_,rfl⟩
 obtain ⟨ll,hlle⟩ : ∃ ll,(if late = true then zeroAt o' l else l) = ll:=⟨_,rfl⟩
 have hl64 : ∀ x ∈ l,x.length = 64:=by
  intro x hx;obtain ⟨j,hj,rfl⟩:=List.getElem_of_mem hx;obtain ⟨hk,e⟩:=hll j (by omega);rw [List.getElem?_eq_getElem hj] at e;rw [Option.some.inj e];exact ovl_length _ _ _ _
 have hz0' : (zeroAt o' l).length = l.length:=by cases l <;> rfl
 have hllc : ll.length = n:=by rw [← hlle];split <;> omega
 have hll64 : ∀ x ∈ ll,x.length = 64:=by
  rw [← hlle];split
  ·cases l with
   | nil => intro x hx;cases hx
   | cons y l =>
    intro x hx;rcases List.mem_cons.1 hx with rfl | hx
    ·rw [List.length_set];exact hl64 y List.mem_cons_self
    ·exact hl64 x (List.mem_cons_of_mem _ hx)
  ·exact hl64
 have HJ:=Lib.hid (show ∀ (j : Nat),j ≤ n → (q.wrs f (ll.take j)).down = false → (q.wrs f (ll.take j)).d.down = false ∧ (q.wrs f (ll.take j)).d.L.length = q.d.L.length ∧ (q.wrs f (ll.take j)).d.n ≤ q.d.n + j ∧ (j < n → (q.wrs f (ll.take j)).d.L[f + j]? = q.d.L[f + j]?) from fun j hj hdn => by
  rw [wrs_puts _ hu] at hdn ⊢;dsimp only at hdn ⊢;have h2 : (q.d.puts f (ll.take j)).2 = true:=by simpa using hdn
  by_cases hjn : j < n
  ·obtain ⟨g1,g2,g3,g4,g5⟩:=puts_take h.disk.fit hd (k:=f) (ss:=ll) (by omega) hll64 (j:=j) (by omega) h2
   exact ⟨g1,g2,g3,fun _ => g5⟩
  ·have g2:=(wrs_len (ll.take j) (q:=q) h.disk.fit f)
   rw [wrs_puts _ hu] at g2;dsimp only at g2;exact ⟨puts_up _ _ _ hd h2,g2.1,by have:=g2.2.2.1;rw [List.length_take] at this;omega,fun hc => absurd hc hjn⟩)
 have HLW:=Lib.hid (show layW q a s.data.toList late = if late = true then (q.wrs f ll).wr f (l.headD []) else q.wrs f ll from by
  unfold layW;rw [hfN,hl,hoo,← hlle];split <;> rfl)
 have HLL:=Lib.hid hll
 have HLE:=Lib.hid hlle
 have HQ:=Lib.hid (And.intro hu <| And.intro hd <| And.intro hn hlen)
 have HA:=Lib.hid (And.intro hf1 <| And.intro hn1 <| And.intro hf <| And.intro hoo <| And.intro hfn hla)
 have HSZ:=Lib.hid hs
 clear hll hlle hu hd hn hf hoo hfN hnN hl hl64 hll64 e1 e2 ho1 hbz hz0 cS ha h9 hf1 hn1 hz0' hlen hz hz1 hs hla
 go_loopw [14,13] (fun i S wr => ∃ (m j kk : Nat),m = f + j ∧ j ≤ n ∧ i = .int .i64 (m : Int) ∧ S = .string (secS l j) ∧ XQ wr b v p g c kk (q.wrs f (ll.take j)) ∧ (q.wrs f (ll.take j)).down = false ∧ Foot (XF b v p g) w wr) (fun i _ _ => (f + n) - (intOf i).toNat)
 case atStart => exact ⟨f,0,k,rfl,Nat.zero_le _,rfl,rfl,h,HQ.out.1,Foot.refl _ _⟩
 case round =>
  obtain ⟨m,j,kk,hm,hj,rfl,rfl,hx,hdn,hft⟩:=hrel;obtain ⟨S,hS⟩ : ∃ S,secS l j = S:=⟨_,rfl⟩
  rw [hS];have HS:=Lib.hid hS;clear hS;obtain ⟨j1,j2,j3,j4⟩:=HJ.out j hj hdn;by_cases hjn : j < n
  ·have hi : f + j < q.d.L.length:=by have:=HA.out;omega
   obtain ⟨hk2,hxj⟩:=HLL.out j hjn;obtain ⟨old,hold⟩ : ∃ old,q.d.L[f + j]'hk2 = old:=⟨_,rfl⟩
   have hold64 : old.length = 64:=by rw [← hold];exact HX.out.disk.fit.sec _ (List.getElem_mem _)
   rw [hold] at hxj;have hread : (q.wrs f (ll.take j)).d.read (m : Int) = (old,0):=by
    unfold DN.read;rw [if_neg (by rw [j1];decide),if_pos (DN.has_iff.2 ⟨m,rfl,by omega⟩)];have e:=j4 hjn;rw [List.getElem?_eq_getElem hi,hold] at e;rw [show (m : Int).toNat = f + j by omega,List.getD_eq_getElem?_getD,e]
    rfl
   obtain ⟨qj,hqj⟩ : ∃ qj,q.wrs f (ll.take j) = qj:=⟨_,rfl⟩
   rw [hqj] at hx hdn j1 j2 j3 hread;have HQJ:=Lib.hid (And.intro hqj <| And.intro hdn <| And.intro j1 <| And.intro j2 j3);have HXJ:=Lib.hid hxj;have HOLD:=Lib.hid hold64;have hx0:=hx;have cR:=RRead_any (m : Int) hx0.disk;rw [hread] at cR;dsimp only at cR;have i1 : (m : Int) ≤ (la : Int):=by have:=HA.out;omega
   have HM:=Lib.hid hm;clear hx0 hqj hdn j1 j2 j3 j4 hxj hold hread hk2 hm;obtain ⟨c0,c1,c2,c3,c4,c5,-⟩:=hx.blk.c6;have HX2:=Lib.hid (And.intro hx hft);have hcv:=run_bytes_of_string (P:=Tryz.prog) wr 9 36 5 ⟨old.toArray⟩ Tryz.underlying9 Tryz.underlying36 Tryz.underlying5;have hrow:=brow_new wr.drew ⟨old.toArray⟩ (grownCap wr (⟨old.toArray⟩ : ByteArray).size 0 5);have hE:=(ext_refl wr).drew.alloc (Nat.le_refl _) (.cells (bytesRow ⟨old.toArray⟩ (grownCap wr (⟨old.toArray⟩ : ByteArray).size 0 5)) 5 ((bytesRow ⟨old.toArray⟩ (grownCap wr (⟨old.toArray⟩ : ByteArray).size 0 5)).size,(bytesRow ⟨old.toArray⟩ (grownCap wr (⟨old.toArray⟩ : ByteArray).size 0 5)).size + 1));change BRow _ wr.heap.size _ at hrow;have hx5 : (⟨old.toArray⟩ : ByteArray).data.toList = old:=by simp
   rw [hx5] at hrow;rw [list_size2,hold64] at hcv hrow hE;generalize grownCap wr 64 0 5 = cap at *;have hne : (⟨old.toArray⟩ : ByteArray).toList.isEmpty = false:=by
    rw [Lib.toList_data]
    cases old with
    | nil => simp at hold64
    | cons x0 xs => simp
   generalize wr.drew.alloc (.cells (bytesRow ⟨old.toArray⟩ cap) 5 ((bytesRow ⟨old.toArray⟩ cap).size,(bytesRow ⟨old.toArray⟩ cap).size + 1)) = w5 at *;obtain ⟨ab,hab⟩ : ∃ ab,wr.heap.size = ab:=⟨_,rfl⟩
   rw [hab] at hcv hrow;have HAB:=Lib.hid hab;have HE5:=Lib.hid hE;have HROW:=Lib.hid hrow;clear hx hft hold64 hx5 hab hE hrow;go_wp2_with fail
   with_reducible refine cR.mono ?_
   rintro e w2 ⟨rfl,rfl⟩;clear cR c1 c2 c3 c4 c5;go_wp2_with fail
   obtain ⟨x,hxx⟩ : ∃ x,ovl old (64 * m) a s.data.toList = x:=⟨_,rfl⟩
   have hx64 : x.length = 64:=by rw [← hxx];exact ovl_length _ _ _ _
   have HXJ2:=Lib.hid (show l[j]? = some x from by
    have e:=HXJ.out;rw [← HM.out] at e;rw [← hxx];exact e)
   have HXG:=Lib.hid (fun (kq : Nat) (hkq : kq < 64) => (show x[kq]? = some (if a ≤ 64 * m + kq ∧ 64 * m + kq < a + s.data.toList.length then s.data.toList.getD (64 * m + kq - a) 0 else old.getD kq 0) from by rw [← hxx];exact ovl_get old (64 * m) a s.data.toList hkq));have HX64:=Lib.hid hx64;have hm2 : m ≤ 256:=by have:=HM.out;have:=HA.out;have:=HQ.out;omega
   have ha2 : a ≤ 16384:=by have:=HA.out;have:=HQ.out;omega
   have hs2 : s.size ≤ 16384:=by have:=HA.out;have:=HQ.out;omega
   have HX5:=Lib.hid (show XQ w5 b v p g c kk qj ∧ Foot (XF b v p g) w w5 ∧ (∀ jj,XF b v p g jj → jj ≠ ab) ∧ w.heap.size ≤ ab from
    ⟨HX2.out.1.below HE5.out,HX2.out.2.ext HE5.out,fun jj hjj e => by have:=HX2.out.1.lt hjj;rw [HAB.out,e] at this;exact Nat.lt_irrefl _ this,by rw [← HAB.out];exact HX2.out.2.size⟩)
   clear hxx hx64 hcv
   go_loopw [18] (fun i wr2 => ∃ kq : Nat,kq ≤ 64 ∧ i = .int .i64 (kq : Int) ∧ BRow wr2 ab (x.take kq ++ old.drop kq) ∧ Foot (fun j => j = ab) w5 wr2) (fun i _ => 64 - (intOf i).toNat)
   case atStart => exact ⟨0,Nat.zero_le _,rfl,by rw [List.take_zero,List.drop_zero,List.nil_append];exact HROW.out,Foot.refl _ _⟩
   case round =>
    obtain ⟨kq,hkq,rfl,hr,hf⟩:=hrel;by_cases hk64 : kq < 64
    ·have i3 : (kq : Int) < 64:=by omega
     have hg:=HXG.out kq hk64;have hrc:=hr.cell kq (by rw [List.length_append,List.length_take,List.length_drop,HX64.out,HOLD.out];omega);obtain ⟨ov,hov⟩ : ∃ ov,(x.take kq ++ old.drop kq)[kq]'(by rw [List.length_append,List.length_take,List.length_drop,HX64.out,HOLD.out];omega) = ov:=⟨_,rfl⟩
     rw [hov] at hrc;obtain ⟨r1,r2⟩:=hrc;have HR:=Lib.hid (And.intro hr hf);clear hr hf hov;by_cases hc : a ≤ 64 * m + kq ∧ 64 * m + kq < a + s.size
     ·obtain ⟨t,ht⟩ : ∃ t,64 * m + kq - a = t:=⟨_,rfl⟩
      have hts : t < s.size:=by omega
      have k1 : (0 : Int) ≤ (m : Int) * 64 + (kq : Int) - (a : Int):=by omega
      have k2 : (m : Int) * 64 + (kq : Int) - (a : Int) < (s.size : Int):=by omega
      have k3 : ((m : Int) * 64 + (kq : Int) - (a : Int)).toNat = t:=by omega
      have hxk : x[kq]'(by rw [HX64.out];omega) = s[t]:=by
       rw [List.getElem?_eq_getElem (by rw [HX64.out];omega),if_pos ⟨hc.1,by rw [hsl];exact hc.2⟩,ht] at hg;rw [Option.some.inj hg];exact getD_at s t hts
      have HMX:=Lib.hid (show BRow (wr.setCell ⟨ab,kq,none⟩ (.int .u8 (s[t].toNat : Int))) ab (x.take (kq + 1) ++ old.drop (kq + 1)) from by
       rw [mix_set HX64.out HOLD.out hk64,hxk];exact HR.out.1.set kq s[t])
      clear hxk hg hc ht;go_wp2_with fail
      go_roundw
      ·exact ⟨kq + 1,by omega,by go_num,HMX.out,HR.out.2.set (.inl rfl) kq _⟩
      ·simp [intOf];omega
     ·have hxk : x[kq]'(by rw [HX64.out];omega) = old[kq]'(by rw [HOLD.out];omega):=by
       rw [List.getElem?_eq_getElem (by rw [HX64.out];omega),if_neg (fun e => hc ⟨e.1,by have:=e.2;rw [hsl] at this;exact this⟩),List.getD_eq_getElem?_getD,List.getElem?_eq_getElem (by rw [HOLD.out];omega)] at hg;exact Option.some.inj hg
      have HMX:=Lib.hid (show BRow wr ab (x.take (kq + 1) ++ old.drop (kq + 1)) from by
       rw [mix_same HX64.out HOLD.out hk64 hxk];exact HR.out.1)
      clear hxk hg;by_cases h1 : 64 * m + kq < a
      ·have k1 : ¬ (0 : Int) ≤ (m : Int) * 64 + (kq : Int) - (a : Int):=by omega
       clear hc;go_wp2_with fail
       go_roundw
       ·exact ⟨kq + 1,by omega,by go_num,HMX.out,HR.out.2⟩
       ·simp [intOf];omega
      ·have k1 : (0 : Int) ≤ (m : Int) * 64 + (kq : Int) - (a : Int):=by omega
       have k2 : ¬ (m : Int) * 64 + (kq : Int) - (a : Int) < (s.size : Int):=by omega
       clear hc;go_wp2_with fail
       go_roundw
       ·exact ⟨kq + 1,by omega,by go_num,HMX.out,HR.out.2⟩
       ·simp [intOf];omega
    ·have i3 : ¬ (kq : Int) < 64:=by omega
     have hmx : x.take kq ++ old.drop kq = x:=by
      rw [List.take_of_length_le (by rw [HX64.out];omega),List.drop_of_length_le (by rw [HOLD.out];omega),List.append_nil]
     rw [hmx] at hr;clear hmx;by_cases hj0 : j = 0
     ·have hmf : ((m : Int) == (f : Int)) = true:=by have:=HM.out;simp;omega
      have hcv0:=conv_cells (W:=wr) (b:=ab) (o:=0) (c:=cap) x (fun jj hjj => by rw [Nat.zero_add];exact (hr.cell jj hjj).1);rw [HX64.out] at hcv0;have HL0:=Lib.hid (show secS l (j + 1) = ⟨x.toArray⟩ from by
       have e:=HXJ2.out;rw [hj0] at e;unfold secS;rw [if_neg (Nat.succ_ne_zero j)]
       cases l with
       | nil => cases e
       | cons y0 l =>
        obtain rfl:=Option.some.inj e
        rfl)
      cases late with
      | false =>
       have hyx : ll[j]? = some x:=by
        rw [← HLE.out];exact HXJ2.out
       have HY:=Lib.hid hyx;have HY64:=Lib.hid HX64.out;have HBR:=Lib.hid (And.intro hr hf);clear hyx hr hf;go_wp2_with fail
       clear hcv0;have hxW : XQ wr b v p g c kk qj:=HX5.out.1.keptF (fun jj hjj => HBR.out.2.block jj (HX5.out.1.lt hjj) (HX5.out.2.2.1 jj hjj));have hxD : XQ wr.drew b v p g c kk qj:=hxW.below ((Below.refl _ _).drew);have hftD : Foot (XF b v p g) w wr.drew:=(HX5.out.2.1.trans HBR.out.2 (fun i hi => by subst hi;exact .inr HX5.out.2.2.2)).ext ((Below.refl _ _).drew);have hrD : BRow wr.drew ab (x):=HBR.out.1.below ((Below.refl _ _).drew);have hy64 : (x).length = 64:=HY64.out;have cW:=RWrite_any (m : Int) ⟨(x).toArray⟩ hxD.disk (by have:=HQJ.out;have:=HQ.out;have:=HA.out;omega);have hyl : (⟨(x).toArray⟩ : ByteArray).data.toList = x:=by simp
       rw [hyl] at cW;have hst : q.wrs f (ll.take (j + 1)) = qj.wr m (x):=by
        have e : ll.take (j + 1) = ll.take j ++ [x]:=by
         have hh:=HY.out;obtain ⟨hh1,hh2⟩:=List.getElem?_eq_some_iff.1 hh;rw [List.take_succ_eq_append_getElem hh1,hh2]
        rw [e,wrs_snoc,HQJ.out.1,List.length_take,HM.out,show min j ll.length = j by omega]
       have hwr : qj.wr m (x) = { qj with d:=(qj.d.write (m : Int) (x)).1,down:=!decide ((qj.d.write (m : Int) (x)).2 = 0) }:=by
        unfold QN.wr;rw [if_neg (by rw [HQJ.out.2.1];decide)]
       have HST:=Lib.hid (hst.trans hwr);have HXD:=Lib.hid (And.intro hxD hftD);have HRD:=Lib.hid hrD;clear hxW hxD hftD hrD hy64 hyl hst hwr;refine wp_region_held_drew (S:=fun W => BRow W ab (x) ∧ W.cell? ⟨b,0,none⟩ = some (.pointer (some ⟨p,0,none⟩))) (by kernel_rfl) ⟨HRD.out,HXD.out.1.blk.c6.1⟩ (fun hHeld => ?_);generalize wr.drew = W9 at *;refine tk_ 0 95 rfl rfl ?_ (fun wx hSx => by obtain ⟨s1,s2⟩:=hSx;go_simp;try with_reducible rfl);refine tk_ 1 96 rfl rfl ?_ (fun wx hSx => by obtain ⟨s1,s2⟩:=hSx;go_simp;try with_reducible rfl);refine tk_ 2 97 rfl rfl ?_ (fun wx hSx => by obtain ⟨s1,s2⟩:=hSx;go_simp;try with_reducible rfl);refine tk_ 3 98 rfl rfl ?_ (fun wx hSx => by obtain ⟨s1,s2⟩:=hSx;go_simp;try with_reducible rfl);refine tk_ 4 99 rfl rfl ?_ (fun wx hSx => by obtain ⟨s1,s2⟩:=hSx;go_simp;try with_reducible rfl);refine tk_ 5 100 rfl rfl ?_ (fun wx hSx => by obtain ⟨s1,s2⟩:=hSx;go_simp;try with_reducible rfl);refine tk_ 6 101 rfl rfl ?_ (fun wx hSx => by obtain ⟨s1,s2⟩:=hSx;have hcv2:=conv_cells (W:=wx) (b:=ab) (o:=0) (c:=cap) (x) (fun jj hjj => by rw [Nat.zero_add];exact (s1.cell jj hjj).1);rw [HY64.out] at hcv2;go_simp;try with_reducible rfl);refine rdy1 7 rfl (fun K hK => ?_);go_simp;with_reducible refine cW.mono ?_
       rintro e w10 ⟨rfl,⟨k',hr10⟩,hb10⟩;have hx10:=HXD.out.1.disk_ hr10 hb10;have hft10 : Foot (XF b v p g) w w10:=HXD.out.2.trans (But2.xf hb10) (fun i hi => .inl hi);have hbr10 : BRow w10 ab (x):=HRD.out.kept (hb10.block ab HRD.out.lt (fun e => HX5.out.2.2.1 p (.inr (.inl rfl)) e.symm) (fun e => HX5.out.2.2.1 g (.inr (.inr (.inl rfl))) e.symm)) hb10.size;refine hK.out _ _ ⟨hbr10,hx10.blk.c6.1⟩ (fun _ => ?_);clear hK K cW hr10 hb10 hbr10 hHeld;refine tk_ 8 20 rfl rfl ?_;refine wpAnyH_done (by kernel_rfl) ?_ _;try simp only [Act.put,List.setIfInBounds_toArray,List.set_cons_succ,List.set_cons_zero]
       obtain ⟨er,her⟩ : ∃ er,(qj.d.write (m : Int) (x)).2 = er:=⟨_,rfl⟩
       rw [her] at HST;rw [her];have hst:=HST.out;by_cases he : er = 0
       ·subst he
        have hdd : (q.wrs f (ll.take (j + 1))).down = false:=by rw [hst];rfl
        have hx11 : XQ w10 b v p g c k' (q.wrs f (ll.take (j + 1))):=by
         rw [hst];exact ⟨by have:=hx10.blk;rw [HQJ.out.2.1] at this;exact this,hx10.ent,hx10.key,hx10.disk⟩
        have HF:=Lib.hid (And.intro hx11 <| And.intro hdd hft10);clear hst hx10 hx11 hdd hft10 her;go_wp2_with fail
        go_roundw
        ·exact ⟨m + 1,j + 1,k',by rw [HM.out];omega,by omega,by go_num,HL0.out.symm ▸ rfl,HF.out.1,HF.out.2.1,HF.out.2.2⟩
        ·simp [intOf];have:=HM.out;have:=HA.out;omega
       ·have he1 : (er == 0) = false:=by simp [he]
        have hdd : (q.wrs f (ll.take (j + 1))).down = true:=by rw [hst];simp [he]
        have hlw : layW q a s.data.toList false = q.wrs f (ll.take (j + 1)):=by
         rw [HLW.out,lay_fail hdd];split
         ·exact wr_down hdd _ _
         ·rfl
        have hx11 : XQ (w10.setCell ⟨b,5,none⟩ (.bool true)) b v p g c k' (layW q a s.data.toList false):=by
         rw [hlw,hst,decide_eq_false he];exact hx10.down_ true
        have HF:=Lib.hid (And.intro hx11 (xf_set hft10 5 (.bool true)));obtain ⟨u0,u1,u2,u3,u4,u5,g0,g1,g2,g3,g4,g5⟩:=hx10.blk.c6;clear hst hx10 hx11 hdd hft10 hlw her he;go_wp2_with fail
        exact bodyPost_ret (v:=.tuple #[]) (results_none (by kernel_rfl) _ _ _) rfl ⟨rfl,⟨_,HF.out.1⟩,HF.out.2⟩
      | true =>
       have ho6 : o' < 64:=by have:=HA.out;omega
       have hyx : ll[j]? = some (x.set o' 0):=by
        have e:=HXJ2.out;rw [← HLE.out,if_pos rfl];rw [hj0] at e ⊢
        cases l with
        | nil => cases e
        | cons y0 l =>
         obtain rfl:=Option.some.inj e
         rfl
       have HY:=Lib.hid hyx;have HY64:=Lib.hid (show (x.set o' 0).length = 64 by rw [List.length_set,HX64.out]);have HBR:=Lib.hid (show BRow (wr.setCell ⟨ab,o',none⟩ (.int .u8 0)) ab (x.set o' 0) ∧ Foot (fun j => j = ab) w5 (wr.setCell ⟨ab,o',none⟩ (.int .u8 0)) from ⟨hr.set o' 0,hf.set (.inl rfl) o' _⟩);obtain ⟨r1,r2⟩:=hr.cell o' (by rw [HX64.out];exact ho6);obtain ⟨ov,hov⟩ : ∃ ov,x[o']'(by rw [HX64.out];exact ho6) = ov:=⟨_,rfl⟩
       rw [hov] at r1;have k1 : (0 : Int) ≤ (a : Int) - (m : Int) * 64:=by have:=HM.out;have:=HA.out;omega
       have k2 : (a : Int) - (m : Int) * 64 < 64:=by have:=HM.out;have:=HA.out;omega
       have k3 : ((a : Int) - (m : Int) * 64).toNat = o':=by have:=HM.out;have:=HA.out;omega
       clear hyx hr hf hov;go_wp2_with fail
       clear hcv0 r1 r2;have hxW : XQ (wr.setCell ⟨ab,o',none⟩ (.int .u8 0)) b v p g c kk qj:=HX5.out.1.keptF (fun jj hjj => HBR.out.2.block jj (HX5.out.1.lt hjj) (HX5.out.2.2.1 jj hjj));have hxD : XQ (wr.setCell ⟨ab,o',none⟩ (.int .u8 0)).drew b v p g c kk qj:=hxW.below ((Below.refl _ _).drew);have hftD : Foot (XF b v p g) w (wr.setCell ⟨ab,o',none⟩ (.int .u8 0)).drew:=(HX5.out.2.1.trans HBR.out.2 (fun i hi => by subst hi;exact .inr HX5.out.2.2.2)).ext ((Below.refl _ _).drew);have hrD : BRow (wr.setCell ⟨ab,o',none⟩ (.int .u8 0)).drew ab (x.set o' 0):=HBR.out.1.below ((Below.refl _ _).drew);have hy64 : (x.set o' 0).length = 64:=HY64.out;have cW:=RWrite_any (m : Int) ⟨(x.set o' 0).toArray⟩ hxD.disk (by have:=HQJ.out;have:=HQ.out;have:=HA.out;omega);have hyl : (⟨(x.set o' 0).toArray⟩ : ByteArray).data.toList = x.set o' 0:=by simp
       rw [hyl] at cW;have hst : q.wrs f (ll.take (j + 1)) = qj.wr m (x.set o' 0):=by
        have e : ll.take (j + 1) = ll.take j ++ [x.set o' 0]:=by
         have hh:=HY.out;obtain ⟨hh1,hh2⟩:=List.getElem?_eq_some_iff.1 hh;rw [List.take_succ_eq_append_getElem hh1,hh2]
        rw [e,wrs_snoc,HQJ.out.1,List.length_take,HM.out,show min j ll.length = j by omega]
       have hwr : qj.wr m (x.set o' 0) = { qj with d:=(qj.d.write (m : Int) (x.set o' 0)).1,down:=!decide ((qj.d.write (m : Int) (x.set o' 0)).2 = 0) }:=by
        unfold QN.wr;rw [if_neg (by rw [HQJ.out.2.1];decide)]
       have HST:=Lib.hid (hst.trans hwr);have HXD:=Lib.hid (And.intro hxD hftD);have HRD:=Lib.hid hrD;clear hxW hxD hftD hrD hy64 hyl hst hwr;refine wp_region_held_drew (S:=fun W => BRow W ab (x.set o' 0) ∧ W.cell? ⟨b,0,none⟩ = some (.pointer (some ⟨p,0,none⟩))) (by kernel_rfl) ⟨HRD.out,HXD.out.1.blk.c6.1⟩ (fun hHeld => ?_);generalize (wr.setCell ⟨ab,o',none⟩ (.int .u8 0)).drew = W9 at *;refine tk_ 0 95 rfl rfl ?_ (fun wx hSx => by obtain ⟨s1,s2⟩:=hSx;go_simp;try with_reducible rfl);refine tk_ 1 96 rfl rfl ?_ (fun wx hSx => by obtain ⟨s1,s2⟩:=hSx;go_simp;try with_reducible rfl);refine tk_ 2 97 rfl rfl ?_ (fun wx hSx => by obtain ⟨s1,s2⟩:=hSx;go_simp;try with_reducible rfl);refine tk_ 3 98 rfl rfl ?_ (fun wx hSx => by obtain ⟨s1,s2⟩:=hSx;go_simp;try with_reducible rfl);refine tk_ 4 99 rfl rfl ?_ (fun wx hSx => by obtain ⟨s1,s2⟩:=hSx;go_simp;try with_reducible rfl);refine tk_ 5 100 rfl rfl ?_ (fun wx hSx => by obtain ⟨s1,s2⟩:=hSx;go_simp;try with_reducible rfl);refine tk_ 6 101 rfl rfl ?_ (fun wx hSx => by obtain ⟨s1,s2⟩:=hSx;have hcv2:=conv_cells (W:=wx) (b:=ab) (o:=0) (c:=cap) (x.set o' 0) (fun jj hjj => by rw [Nat.zero_add];exact (s1.cell jj hjj).1);rw [HY64.out] at hcv2;go_simp;try with_reducible rfl);refine rdy1 7 rfl (fun K hK => ?_);go_simp;with_reducible refine cW.mono ?_
       rintro e w10 ⟨rfl,⟨k',hr10⟩,hb10⟩;have hx10:=HXD.out.1.disk_ hr10 hb10;have hft10 : Foot (XF b v p g) w w10:=HXD.out.2.trans (But2.xf hb10) (fun i hi => .inl hi);have hbr10 : BRow w10 ab (x.set o' 0):=HRD.out.kept (hb10.block ab HRD.out.lt (fun e => HX5.out.2.2.1 p (.inr (.inl rfl)) e.symm) (fun e => HX5.out.2.2.1 g (.inr (.inr (.inl rfl))) e.symm)) hb10.size;refine hK.out _ _ ⟨hbr10,hx10.blk.c6.1⟩ (fun _ => ?_);clear hK K cW hr10 hb10 hbr10 hHeld;refine tk_ 8 20 rfl rfl ?_;refine wpAnyH_done (by kernel_rfl) ?_ _;try simp only [Act.put,List.setIfInBounds_toArray,List.set_cons_succ,List.set_cons_zero]
       obtain ⟨er,her⟩ : ∃ er,(qj.d.write (m : Int) (x.set o' 0)).2 = er:=⟨_,rfl⟩
       rw [her] at HST;rw [her];have hst:=HST.out;by_cases he : er = 0
       ·subst he
        have hdd : (q.wrs f (ll.take (j + 1))).down = false:=by rw [hst];rfl
        have hx11 : XQ w10 b v p g c k' (q.wrs f (ll.take (j + 1))):=by
         rw [hst];exact ⟨by have:=hx10.blk;rw [HQJ.out.2.1] at this;exact this,hx10.ent,hx10.key,hx10.disk⟩
        have HF:=Lib.hid (And.intro hx11 <| And.intro hdd hft10);clear hst hx10 hx11 hdd hft10 her;go_wp2_with fail
        go_roundw
        ·exact ⟨m + 1,j + 1,k',by rw [HM.out];omega,by omega,by go_num,HL0.out.symm ▸ rfl,HF.out.1,HF.out.2.1,HF.out.2.2⟩
        ·simp [intOf];have:=HM.out;have:=HA.out;omega
       ·have he1 : (er == 0) = false:=by simp [he]
        have hdd : (q.wrs f (ll.take (j + 1))).down = true:=by rw [hst];simp [he]
        have hlw : layW q a s.data.toList true = q.wrs f (ll.take (j + 1)):=by
         rw [HLW.out,lay_fail hdd];split
         ·exact wr_down hdd _ _
         ·rfl
        have hx11 : XQ (w10.setCell ⟨b,5,none⟩ (.bool true)) b v p g c k' (layW q a s.data.toList true):=by
         rw [hlw,hst,decide_eq_false he];exact hx10.down_ true
        have HF:=Lib.hid (And.intro hx11 (xf_set hft10 5 (.bool true)));obtain ⟨u0,u1,u2,u3,u4,u5,g0,g1,g2,g3,g4,g5⟩:=hx10.blk.c6;clear hst hx10 hx11 hdd hft10 hlw her he;go_wp2_with fail
        exact bodyPost_ret (v:=.tuple #[]) (results_none (by kernel_rfl) _ _ _) rfl ⟨rfl,⟨_,HF.out.1⟩,HF.out.2⟩
     ·have hmf : ¬ (m : Int) = (f : Int):=by have:=HM.out;omega
      have hyx : ll[j]? = some x:=by
       rw [← HLE.out];split
       ·have e:=HXJ2.out
        cases l with
        | nil => cases e
        | cons y0 l =>
         obtain ⟨j',rfl⟩ : ∃ j',j = j' + 1:=⟨j - 1,by omega⟩
         exact e
       ·exact HXJ2.out
      have HY:=Lib.hid hyx;have HY64:=Lib.hid HX64.out;have HBR:=Lib.hid (And.intro hr hf);clear hyx hr hf;go_wp2_with fail
      have hxW : XQ wr b v p g c kk qj:=HX5.out.1.keptF (fun jj hjj => HBR.out.2.block jj (HX5.out.1.lt hjj) (HX5.out.2.2.1 jj hjj));have hxD : XQ wr.drew b v p g c kk qj:=hxW.below ((Below.refl _ _).drew);have hftD : Foot (XF b v p g) w wr.drew:=(HX5.out.2.1.trans HBR.out.2 (fun i hi => by subst hi;exact .inr HX5.out.2.2.2)).ext ((Below.refl _ _).drew);have hrD : BRow wr.drew ab (x):=HBR.out.1.below ((Below.refl _ _).drew);have hy64 : (x).length = 64:=HY64.out;have cW:=RWrite_any (m : Int) ⟨(x).toArray⟩ hxD.disk (by have:=HQJ.out;have:=HQ.out;have:=HA.out;omega);have hyl : (⟨(x).toArray⟩ : ByteArray).data.toList = x:=by simp
      rw [hyl] at cW;have hst : q.wrs f (ll.take (j + 1)) = qj.wr m (x):=by
       have e : ll.take (j + 1) = ll.take j ++ [x]:=by
        have hh:=HY.out;obtain ⟨hh1,hh2⟩:=List.getElem?_eq_some_iff.1 hh;rw [List.take_succ_eq_append_getElem hh1,hh2]
       rw [e,wrs_snoc,HQJ.out.1,List.length_take,HM.out,show min j ll.length = j by omega]
      have hwr : qj.wr m (x) = { qj with d:=(qj.d.write (m : Int) (x)).1,down:=!decide ((qj.d.write (m : Int) (x)).2 = 0) }:=by
       unfold QN.wr;rw [if_neg (by rw [HQJ.out.2.1];decide)]
      have HST:=Lib.hid (hst.trans hwr);have HXD:=Lib.hid (And.intro hxD hftD);have HRD:=Lib.hid hrD;clear hxW hxD hftD hrD hy64 hyl hst hwr;refine wp_region_held_drew (S:=fun W => BRow W ab (x) ∧ W.cell? ⟨b,0,none⟩ = some (.pointer (some ⟨p,0,none⟩))) (by kernel_rfl) ⟨HRD.out,HXD.out.1.blk.c6.1⟩ (fun hHeld => ?_);generalize wr.drew = W9 at *;refine tk_ 0 95 rfl rfl ?_ (fun wx hSx => by obtain ⟨s1,s2⟩:=hSx;go_simp;try with_reducible rfl);refine tk_ 1 96 rfl rfl ?_ (fun wx hSx => by obtain ⟨s1,s2⟩:=hSx;go_simp;try with_reducible rfl);refine tk_ 2 97 rfl rfl ?_ (fun wx hSx => by obtain ⟨s1,s2⟩:=hSx;go_simp;try with_reducible rfl);refine tk_ 3 98 rfl rfl ?_ (fun wx hSx => by obtain ⟨s1,s2⟩:=hSx;go_simp;try with_reducible rfl);refine tk_ 4 99 rfl rfl ?_ (fun wx hSx => by obtain ⟨s1,s2⟩:=hSx;go_simp;try with_reducible rfl);refine tk_ 5 100 rfl rfl ?_ (fun wx hSx => by obtain ⟨s1,s2⟩:=hSx;go_simp;try with_reducible rfl);refine tk_ 6 101 rfl rfl ?_ (fun wx hSx => by obtain ⟨s1,s2⟩:=hSx;have hcv2:=conv_cells (W:=wx) (b:=ab) (o:=0) (c:=cap) (x) (fun jj hjj => by rw [Nat.zero_add];exact (s1.cell jj hjj).1);rw [HY64.out] at hcv2;go_simp;try with_reducible rfl);refine rdy1 7 rfl (fun K hK => ?_);go_simp;with_reducible refine cW.mono ?_
      rintro e w10 ⟨rfl,⟨k',hr10⟩,hb10⟩;have hx10:=HXD.out.1.disk_ hr10 hb10;have hft10 : Foot (XF b v p g) w w10:=HXD.out.2.trans (But2.xf hb10) (fun i hi => .inl hi);have hbr10 : BRow w10 ab (x):=HRD.out.kept (hb10.block ab HRD.out.lt (fun e => HX5.out.2.2.1 p (.inr (.inl rfl)) e.symm) (fun e => HX5.out.2.2.1 g (.inr (.inr (.inl rfl))) e.symm)) hb10.size;refine hK.out _ _ ⟨hbr10,hx10.blk.c6.1⟩ (fun _ => ?_);clear hK K cW hr10 hb10 hbr10 hHeld;refine tk_ 8 20 rfl rfl ?_;refine wpAnyH_done (by kernel_rfl) ?_ _;try simp only [Act.put,List.setIfInBounds_toArray,List.set_cons_succ,List.set_cons_zero]
      obtain ⟨er,her⟩ : ∃ er,(qj.d.write (m : Int) (x)).2 = er:=⟨_,rfl⟩
      rw [her] at HST;rw [her];have hst:=HST.out;by_cases he : er = 0
      ·subst he
       have hdd : (q.wrs f (ll.take (j + 1))).down = false:=by rw [hst];rfl
       have hx11 : XQ w10 b v p g c k' (q.wrs f (ll.take (j + 1))):=by
        rw [hst];exact ⟨by have:=hx10.blk;rw [HQJ.out.2.1] at this;exact this,hx10.ent,hx10.key,hx10.disk⟩
       have HF:=Lib.hid (And.intro hx11 <| And.intro hdd hft10);clear hst hx10 hx11 hdd hft10 her;go_wp2_with fail
       go_roundw
       ·exact ⟨m + 1,j + 1,k',by rw [HM.out];omega,by omega,by go_num,by rw [← HS.out];unfold secS;rw [if_neg hj0,if_neg (Nat.succ_ne_zero j)],HF.out.1,HF.out.2.1,HF.out.2.2⟩
       ·simp [intOf];have:=HM.out;have:=HA.out;omega
      ·have he1 : (er == 0) = false:=by simp [he]
       have hdd : (q.wrs f (ll.take (j + 1))).down = true:=by rw [hst];simp [he]
       have hlw : layW q a s.data.toList late = q.wrs f (ll.take (j + 1)):=by
        rw [HLW.out,lay_fail hdd];split
        ·exact wr_down hdd _ _
        ·rfl
       have hx11 : XQ (w10.setCell ⟨b,5,none⟩ (.bool true)) b v p g c k' (layW q a s.data.toList late):=by
        rw [hlw,hst,decide_eq_false he];exact hx10.down_ true
       have HF:=Lib.hid (And.intro hx11 (xf_set hft10 5 (.bool true)));obtain ⟨u0,u1,u2,u3,u4,u5,g0,g1,g2,g3,g4,g5⟩:=hx10.blk.c6;clear hst hx10 hx11 hdd hft10 hlw her he;go_wp2_with fail
       exact bodyPost_ret (v:=.tuple #[]) (results_none (by kernel_rfl) _ _ _) rfl ⟨rfl,⟨_,HF.out.1⟩,HF.out.2⟩
  ·obtain rfl : j = n:=by omega
   rw [List.take_of_length_le (by omega)] at hx hdn j1 j2 j3;have i1 : ¬ (m : Int) ≤ (la : Int):=by have:=HA.out;omega
   have HSL:=Lib.hid (show S = ⟨(l.headD []).toArray⟩ from by rw [← HS.out];unfold secS;rw [if_neg (by omega)]);have HM:=Lib.hid hm;clear hm
   cases late with
   | false =>
    have hlw : layW q a s.data.toList false = q.wrs f ll:=by rw [HLW.out];rfl
    have HF:=Lib.hid (show XQ wr b v p g c kk (layW q a s.data.toList false) ∧ Foot (XF b v p g) w wr from ⟨by rw [hlw];exact hx,hft⟩);clear hx hft hlw hdn j1 j2 j3 j4;go_wp2_with fail
    exact bodyPost_end (v:=.tuple #[]) (results_none (by kernel_rfl) _ _ _) rfl ⟨rfl,⟨_,HF.out.1⟩,HF.out.2⟩
   | true =>
    have hwr : layW q a s.data.toList true = { q.wrs f ll with d:=((q.wrs f ll).d.write (f : Int) (l.headD [])).1,down:=!decide (((q.wrs f ll).d.write (f : Int) (l.headD [])).2 = 0) }:=by
     rw [HLW.out,if_pos rfl];unfold QN.wr;rw [if_neg (by rw [hdn];decide)]
    have HWR:=Lib.hid hwr;obtain ⟨qn,hqn⟩ : ∃ qn,q.wrs f ll = qn:=⟨_,rfl⟩
    rw [hqn] at hx hdn j1 j2 j3 HWR;have hyl : S.data.toList = l.headD []:=by rw [HSL.out]
    have cW:=RWrite_any (f : Int) S hx.disk (by have:=HQ.out;have:=HA.out;omega);rw [hyl] at cW;obtain ⟨er,her⟩ : ∃ er,(qn.d.write (f : Int) (l.headD [])).2 = er:=⟨_,rfl⟩
    rw [her] at cW HWR;have HX9:=Lib.hid (And.intro hx hft);obtain ⟨c0,-⟩:=hx.blk.c6;clear hx hft hwr hqn hyl her hdn j1 j2 j3 j4;go_wp2_with fail
    with_reducible refine cW.mono ?_
    rintro e w10 ⟨rfl,⟨k',hr10⟩,hb10⟩;have hx10:=HX9.out.1.disk_ hr10 hb10;have hft10 : Foot (XF b v p g) w w10:=HX9.out.2.trans (But2.xf hb10) (fun i hi => .inl hi);clear cW hr10 hb10 c0;by_cases he : er = 0
    ·subst he
     have hx11 : XQ (w10.setCell ⟨b,5,none⟩ (.bool false)) b v p g c k' (layW q a s.data.toList true):=by
      rw [HWR.out];exact hx10.down_ false
     have HF:=Lib.hid (And.intro hx11 (xf_set hft10 5 (.bool false)));obtain ⟨u0,u1,u2,u3,u4,u5,g0,g1,g2,g3,g4,g5⟩:=hx10.blk.c6;clear hx10 hx11 hft10;go_wp2_with fail
     exact bodyPost_end (v:=.tuple #[]) (results_none (by kernel_rfl) _ _ _) rfl ⟨rfl,_,HF.out.1,HF.out.2⟩
    ·have he1 : (er == 0) = false:=by simp [he]
     have hx11 : XQ (w10.setCell ⟨b,5,none⟩ (.bool (er != 0))) b v p g c k' (layW q a s.data.toList true):=by
      rw [HWR.out,decide_eq_false he,show (er != 0) = true from by simp [he]];exact hx10.down_ true
     have HF:=Lib.hid (And.intro hx11 (xf_set hft10 5 (.bool (er != 0))));obtain ⟨u0,u1,u2,u3,u4,u5,g0,g1,g2,g3,g4,g5⟩:=hx10.blk.c6;clear hx10 hx11 hft10 he;go_wp2_with fail
     exact bodyPost_end (v:=.tuple #[]) (results_none (by kernel_rfl) _ _ _) rfl ⟨rfl,_,HF.out.1,HF.out.2⟩
end Go.Proofs.YtmebjdbkngehiaaGreatDoor
