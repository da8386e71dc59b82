/-
  The document's state in memory, and what reads its keys: Knows, free, Next, and more of the kind. Conditions: as the theorems' own hypotheses say.
-/
import Derived.Test.YtmebjdbkngehiaaGreatDoorQhA
import Derived.Test.YtmebjdbkngehiaaGreatDoorQgM
import Derived.Test.YtmebjdbkngehiaaGreatDoorQgE
import Derived.Test.YtmebjdbkngehiaaGreatDoorQhE
import Derived.Test.YtmebjdbkngehiaaGreatDoorQhB
import Derived.Test.YtmebjdbkngehiaaGreatDoorQhC
import Derived.StillTailTactics
namespace Go.Proofs.YtmebjdbkngehiaaGreatDoor
open Go.RowKit Go.Shelf
set_option maxHeartbeats 4000000
variable {w w' : World} {A AL AK : Option Addr} {l : List KI} {b cL cK k : Nat} {s : SN}
def KI.cs (k : KI) : List Value := [.int .i64 k.id,.string k.text]
def cellsK (l : List KI) : List Value := l.flatMap KI.cs
def KAt (w : World) (r i : Nat) (k : KI) : Prop := w.cell? ⟨r,i,none⟩ = some (.int .i64 k.id) ∧ w.cell? ⟨r,i + 1,none⟩ = some (.string k.text)
def RowK (w : World) (A : Option Addr) (l : List KI) : Prop := 0 < l.length → ∃ g,A = some ⟨g,0,none⟩ ∧ g < w.heap.size ∧ ∀ (i : Nat) (h : i < l.length),KAt w g (i * 2) l[i]
theorem RowK.below (h : RowK w A l) (hb : Below w.heap.size w w') : RowK w' A l := fun hp => by
 obtain ⟨g,h1,h2,h3⟩:=h hp
 exact ⟨g,h1,Nat.lt_of_lt_of_le h2 hb.size,fun i hi => ⟨(hb.cell (p:=⟨g,_,none⟩) h2).trans (h3 i hi).1,(hb.cell (p:=⟨g,_,none⟩) h2).trans (h3 i hi).2⟩⟩
structure XS (w : World) (b : Nat) (AL AK : Option Addr) (cL cK : Nat) (s : SN) : Prop where
 l : w.cell? ⟨b,1,none⟩ = some (.slice AL s.L.length cL)
 k : w.cell? ⟨b,2,none⟩ = some (.slice AK s.K.length cK)
 ents : RowE w AL s.L
 keys : RowK w AK s.K
 lt : b < w.heap.size
theorem XS.below (h : XS w b AL AK cL cK s) (hb : Below w.heap.size w w') : XS w' b AL AK cL cK s :=
 ⟨(hb.cell (p:=⟨b,1,none⟩) h.lt).trans h.l,(hb.cell (p:=⟨b,2,none⟩) h.lt).trans h.k,h.ents.below hb,h.keys.below hb,Nat.lt_of_lt_of_le h.lt hb.size⟩
set_option maxRecDepth 100000 in
theorem xknows_any (t : ByteArray) (h : XS w b AL AK cL cK s) (hl : s.K.length ≤ 1000) :
  Calls Tryz.prog 83 #[.pointer (some ⟨b,1,none⟩),.string t] w (Pure (.bool (s.knows t)) w):=by
 have x1:=h.k
 have HK:=Lib.hid h.keys
 obtain ⟨N,hN⟩ : ∃ N,s.K.length = N:=⟨_,rfl⟩
 have HN:=Lib.hid hN
 rw [hN] at x1 hl
 clear hN h
 go_enter Tryz.func83,Tryz.ntmps83
 go_wp2_with fail
 go_loop [5] (fun i => ∃ k : Nat,k ≤ N ∧ i = .int .i64 (k : Int) ∧ ∀ j (a : j < s.K.length),j < k → s.K[j].text ≠ t) (fun i => N - (intOf i).toNat)
 case atStart => exact ⟨0,Nat.zero_le _,rfl,fun j _ hj => absurd hj (Nat.not_lt_zero _)⟩
 case round =>
  obtain ⟨k,hk,rfl,hs⟩:=hrel;have HS:=Lib.hid hs;clear hs;by_cases hlt : k < N
  ·have k1 : k < s.K.length:=by rw [HN.out];exact hlt
   obtain ⟨g,rfl,hg,hc⟩:=HK.out (by omega);obtain ⟨y0,y1⟩:=hc k k1;have i0 : (0 : Int) ≤ (k : Int):=by omega
   have i1 : (k : Int) < (N : Int):=by omega
   have HY:=Lib.hid (fun e : s.K[k].text = t => (show s.knows t = true from List.any_eq_true.2 ⟨s.K[k],List.getElem_mem k1,decide_eq_true e⟩));have HX:=Lib.hid (fun e : s.K[k].text ≠ t => (show ∀ j (a : j < s.K.length),j < k + 1 → s.K[j].text ≠ t from fun j a hj => by
    by_cases hjk : j < k
    ·exact HS.out j a hjk
    ·obtain rfl : j = k:=by omega
     exact e))
   obtain ⟨x,hx⟩ : ∃ x,s.K[k].text = x:=⟨_,rfl⟩
   rw [hx] at y1 HX HY;clear hx hc hg;by_cases hxt : x = t
   ·have HF:=Lib.hid (HY.out hxt)
    have hbb : (x.toList == t.toList) = true:=by rw [str_eqb];exact decide_eq_true hxt
    clear hxt HX HY;go_wp2_with fail
    go_ret;exact ⟨by rw [HF.out];rfl,rfl⟩
   ·have HF:=Lib.hid (HX.out hxt)
    have hbb : (x.toList == t.toList) = false:=by rw [str_eqb];exact decide_eq_false hxt
    clear hxt HX HY;go_wp2_with fail
    go_round
    case rel => exact ⟨k + 1,by omega,by go_num,HF.out⟩
    case measure => simp [intOf];omega
  ·have HF:=Lib.hid (show s.knows t = false from List.any_eq_false.2 fun e he => by
    obtain ⟨j,hj,rfl⟩:=List.getElem_of_mem he;have:=HS.out j hj (by rw [HN.out] at hj;omega)
    simpa using this)
   go_wp2_with fail
   go_ret;exact ⟨by rw [HF.out];rfl,rfl⟩
set_option maxRecDepth 100000 in
theorem xfree_any (id : Int) (t : ByteArray) (h : XS w b AL AK cL cK s) (hl : s.K.length ≤ 1000) :
  Calls Tryz.prog 110 #[.pointer (some ⟨b,1,none⟩),.int .i64 id,.string t] w (Pure (.bool (s.free id t)) w):=by
 have x1:=h.k
 have HK:=Lib.hid h.keys
 have HCK:=Lib.hid (xknows_any t h hl)
 obtain ⟨N,hN⟩ : ∃ N,s.K.length = N:=⟨_,rfl⟩
 have HN:=Lib.hid hN
 rw [hN] at x1 hl
 clear hN h
 go_enter Tryz.func110,Tryz.ntmps110
 go_wp2_with fail
 go_loop [7] (fun i => ∃ k : Nat,k ≤ N ∧ i = .int .i64 (k : Int) ∧ ∀ j (a : j < s.K.length),j < k → s.K[j].id ≠ id) (fun i => N - (intOf i).toNat)
 case atStart => exact ⟨0,Nat.zero_le _,rfl,fun j _ hj => absurd hj (Nat.not_lt_zero _)⟩
 case round =>
  obtain ⟨k,hk,rfl,hs⟩:=hrel;have HS:=Lib.hid hs;clear hs;by_cases hlt : k < N
  ·have k1 : k < s.K.length:=by rw [HN.out];exact hlt
   obtain ⟨g,rfl,hg,hc⟩:=HK.out (by omega);obtain ⟨y0,y1⟩:=hc k k1;have i0 : (0 : Int) ≤ (k : Int):=by omega
   have i1 : (k : Int) < (N : Int):=by omega
   have HY:=Lib.hid (fun e : s.K[k].id = id => (show s.free id t = false from Bool.eq_false_iff.2 fun h => (SN.free_iff.1 h).1 _ (List.getElem_mem k1) e));have HX:=Lib.hid (fun e : s.K[k].id ≠ id => (show ∀ j (a : j < s.K.length),j < k + 1 → s.K[j].id ≠ id from fun j a hj => by
    by_cases hjk : j < k
    ·exact HS.out j a hjk
    ·obtain rfl : j = k:=by omega
     exact e))
   obtain ⟨x,hx⟩ : ∃ x,s.K[k].id = x:=⟨_,rfl⟩
   rw [hx] at y0 HX HY;clear hx hc hg;by_cases hxt : x = id
   ·have HF:=Lib.hid (HY.out hxt)
    have hbb : (x == id) = true:=by simp [hxt]
    clear hxt HX HY;go_wp2_with fail
    go_ret;exact ⟨by rw [HF.out];rfl,rfl⟩
   ·have HF:=Lib.hid (HX.out hxt)
    have hbb : (x == id) = false:=by simp [hxt]
    clear hxt HX HY;go_wp2_with fail
    go_round
    case rel => exact ⟨k + 1,by omega,by go_num,HF.out⟩
    case measure => simp [intOf];omega
  ·have HF:=Lib.hid (show s.free id t = (decide (N < 60) && !s.knows t) from by
    have h1 : (s.K.any fun k => decide (k.id = id)) = false:=List.any_eq_false.2 fun e he => by
     obtain ⟨j,hj,rfl⟩:=List.getElem_of_mem he;have:=HS.out j hj (by rw [HN.out] at hj;omega)
     simpa using this
    unfold SN.free;rw [h1,HN.out];unfold SN.knows
    cases (s.K.any fun k => decide (k.text = t)) <;> simp)
   by_cases h60 : N < 60
   ·have i2 : (N : Int) < 60:=by omega
    have cK:=HCK.out;clear HS;obtain ⟨kn,hkn⟩ : ∃ kn,s.knows t = kn:=⟨_,rfl⟩
    rw [hkn] at cK HF;go_wp2_with fail
    with_reducible refine cK.mono ?_
    rintro e w1 ⟨rfl,rfl⟩;go_wp2_with fail
    go_ret;exact ⟨by rw [HF.out,decide_eq_true h60];rfl,rfl⟩
   ·have i2 : ¬ (N : Int) < 60:=by omega
    go_wp2_with fail
    go_ret;exact ⟨by rw [HF.out,decide_eq_false h60];rfl,rfl⟩
theorem place_step {l : List EI} {id : Int} (h : ∀ j (a : j < l.length),j < k → l[j].id ≠ id) (hk : k < l.length) (e : l[k].id = id) : placeZ l id = (k : Int) := by
 have hp : placeL l id = some k:=by
  cases hq : placeL l id with
  | none => exact absurd e (placeL_none.1 hq _ (List.getElem_mem hk))
  | some i =>
   obtain ⟨hi,h1,h2⟩:=placeL_some hq;rcases Nat.lt_trichotomy i k with g | g | g
   ·exact absurd h1 (h i hi g)
   ·rw [g]
   ·exact absurd e (h2 k g)
 unfold placeZ
 rw [hp]
set_option maxRecDepth 100000 in
theorem xplace_any (id : Int) (h : XS w b AL AK cL cK s) (hl : s.L.length ≤ 1000) :
  Calls Tryz.prog 108 #[.pointer (some ⟨b,1,none⟩),.int .i64 id] w (Pure (.int .i64 (placeZ s.L id)) w):=by
 have x1:=h.l
 have HK:=Lib.hid h.ents
 obtain ⟨N,hN⟩ : ∃ N,s.L.length = N:=⟨_,rfl⟩
 have HN:=Lib.hid hN
 rw [hN] at x1 hl
 clear hN h
 go_enter Tryz.func108,Tryz.ntmps108
 go_wp2_with fail
 go_loop [5] (fun i => ∃ k : Nat,k ≤ N ∧ i = .int .i64 (k : Int) ∧ ∀ j (a : j < s.L.length),j < k → s.L[j].id ≠ id) (fun i => N - (intOf i).toNat)
 case atStart => exact ⟨0,Nat.zero_le _,rfl,fun j _ hj => absurd hj (Nat.not_lt_zero _)⟩
 case round =>
  obtain ⟨k,hk,rfl,hs⟩:=hrel;have HS:=Lib.hid hs;clear hs;by_cases hlt : k < N
  ·have k1 : k < s.L.length:=by rw [HN.out];exact hlt
   obtain ⟨g,rfl,hg,hc⟩:=HK.out (by omega);obtain ⟨y0,-⟩:=hc k k1;have i0 : (0 : Int) ≤ (k : Int):=by omega
   have i1 : (k : Int) < (N : Int):=by omega
   have HY:=Lib.hid (fun e : s.L[k].id = id => place_step HS.out k1 e);have HX:=Lib.hid (fun e : s.L[k].id ≠ id => (show ∀ j (a : j < s.L.length),j < k + 1 → s.L[j].id ≠ id from fun j a hj => by
    by_cases hjk : j < k
    ·exact HS.out j a hjk
    ·obtain rfl : j = k:=by omega
     exact e))
   obtain ⟨x,hx⟩ : ∃ x,s.L[k].id = x:=⟨_,rfl⟩
   rw [hx] at y0 HX HY;clear hx hc hg;by_cases hxt : x = id
   ·have HF:=Lib.hid (HY.out hxt)
    have hbb : (x == id) = true:=by simp [hxt]
    clear hxt HX HY;go_wp2_with fail
    go_ret;exact ⟨by rw [HF.out];rfl,rfl⟩
   ·have HF:=Lib.hid (HX.out hxt)
    have hbb : (x == id) = false:=by simp [hxt]
    clear hxt HX HY;go_wp2_with fail
    go_round
    case rel => exact ⟨k + 1,by omega,by go_num,HF.out⟩
    case measure => simp [intOf];omega
  ·have HF:=Lib.hid (show placeZ s.L id = -1 from by
    unfold placeZ;rw [placeL_none.2 fun e he => by
     obtain ⟨j,hj,rfl⟩:=List.getElem_of_mem he;exact HS.out j hj (by rw [HN.out] at hj;omega)])
   go_wp2_with fail
   go_ret;exact ⟨by rw [HF.out];rfl,rfl⟩
theorem next_take (h : k < l.length) (n : Int) (hn : (l.take k).foldl (fun n k => max n k.id) 0 = n) : (l.take (k + 1)).foldl (fun n k => max n k.id) 0 = if n < l[k].id then l[k].id else n := by
 rw [List.take_succ_eq_append_getElem h,List.foldl_append,hn]
 show max n l[k].id = _
 split <;> omega
set_option maxRecDepth 100000 in
theorem xnext_any (h : XS w b AL AK cL cK s) (hl : s.K.length ≤ 1000) (hb : s.next ≤ 9223372036854775807) :
  Calls Tryz.prog 81 #[.pointer (some ⟨b,1,none⟩)] w (Pure (.int .i64 s.next) w):=by
 have x1:=h.k
 have HK:=Lib.hid h.keys
 obtain ⟨N,hN⟩ : ∃ N,s.K.length = N:=⟨_,rfl⟩
 have HN:=Lib.hid hN
 have HB:=Lib.hid hb
 rw [hN] at x1 hl
 clear hN h hb
 go_enter Tryz.func81,Tryz.ntmps81
 go_wp2_with fail
 go_loop [4,3] (fun i v => ∃ k : Nat,k ≤ N ∧ i = .int .i64 (k : Int) ∧ v = .int .i64 ((s.K.take k).foldl (fun n k => max n k.id) 0)) (fun i _ => N - (intOf i).toNat)
 case atStart => exact ⟨0,Nat.zero_le _,rfl,rfl⟩
 case round =>
  obtain ⟨k,hk,rfl,rfl⟩:=hrel;obtain ⟨v,hv⟩ : ∃ v,(s.K.take k).foldl (fun n k => max n k.id) 0 = v:=⟨_,rfl⟩
  rw [hv];by_cases hlt : k < N
  ·have k1 : k < s.K.length:=by rw [HN.out];exact hlt
   obtain ⟨g,rfl,hg,hc⟩:=HK.out (by omega);obtain ⟨y0,y1⟩:=hc k k1;have i0 : (0 : Int) ≤ (k : Int):=by omega
   have i1 : (k : Int) < (N : Int):=by omega
   have HX:=Lib.hid (next_take k1 v hv);obtain ⟨x,hx⟩ : ∃ x,s.K[k].id = x:=⟨_,rfl⟩
   rw [hx] at y0 HX;have hm:=fun ts t W => run_max_int2 ts t v x W;clear hx hc hg y1 hv;by_cases hvx : v < x
   ·simp only [if_pos hvx] at hm
    have HF:=Lib.hid (HX.out.trans (if_pos hvx));clear HX hvx;go_wp2_with fail
    go_round
    case rel => exact ⟨k + 1,by omega,by go_num,by rw [HF.out]⟩
    case measure => simp [intOf];omega
   ·simp only [if_neg hvx] at hm
    have HF:=Lib.hid (HX.out.trans (if_neg hvx));clear HX hvx;go_wp2_with fail
    go_round
    case rel => exact ⟨k + 1,by omega,by go_num,by rw [HF.out]⟩
    case measure => simp [intOf];omega
  ·have hf : s.next = v + 1:=by
    unfold SN.next;rw [← hv,List.take_of_length_le (by rw [HN.out];omega)]
   have h0 : 0 ≤ v:=by rw [← hv];exact (foldl_max _ 0).1
   have hw : IntKind.i64.wrap (v + 1) = v + 1:=IntWalk.i64_in _ (by have:=HB.out;omega);have HF:=Lib.hid hf;have i1 : ¬ (k : Int) < (N : Int):=by omega
   clear hv hf h0;go_wp2_with fail
   go_ret;exact ⟨by rw [HF.out];rfl,rfl⟩
theorem xcost_any (e : EI) (w : World) : Calls Tryz.prog 87 #[e.val] w (Ret (.int .i64 (e.cost : Int)) w) := by
 obtain ⟨id,side,key,data,due,cu,se⟩:=e
 have hb:=ext_new w (.cells #[.int .i64 id,.int .i64 side,.string key,.string data,.int .i64 due,.bool cu,.bool se] 23)
 unfold EI.val EI.cost
 dsimp only
 cases se
 all_goals
  go_enter Tryz.func87,Tryz.ntmps87;go_wp2_with fail
  go_ret;exact ⟨rfl,hb⟩
theorem xsize_any {p : Nat} {n c : Nat} (hd : w.cell? ⟨b,0,none⟩ = some (.pointer (some ⟨p,0,none⟩))) (hp : w.cell? ⟨p,0,none⟩ = some (.slice A n c)) (h1 : 0 < n) (h2 : n ≤ 256) :
  Calls Tryz.prog 68 #[.pointer (some ⟨b,0,none⟩)] w (Pure (.int .i64 (szN n : Int)) w):=by
 have hz:=size_num n h1
 have HZ:=Lib.hid hz
 have n1 : (1 : Int) ≤ (n : Int):=by omega
 have n2 : (n : Int) ≤ 256:=by omega
 clear hz h1 h2
 go_enter Tryz.func68,Tryz.ntmps68
 go_wp2_with fail
 go_ret
 exact ⟨by rw [← HZ.out];rfl,rfl⟩
theorem right_parts (e : EI) : e.right = (decide (1 ≤ e.id) && (okNum e.id && ((decide (e.side = 6) || decide (e.side = 7)) && (decide (1 ≤ e.key.size) && (decide (e.key.size ≤ 120) && (decide (1 ≤ e.data.size) && (decide (e.data.size ≤ 1500) && okNum e.due))))))) := by
 unfold EI.right
 simp only [Bool.and_assoc]
set_option maxRecDepth 100000 in
theorem xright_any (e : EI) (w : World) : Calls Tryz.prog 82 #[e.val] w (Ret (.bool e.right) w) := by
 rw [right_parts]
 obtain ⟨id,side,key,data,due,cu,se⟩:=e
 have hb:=ext_new w (.cells #[.int .i64 id,.int .i64 side,.string key,.string data,.int .i64 due,.bool cu,.bool se] 23)
 unfold EI.val
 dsimp only
 have hR1:=fun W => rRight_any id W
 have hR2:=fun W => rRight_any due W
 generalize okNum id = n1 at *
 generalize okNum due = n2 at *
 obtain ⟨rr,hrr⟩ : ∃ rr,(decide (1 ≤ id) && (n1 && ((decide (side = 6) || decide (side = 7)) && (decide (1 ≤ key.size) && (decide (key.size ≤ 120) && (decide (1 ≤ data.size) && (decide (data.size ≤ 1500) && n2))))))) = rr:=⟨_,rfl⟩
 rw [hrr]
 have HR:=Lib.hid hrr
 clear hrr
 go_enter Tryz.func82,Tryz.ntmps82
 by_cases c1 : 1 ≤ id
 ·go_wp2_with fail
  with_reducible refine (hR1 _).mono ?_
  rintro e w1 ⟨rfl,rfl⟩
  cases n1
  ·have HZ:=Lib.hid (show rr = false by rw [← HR.out];simp [])
   clear HR;go_wp2_with fail
   go_ret;exact ⟨by rw [HZ.out];rfl,hb⟩
  ·by_cases c6 : side = 6
   ·subst c6
    by_cases k1 : (1 : Int) ≤ (key.size : Int)
    ·by_cases k2 : (key.size : Int) ≤ 120
     ·by_cases d1 : (1 : Int) ≤ (data.size : Int)
      ·by_cases d2 : (data.size : Int) ≤ 1500
       ·have HZ:=Lib.hid (show rr = n2 by rw [← HR.out];simp [show (1 ≤ id) from c1,show 1 ≤ key.size by omega,show key.size ≤ 120 by omega,show 1 ≤ data.size by omega,show data.size ≤ 1500 by omega])
        clear HR;go_wp2_with fail
        with_reducible refine (hR2 _).mono ?_
        rintro e w2 ⟨rfl,rfl⟩;go_wp2_with fail
        go_ret;exact ⟨by rw [HZ.out];rfl,hb⟩
       ·have HZ:=Lib.hid (show rr = false by rw [← HR.out];simp [show ¬ data.size ≤ 1500 by omega])
        clear HR;go_wp2_with fail
        go_ret;exact ⟨by rw [HZ.out];rfl,hb⟩
      ·have HZ:=Lib.hid (show rr = false by rw [← HR.out];simp [show ¬ 1 ≤ data.size by omega])
       clear HR;go_wp2_with fail
       go_ret;exact ⟨by rw [HZ.out];rfl,hb⟩
     ·have HZ:=Lib.hid (show rr = false by rw [← HR.out];simp [show ¬ key.size ≤ 120 by omega])
      clear HR;go_wp2_with fail
      go_ret;exact ⟨by rw [HZ.out];rfl,hb⟩
    ·have HZ:=Lib.hid (show rr = false by rw [← HR.out];simp [show ¬ 1 ≤ key.size by omega])
     clear HR;go_wp2_with fail
     go_ret;exact ⟨by rw [HZ.out];rfl,hb⟩
   ·by_cases c7 : side = 7
    ·subst c7
     by_cases k1 : (1 : Int) ≤ (key.size : Int)
     ·by_cases k2 : (key.size : Int) ≤ 120
      ·by_cases d1 : (1 : Int) ≤ (data.size : Int)
       ·by_cases d2 : (data.size : Int) ≤ 1500
        ·have HZ:=Lib.hid (show rr = n2 by rw [← HR.out];simp [show (1 ≤ id) from c1,show 1 ≤ key.size by omega,show key.size ≤ 120 by omega,show 1 ≤ data.size by omega,show data.size ≤ 1500 by omega])
         clear HR;go_wp2_with fail
         with_reducible refine (hR2 _).mono ?_
         rintro e w2 ⟨rfl,rfl⟩;go_wp2_with fail
         go_ret;exact ⟨by rw [HZ.out];rfl,hb⟩
        ·have HZ:=Lib.hid (show rr = false by rw [← HR.out];simp [show ¬ data.size ≤ 1500 by omega])
         clear HR;go_wp2_with fail
         go_ret;exact ⟨by rw [HZ.out];rfl,hb⟩
       ·have HZ:=Lib.hid (show rr = false by rw [← HR.out];simp [show ¬ 1 ≤ data.size by omega])
        clear HR;go_wp2_with fail
        go_ret;exact ⟨by rw [HZ.out];rfl,hb⟩
      ·have HZ:=Lib.hid (show rr = false by rw [← HR.out];simp [show ¬ key.size ≤ 120 by omega])
       clear HR;go_wp2_with fail
       go_ret;exact ⟨by rw [HZ.out];rfl,hb⟩
     ·have HZ:=Lib.hid (show rr = false by rw [← HR.out];simp [show ¬ 1 ≤ key.size by omega])
      clear HR;go_wp2_with fail
      go_ret;exact ⟨by rw [HZ.out];rfl,hb⟩
    ·have HZ:=Lib.hid (show rr = false by rw [← HR.out];simp [c6,c7])
     clear HR;go_wp2_with fail
     go_ret;exact ⟨by rw [HZ.out];rfl,hb⟩
 ·have HZ:=Lib.hid (show rr = false by rw [← HR.out];simp [c1])
  clear HR;go_wp2_with fail
  go_ret;exact ⟨by rw [HZ.out];rfl,hb⟩
set_option maxRecDepth 100000 in
theorem xrecord_n (m : Nat) (id due : Int) (key data : ByteArray) (se : Bool) (w : World) (hm : m ≤ 7) (hk : key.size ≤ 120) (hd : data.size ≤ 1500) (hu : okNum due = true) :
  Calls Tryz.prog 86 #[.agg #[.int .i64 id,.int .i64 (m : Int),.string key,.string data,.int .i64 due,.bool false,.bool se]] w (Ret (.agg #[.int .i64 1,.int .i64 id,.string ⟨(UInt8.ofNat m :: (digits 6 due.toNat ++ (UInt8.ofNat key.size :: (key.data.toList ++ data.data.toList)))).toArray⟩]) w):=by
 have hx:=rec_cat (UInt8.ofNat m) (digits 6 due.toNat) (UInt8.ofNat key.size) key data
 have HX:=Lib.hid hx
 clear hx
 have hX:=(Blk.new_ w 23 #[.int .i64 id,.int .i64 (m : Int),.string key,.string data,.int .i64 due,.bool false,.bool se]).alloc (.cells #[.int .i64 0,.int .i64 0,.string ⟨#[]⟩] 128)
 have hR:=Blk.new_ (w.alloc (.cells #[.int .i64 id,.int .i64 (m : Int),.string key,.string data,.int .i64 due,.bool false,.bool se] 23)) 128 #[.int .i64 0,.int .i64 0,.string ⟨#[]⟩]
 have hb0:=ext_alloc (ext_new w (.cells #[.int .i64 id,.int .i64 (m : Int),.string key,.string data,.int .i64 due,.bool false,.bool se] 23)) (.cells #[.int .i64 0,.int .i64 0,.string ⟨#[]⟩] 128)
 simp only [World.size_alloc] at hR
 obtain ⟨⟨x0,x1,x2,x3,x4,x5,x6⟩,-⟩:=hX.c7
 have hB:=fun W => rBytes_any due 6 W
 rw [bytes6 hu] at hB
 have hwr : IntKind.u8.wrap (key.size : Int) = (key.size : Int):=by
  show (key.size : Int) % 256 = _;omega
 have hws : IntKind.u8.wrap (m : Int) = (m : Int):=by
  show (m : Int) % 256 = _;omega
 have HD:=Lib.hid hd
 have HU:=Lib.hid hu
 have HM:=Lib.hid hm
 clear hd hu hm
 go_enter Tryz.func86,Tryz.ntmps86
 go_wp2_with fail
 refine (hB _).mono ?_
 rintro e w3 ⟨rfl,hb3⟩
 have hX3:=hX.below hb3
 have hR3:=hR.below hb3
 have hb4:=ext_trans hb0 hb3
 clear x0 x1 x2 x3 x4 x5 x6 hX hR hb0 hb3 hB
 obtain ⟨⟨x0,x1,x2,x3,x4,x5,x6⟩,-⟩:=hX3.c7
 have hb5:=ext_alloc (ext_alloc hb4 (.cells #[.int .u8 (m : Int)] 5)) (.cells #[.int .u8 (key.size : Int)] 5)
 have hXa:=hX3.alloc (.cells #[.int .u8 (m : Int)] 5)
 have hXb:=hXa.alloc (.cells #[.int .u8 (key.size : Int)] 5)
 have hRb:=(hR3.alloc (.cells #[.int .u8 (m : Int)] 5)).alloc (.cells #[.int .u8 (key.size : Int)] 5)
 obtain ⟨⟨-,-,y2,y3,-⟩,-⟩:=hXa.c7
 obtain ⟨⟨-,-,z2,z3,-⟩,-⟩:=hXb.c7
 obtain ⟨r0,r1,r2,f0,f1,f2⟩:=hRb.c3
 have hcv1 : (convert 36 9 (.slice (some ⟨w3.heap.size,0,none⟩) 1 1)).run Tryz.prog (w3.alloc (.cells #[.int .u8 (m : Int)] 5)) = .ok (.string ⟨#[UInt8.ofNat m]⟩) (w3.alloc (.cells #[.int .u8 (m : Int)] 5)):=by
  have h:=conv_b (w3.alloc (.cells #[.int .u8 ((m : Nat) : Int)] 5)) w3.heap.size m (by have:=HM.out;omega) (Blk.new_ _ _ _);rw [show ((m : Nat) : Int) = (m : Int) by omega] at h;exact h
 have hcv2:=conv_b ((w3.alloc (.cells #[.int .u8 (m : Int)] 5)).alloc (.cells #[.int .u8 (key.size : Int)] 5)) (w3.heap.size + 1) key.size (by omega) (Blk.at_ (by simp))
 have hs1 : (⟨#[UInt8.ofNat m]⟩ : ByteArray).size = 1:=rfl
 have hs2 : (⟨#[UInt8.ofNat key.size]⟩ : ByteArray).size = 1:=rfl
 have hs3 : (⟨(digits 6 due.toNat).toArray⟩ : ByteArray).size = 6:=by show (digits 6 due.toNat).toArray.size = 6;simp [digits_length]
 generalize (⟨#[UInt8.ofNat m]⟩ : ByteArray) = S1 at *
 generalize (⟨#[UInt8.ofNat key.size]⟩ : ByteArray) = S2 at *
 generalize (⟨(digits 6 due.toNat).toArray⟩ : ByteArray) = S3 at *
 have hd:=HD.out
 have q1 : ¬ (9223372036854775807 < S1.size + S3.size):=by omega
 have q2 : ¬ (9223372036854775807 < (S1 ++ S3).size + S2.size):=by rw [ByteArray.size_append];omega
 have q3 : ¬ (9223372036854775807 < (S1 ++ S3 ++ S2).size + key.size):=by rw [ByteArray.size_append,ByteArray.size_append];omega
 have q4 : ¬ (9223372036854775807 < (S1 ++ S3 ++ S2 ++ key).size + data.size):=by rw [ByteArray.size_append,ByteArray.size_append,ByteArray.size_append];omega
 clear hd hs1 hs2 hs3
 have hfin:=blk_set3 hRb (.int .i64 1) (.int .i64 id) (.string (S1 ++ S3 ++ S2 ++ key ++ data))
 have hbf:=below_set3 hb5 (show w.heap.size ≤ w.heap.size + 1 by omega) (.int .i64 1) (.int .i64 id) (.string (S1 ++ S3 ++ S2 ++ key ++ data))
 have HF:=Lib.hid hfin
 have HBF:=Lib.hid hbf
 clear hfin hbf hb5 hb4 hX3 hR3 hXa hXb hRb
 go_wp2_with fail
 refine bodyPost_ret (v:=_) (ret_rec1 (pt:=2) (by kernel_rfl) rfl HF.out) rfl ⟨?_,HBF.out⟩
 rw [HX.out]
set_option maxRecDepth 100000 in
theorem xrecord_c (m : Nat) (id due : Int) (key data : ByteArray) (se : Bool) (w : World) (hm : m ≤ 7) (hk : key.size ≤ 120) (hd : data.size ≤ 1500) (hu : okNum due = true) :
  Calls Tryz.prog 86 #[.agg #[.int .i64 id,.int .i64 (m : Int),.string key,.string data,.int .i64 due,.bool true,.bool se]] w (Ret (.agg #[.int .i64 1,.int .i64 id,.string ⟨(UInt8.ofNat (m + 128) :: (digits 6 due.toNat ++ (UInt8.ofNat key.size :: (key.data.toList ++ data.data.toList)))).toArray⟩]) w):=by
 have hx:=rec_cat (UInt8.ofNat (m + 128)) (digits 6 due.toNat) (UInt8.ofNat key.size) key data
 have HX:=Lib.hid hx
 clear hx
 have hX:=(Blk.new_ w 23 #[.int .i64 id,.int .i64 (m : Int),.string key,.string data,.int .i64 due,.bool true,.bool se]).alloc (.cells #[.int .i64 0,.int .i64 0,.string ⟨#[]⟩] 128)
 have hR:=Blk.new_ (w.alloc (.cells #[.int .i64 id,.int .i64 (m : Int),.string key,.string data,.int .i64 due,.bool true,.bool se] 23)) 128 #[.int .i64 0,.int .i64 0,.string ⟨#[]⟩]
 have hb0:=ext_alloc (ext_new w (.cells #[.int .i64 id,.int .i64 (m : Int),.string key,.string data,.int .i64 due,.bool true,.bool se] 23)) (.cells #[.int .i64 0,.int .i64 0,.string ⟨#[]⟩] 128)
 simp only [World.size_alloc] at hR
 obtain ⟨⟨x0,x1,x2,x3,x4,x5,x6⟩,-⟩:=hX.c7
 have hB:=fun W => rBytes_any due 6 W
 rw [bytes6 hu] at hB
 have hwr : IntKind.u8.wrap (key.size : Int) = (key.size : Int):=by
  show (key.size : Int) % 256 = _;omega
 have hwi : IntKind.i64.wrap ((m : Int) + 128) = (m : Int) + 128:=IntWalk.i64_in _ (by omega)
 have hws : IntKind.u8.wrap ((m : Int) + 128) = (m : Int) + 128:=by
  show ((m : Int) + 128) % 256 = _;omega
 have HD:=Lib.hid hd
 have HU:=Lib.hid hu
 have HM:=Lib.hid hm
 clear hd hu hm
 go_enter Tryz.func86,Tryz.ntmps86
 go_wp2_with fail
 refine (hB _).mono ?_
 rintro e w3 ⟨rfl,hb3⟩
 have hX3:=hX.below hb3
 have hR3:=hR.below hb3
 have hb4:=ext_trans hb0 hb3
 clear x0 x1 x2 x3 x4 x5 x6 hX hR hb0 hb3 hB
 obtain ⟨⟨x0,x1,x2,x3,x4,x5,x6⟩,-⟩:=hX3.c7
 have hb5:=ext_alloc (ext_alloc hb4 (.cells #[.int .u8 ((m : Int) + 128)] 5)) (.cells #[.int .u8 (key.size : Int)] 5)
 have hXa:=hX3.alloc (.cells #[.int .u8 ((m : Int) + 128)] 5)
 have hXb:=hXa.alloc (.cells #[.int .u8 (key.size : Int)] 5)
 have hRb:=(hR3.alloc (.cells #[.int .u8 ((m : Int) + 128)] 5)).alloc (.cells #[.int .u8 (key.size : Int)] 5)
 obtain ⟨⟨-,-,y2,y3,-⟩,-⟩:=hXa.c7
 obtain ⟨⟨-,-,z2,z3,-⟩,-⟩:=hXb.c7
 obtain ⟨r0,r1,r2,f0,f1,f2⟩:=hRb.c3
 have hcv1 : (convert 36 9 (.slice (some ⟨w3.heap.size,0,none⟩) 1 1)).run Tryz.prog (w3.alloc (.cells #[.int .u8 ((m : Int) + 128)] 5)) = .ok (.string ⟨#[UInt8.ofNat (m + 128)]⟩) (w3.alloc (.cells #[.int .u8 ((m : Int) + 128)] 5)):=by
  have h:=conv_b (w3.alloc (.cells #[.int .u8 (((m + 128) : Nat) : Int)] 5)) w3.heap.size (m + 128) (by have:=HM.out;omega) (Blk.new_ _ _ _);rw [show (((m + 128) : Nat) : Int) = ((m : Int) + 128) by omega] at h;exact h
 have hcv2:=conv_b ((w3.alloc (.cells #[.int .u8 ((m : Int) + 128)] 5)).alloc (.cells #[.int .u8 (key.size : Int)] 5)) (w3.heap.size + 1) key.size (by omega) (Blk.at_ (by simp))
 have hs1 : (⟨#[UInt8.ofNat (m + 128)]⟩ : ByteArray).size = 1:=rfl
 have hs2 : (⟨#[UInt8.ofNat key.size]⟩ : ByteArray).size = 1:=rfl
 have hs3 : (⟨(digits 6 due.toNat).toArray⟩ : ByteArray).size = 6:=by show (digits 6 due.toNat).toArray.size = 6;simp [digits_length]
 generalize (⟨#[UInt8.ofNat (m + 128)]⟩ : ByteArray) = S1 at *
 generalize (⟨#[UInt8.ofNat key.size]⟩ : ByteArray) = S2 at *
 generalize (⟨(digits 6 due.toNat).toArray⟩ : ByteArray) = S3 at *
 have hd:=HD.out
 have q1 : ¬ (9223372036854775807 < S1.size + S3.size):=by omega
 have q2 : ¬ (9223372036854775807 < (S1 ++ S3).size + S2.size):=by rw [ByteArray.size_append];omega
 have q3 : ¬ (9223372036854775807 < (S1 ++ S3 ++ S2).size + key.size):=by rw [ByteArray.size_append,ByteArray.size_append];omega
 have q4 : ¬ (9223372036854775807 < (S1 ++ S3 ++ S2 ++ key).size + data.size):=by rw [ByteArray.size_append,ByteArray.size_append,ByteArray.size_append];omega
 clear hd hs1 hs2 hs3
 have hfin:=blk_set3 hRb (.int .i64 1) (.int .i64 id) (.string (S1 ++ S3 ++ S2 ++ key ++ data))
 have hbf:=below_set3 hb5 (show w.heap.size ≤ w.heap.size + 1 by omega) (.int .i64 1) (.int .i64 id) (.string (S1 ++ S3 ++ S2 ++ key ++ data))
 have HF:=Lib.hid hfin
 have HBF:=Lib.hid hbf
 clear hfin hbf hb5 hb4 hX3 hR3 hXa hXb hRb
 go_wp2_with fail
 refine bodyPost_ret (v:=_) (ret_rec1 (pt:=2) (by kernel_rfl) rfl HF.out) rfl ⟨?_,HBF.out⟩
 rw [HX.out]
theorem xrecord_any (e : EI) (w : World) (h : e.right = true) : Calls Tryz.prog 86 #[e.val] w (Ret e.ri.val w) := by
 obtain ⟨-,-,h3,-,h5,-,h7,h8⟩:=EI.right_iff.1 h
 obtain ⟨id,side,key,data,due,cu,se⟩:=e
 dsimp only at h3 h5 h7 h8
 rcases h3 with rfl | rfl
 ·cases cu
  ·exact xrecord_n 6 id due key data se w (by omega) h5 h7 h8
  ·exact xrecord_c 6 id due key data se w (by omega) h5 h7 h8
 ·cases cu
  ·exact xrecord_n 7 id due key data se w (by omega) h5 h7 h8
  ·exact xrecord_c 7 id due key data se w (by omega) h5 h7 h8
theorem ret_ent1 {fn : Func} {pt : Tmp} (h : fn.results = #[.cell pt 23]) {tmps : Array Value} {W : World} {g : Nat} {a0 a1 a2 a3 a4 a5 a6 : Value} (hp : tmps.getD pt undef = .pointer (some ⟨g,0,none⟩)) (hB : Blk W g 23 #[a0,a1,a2,a3,a4,a5,a6]) :
  (results fn tmps).run Tryz.prog W = .ok (.agg #[a0,a1,a2,a3,a4,a5,a6]) W:=by
 have hp' : tmps[pt]?.getD undef = .pointer (some ⟨g,0,none⟩):=by simpa using hp
 simp only [results,h]
 simp [hp',asAddr,load_ent hB]
set_option maxRecDepth 100000 in
theorem xentry_any (r : RI) (w : World) (hz : r.d.size ≤ 1000000) : Calls Tryz.prog 109 #[r.val] w (Ret (roughE r).val w) := by
 obtain ⟨op,id,d⟩:=r
 dsimp only at hz
 unfold RI.val
 dsimp only
 have hb0:=ext_alloc (ext_new w (.cells #[.int .i64 op,.int .i64 id,.string d] 128)) (.cells #[.int .i64 0,.int .i64 0,.string ⟨#[]⟩,.string ⟨#[]⟩,.int .i64 0,.bool false,.bool false] 23)
 have hR:=(Blk.new_ w 128 #[.int .i64 op,.int .i64 id,.string d]).alloc (.cells #[.int .i64 0,.int .i64 0,.string ⟨#[]⟩,.string ⟨#[]⟩,.int .i64 0,.bool false,.bool false] 23)
 have hT:=Blk.new_ (w.alloc (.cells #[.int .i64 op,.int .i64 id,.string d] 128)) 23 #[.int .i64 0,.int .i64 0,.string ⟨#[]⟩,.string ⟨#[]⟩,.int .i64 0,.bool false,.bool false]
 simp only [World.size_alloc] at hT
 obtain ⟨x0,x1,x2,-⟩:=hR.c3
 obtain ⟨⟨t0,t1,t2,t3,t4,t5,t6⟩,f0,f1,f2,f3,f4,f5,f6⟩:=hT.c7
 by_cases h : d.size < 8
 ·have hi : (d.size : Int) < 8:=by omega
  have HE:=Lib.hid (show roughE ⟨op,id,d⟩ = EI.nil from if_pos h);have HF:=Lib.hid (And.intro hT hb0);clear hT hR hb0 h;go_enter Tryz.func109,Tryz.ntmps109;go_wp2_with fail
  refine bodyPost_ret (v:=_) (ret_ent1 (pt:=2) (by kernel_rfl) rfl HF.out.1) rfl ⟨?_,HF.out.2⟩;rw [HE.out]
  rfl
 ·have hi : ¬ ((d.size : Int) < 8):=by omega
  obtain ⟨b7,hb7⟩ : ∃ b,d[7]'(by omega) = b:=⟨_,rfl⟩
  obtain ⟨b0,hb00⟩ : ∃ b,d[0]'(by omega) = b:=⟨_,rfl⟩
  have h7 : b7.toNat < 256:=b7.toNat_lt;have h0 : b0.toNat < 256:=b0.toNat_lt;have j7 : (7 : Int) < (d.size : Int):=by omega
  have j0 : 0 < d.size:=by omega
  have hwr : IntKind.i64.wrap (8 + (b7.toNat : Int)) = 8 + (b7.toNat : Int):=IntWalk.i64_in _ (by omega);have hrough : roughE ⟨op,id,d⟩ = ⟨id,((b0.toNat : Int) % 128),(cutV d 8 (b7.toNat : Int)).1,(restV d (8 + (b7.toNat : Int))).1,(takeV d 1 6).1,decide (128 ≤ b0.toNat),false⟩:=by
   unfold roughE;rw [if_neg (show ¬ d.size < 8 by omega)];dsimp only;rw [getD_at d 0 (by omega),getD_at d 7 (by omega),hb7,hb00,show ((b0.toNat % 128 : Nat) : Int) = (b0.toNat : Int) % 128 by omega]
  have HE:=Lib.hid hrough;have cT:=fun W => rTake_any d 1 6 W (by omega) (by omega) (by omega);have cC:=fun W => rCut_any d 8 (b7.toNat : Int) W (by omega) (by omega) (by omega);have cR:=fun W => rRest_any d (8 + (b7.toNat : Int)) W (by omega);have HT:=Lib.hid (And.intro hT hb0);have HR:=Lib.hid hR;clear hrough hT hb0 hR;go_enter Tryz.func109,Tryz.ntmps109;go_wp2_with fail
  with_reducible refine (cT _).mono ?_
  rintro e w1 ⟨rfl,rfl⟩;go_wp2_with fail
  with_reducible refine (cC _).mono ?_
  rintro e w1 ⟨rfl,rfl⟩;go_wp2_with fail
  with_reducible refine (cR _).mono ?_
  rintro e w1 ⟨rfl,rfl⟩;go_wp2_with fail
  have hwr2 : IntKind.i64.wrap ((b0.toNat : Int) % 128) = (b0.toNat : Int) % 128:=IntWalk.i64_in _ (by omega);have hdc : decide ((128 : Int) ≤ (b0.toNat : Int)) = decide (128 ≤ b0.toNat):=decide_eq_decide.2 (by omega);generalize (w.alloc (.cells #[.int .i64 op,.int .i64 id,.string d] 128)).alloc (.cells #[.int .i64 0,.int .i64 0,.string ⟨#[]⟩,.string ⟨#[]⟩,.int .i64 0,.bool false,.bool false] 23) = W1 at *;generalize (cutV d 8 (b7.toNat : Int)).1 = S1 at *;generalize (restV d (8 + (b7.toNat : Int))).1 = S2 at *;generalize (takeV d 1 6).1 = u at *;clear cT cC cR
  go_still_tail 15,(by kernel_rfl)
  change wpList _ _ _ _ _ W1.drew;have hT : Blk W1.drew _ _ _:=HT.out.1;have hB : Below w.heap.size w W1.drew:=HT.out.2.drew;clear x0 x1 x2 t0 t1 t2 t3 t4 t5 t6 f0 f1 f2 f3 f4 f5 f6;generalize W1.drew = W2 at *;obtain ⟨⟨t0,t1,t2,t3,t4,t5,t6⟩,f0,f1,f2,f3,f4,f5,f6⟩:=hT.c7;have hfin:=blk_set7 hT (.int .i64 id) (.int .i64 ((b0.toNat : Int) % 128)) (.string S1) (.string S2) (.int .i64 u) (.bool (decide (128 ≤ b0.toNat))) (.bool false);have hbf:=below_set7 hB (show w.heap.size ≤ w.heap.size + 1 by omega) (.int .i64 id) (.int .i64 ((b0.toNat : Int) % 128)) (.string S1) (.string S2) (.int .i64 u) (.bool (decide (128 ≤ b0.toNat))) (.bool false);have HF:=Lib.hid (And.intro hfin hbf);clear hfin hbf hT hB;go_wp2_with fail
  refine bodyPost_ret (v:=_) (ret_ent1 (pt:=2) (by kernel_rfl) rfl HF.out.1) rfl ⟨?_,HF.out.2⟩;rw [HE.out]
  rfl
end Go.Proofs.YtmebjdbkngehiaaGreatDoor
