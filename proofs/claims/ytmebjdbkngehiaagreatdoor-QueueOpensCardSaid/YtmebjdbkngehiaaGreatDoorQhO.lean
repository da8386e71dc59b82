/-
  Rows that stand besides a pair, and more of the kind. Conditions: as the theorems' own hypotheses say.
-/
import Derived.Test.YtmebjdbkngehiaaGreatDoorQhN
import Derived.Test.YtmebjdbkngehiaaGreatDoorQhJ
namespace Go.Proofs.YtmebjdbkngehiaaGreatDoor
open Go.RowKit Go.Shelf
variable {w : World} {x : QO} {g : Nat} {t : TypeId}
theorem rdC_one {b : Nat} {T : TypeId} (h : Blk w b T #[.int .i64 x.kind,.int .i64 x.a,.int .i64 x.b,.int .i64 x.e.id,.int .i64 x.e.side,.string x.e.key,.string x.e.data,.int .i64 x.e.due,.bool x.e.cust,.bool x.e.sent]) : RdC w (some ⟨b,0,none⟩) [x] := fun _ => by
 refine ⟨⟨b,0,none⟩,rfl,h.lt,fun i hi => ?_⟩
 obtain rfl : i = 0:=by simpa using hi
 exact ⟨(h.cell 0).trans rfl,(h.cell 1).trans rfl,(h.cell 2).trans rfl,(h.cell 3).trans rfl,(h.cell 4).trans rfl,(h.cell 5).trans rfl,(h.cell 6).trans rfl,(h.cell 7).trans rfl,(h.cell 8).trans rfl,(h.cell 9).trans rfl⟩
theorem blk_set10 {a0 a1 a2 a3 a4 a5 a6 a7 a8 a9 : Value} (h : Blk w g t #[a0,a1,a2,a3,a4,a5,a6,a7,a8,a9]) (u0 u1 u2 u3 u4 u5 u6 u7 u8 u9 : Value) : Blk ((((((((((w.setCell ⟨g,0,none⟩ u0).setCell ⟨g,1,none⟩ u1).setCell ⟨g,2,none⟩ u2).setCell ⟨g,3,none⟩ u3).setCell ⟨g,4,none⟩ u4).setCell ⟨g,5,none⟩ u5).setCell ⟨g,6,none⟩ u6).setCell ⟨g,7,none⟩ u7).setCell ⟨g,8,none⟩ u8).setCell ⟨g,9,none⟩ u9) g t #[u0,u1,u2,u3,u4,u5,u6,u7,u8,u9] := by
 have h0 : Blk (w.setCell ⟨g,0,none⟩ u0) g t #[u0,a1,a2,a3,a4,a5,a6,a7,a8,a9]:=h.set_ 0 u0
 have h1 : Blk ((w.setCell ⟨g,0,none⟩ u0).setCell ⟨g,1,none⟩ u1) g t #[u0,u1,a2,a3,a4,a5,a6,a7,a8,a9]:=h0.set_ 1 u1
 have h2 : Blk (((w.setCell ⟨g,0,none⟩ u0).setCell ⟨g,1,none⟩ u1).setCell ⟨g,2,none⟩ u2) g t #[u0,u1,u2,a3,a4,a5,a6,a7,a8,a9]:=h1.set_ 2 u2
 have h3 : Blk ((((w.setCell ⟨g,0,none⟩ u0).setCell ⟨g,1,none⟩ u1).setCell ⟨g,2,none⟩ u2).setCell ⟨g,3,none⟩ u3) g t #[u0,u1,u2,u3,a4,a5,a6,a7,a8,a9]:=h2.set_ 3 u3
 have h4 : Blk (((((w.setCell ⟨g,0,none⟩ u0).setCell ⟨g,1,none⟩ u1).setCell ⟨g,2,none⟩ u2).setCell ⟨g,3,none⟩ u3).setCell ⟨g,4,none⟩ u4) g t #[u0,u1,u2,u3,u4,a5,a6,a7,a8,a9]:=h3.set_ 4 u4
 have h5 : Blk ((((((w.setCell ⟨g,0,none⟩ u0).setCell ⟨g,1,none⟩ u1).setCell ⟨g,2,none⟩ u2).setCell ⟨g,3,none⟩ u3).setCell ⟨g,4,none⟩ u4).setCell ⟨g,5,none⟩ u5) g t #[u0,u1,u2,u3,u4,u5,a6,a7,a8,a9]:=h4.set_ 5 u5
 have h6 : Blk (((((((w.setCell ⟨g,0,none⟩ u0).setCell ⟨g,1,none⟩ u1).setCell ⟨g,2,none⟩ u2).setCell ⟨g,3,none⟩ u3).setCell ⟨g,4,none⟩ u4).setCell ⟨g,5,none⟩ u5).setCell ⟨g,6,none⟩ u6) g t #[u0,u1,u2,u3,u4,u5,u6,a7,a8,a9]:=h5.set_ 6 u6
 have h7 : Blk ((((((((w.setCell ⟨g,0,none⟩ u0).setCell ⟨g,1,none⟩ u1).setCell ⟨g,2,none⟩ u2).setCell ⟨g,3,none⟩ u3).setCell ⟨g,4,none⟩ u4).setCell ⟨g,5,none⟩ u5).setCell ⟨g,6,none⟩ u6).setCell ⟨g,7,none⟩ u7) g t #[u0,u1,u2,u3,u4,u5,u6,u7,a8,a9]:=h6.set_ 7 u7
 have h8 : Blk (((((((((w.setCell ⟨g,0,none⟩ u0).setCell ⟨g,1,none⟩ u1).setCell ⟨g,2,none⟩ u2).setCell ⟨g,3,none⟩ u3).setCell ⟨g,4,none⟩ u4).setCell ⟨g,5,none⟩ u5).setCell ⟨g,6,none⟩ u6).setCell ⟨g,7,none⟩ u7).setCell ⟨g,8,none⟩ u8) g t #[u0,u1,u2,u3,u4,u5,u6,u7,u8,a9]:=h7.set_ 8 u8
 have h9 : Blk ((((((((((w.setCell ⟨g,0,none⟩ u0).setCell ⟨g,1,none⟩ u1).setCell ⟨g,2,none⟩ u2).setCell ⟨g,3,none⟩ u3).setCell ⟨g,4,none⟩ u4).setCell ⟨g,5,none⟩ u5).setCell ⟨g,6,none⟩ u6).setCell ⟨g,7,none⟩ u7).setCell ⟨g,8,none⟩ u8).setCell ⟨g,9,none⟩ u9) g t #[u0,u1,u2,u3,u4,u5,u6,u7,u8,u9]:=h8.set_ 9 u9
 exact h9
theorem below_set10 {B : Nat} {a : World} (h : Below B a w) (hg : B ≤ g) (u0 u1 u2 u3 u4 u5 u6 u7 u8 u9 : Value) : Below B a ((((((((((w.setCell ⟨g,0,none⟩ u0).setCell ⟨g,1,none⟩ u1).setCell ⟨g,2,none⟩ u2).setCell ⟨g,3,none⟩ u3).setCell ⟨g,4,none⟩ u4).setCell ⟨g,5,none⟩ u5).setCell ⟨g,6,none⟩ u6).setCell ⟨g,7,none⟩ u7).setCell ⟨g,8,none⟩ u8).setCell ⟨g,9,none⟩ u9) := ((((((((((h.setCell (p := ⟨g,0,none⟩) hg u0).setCell (p := ⟨g,1,none⟩) hg u1).setCell (p := ⟨g,2,none⟩) hg u2).setCell (p := ⟨g,3,none⟩) hg u3).setCell (p := ⟨g,4,none⟩) hg u4).setCell (p := ⟨g,5,none⟩) hg u5).setCell (p := ⟨g,6,none⟩) hg u6).setCell (p := ⟨g,7,none⟩) hg u7).setCell (p := ⟨g,8,none⟩) hg u8).setCell (p := ⟨g,9,none⟩) hg u9)
theorem op_own_one {base n : Nat} {V : Value} (h : w.ownsRow base t 10 V n (cellsC [x])) : n = 1 ∧ ∃ g c,V = .slice (some ⟨g,0,none⟩) 1 c ∧ g < w.heap.size ∧ OpAt w ⟨g,0,none⟩ x := by
 obtain ⟨hn,A,c,rfl,hr⟩:=rdC_own h
 have hn1 : n = 1:=hn
 subst hn1
 obtain ⟨a,rfl,ha,hc⟩:=hr (by simp)
 have h0:=hc 0 (by simp)
 obtain ⟨-,⟨e,-⟩ | ⟨g,cap,cur,e,-⟩⟩:=h
 ·injection e with e;cases e
 ·injection e with e1 e2
  injection e1 with e1
  subst e1;exact ⟨rfl,g,c,rfl,ha,h0⟩
end Go.Proofs.YtmebjdbkngehiaaGreatDoor
