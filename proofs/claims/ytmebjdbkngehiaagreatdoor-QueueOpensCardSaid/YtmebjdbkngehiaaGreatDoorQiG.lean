/-
  QueuePlays. Conditions: the program's variables hold what GInv says.
-/
import Derived.Test.YtmebjdbkngehiaaGreatDoorQiF
import Derived.Test.YtmebjdbkngehiaaGreatDoorQhJ
namespace Go.Proofs.YtmebjdbkngehiaaGreatDoor
open Go.RowKit Go.Shelf
variable {d : DN} {K : KN}
theorem newN_lost (hf : d.Fit) : (newN d).2.2.1.length ≤ 60 := by
 unfold newN
 split
 ·exact Nat.zero_le _
 ·rename_i hd
  split
  ·exact Nat.zero_le _
  ·rename_i h9
   split
   ·exact Nat.le_trans (List.length_filter_le _ _) (open_qw hf (by simpa using hd) (by omega)).ok.len
   ·exact Nat.zero_le _
theorem act_lost (hf : K.d.Fit) (x : QO) : (K.act x).2.lost.length ≤ 60 := by
 unfold KN.act
 split
 ·exact Nat.zero_le _
 ·split
  ·split <;> exact Nat.zero_le _
  ·split
   ·exact Nat.zero_le _
   ·split
    ·exact newN_lost (DN.restart_fit hf).1
    ·exact newN_lost (DN.arm_fit (DN.restart_fit hf).1 _ _).1
theorem newN_n (hf : d.Fit) (hL : d.L.length ≤ 256) : (newN d).1.n ≤ d.n + 30840 ∧ (newN d).1.L.length = d.L.length := by
 unfold newN
 split
 ·exact ⟨Nat.le_add_right _ _,rfl⟩
 ·rename_i hd
  split
  ·exact ⟨Nat.le_add_right _ _,rfl⟩
  ·rename_i h9
   have hqw:=open_qw hf (by simpa using hd) (by omega);have h1:=drops_qw (lostL (openN d).s.L) hqw rfl fun e he => (EI.right_iff.1 (hqw.ok.ents e (List.mem_filter.1 he).1)).2.1;have h2 : (lostL (openN d).s.L).length * (2 * (openN d).d.L.length + 2) ≤ 60 * 514:=Nat.mul_le_mul (Nat.le_trans (List.length_filter_le _ _) hqw.ok.len) (by show 2 * d.L.length + 2 ≤ 514;omega);have h3 : (openN d).d = d:=rfl;rw [h3] at h1 h2;split
   ·exact ⟨by show ((openN d).drops (lostL (openN d).s.L)).1.d.n ≤ _;omega,h1.2.1⟩
   ·exact ⟨by show ((openN d).drops (lostL (openN d).s.L)).1.d.n ≤ _;omega,h1.2.1⟩
theorem act_n (hf : K.d.Fit) (hq : ∀ q,K.q = some q → QW q ∧ q.d = K.d) (hL : K.d.L.length ≤ 256) (x : QO) : (K.act x).1.d.n ≤ K.d.n + 30840 := by
 have ha : ∀ d : DN,(d.arm x.a x.b).1.n = d.n ∧ (d.arm x.a x.b).1.L = d.L:=fun d => by unfold DN.arm;split <;> exact ⟨rfl,rfl⟩
 unfold KN.act
 split
 ·exact Nat.le_add_right _ _
 ·rename_i h0
  split
  ·rename_i h3
   cases hk : K.q with
   | none => exact Nat.le_add_right _ _
   | some q =>
    obtain ⟨h1,h2⟩:=hq q hk;show (q.call x).1.d.n ≤ _;rw [← h2] at hL ⊢;unfold QN.call;split
    ·have:=(put_qw h1 x.e).2.2;omega
    ·have:=(became_qw h1 (op:=x.kind + 1) (by omega) x.a).2.2
     show (q.became (x.kind + 1) x.a).1.d.n ≤ _;omega
  ·split
   ·show (K.d.arm x.a x.b).1.n ≤ _
    rw [(ha K.d).1];exact Nat.le_add_right _ _
   ·split
    ·exact (newN_n (DN.restart_fit hf).1 hL).1
    ·have h:=(newN_n (d:=(K.d.restart.arm x.a x.b).1) (DN.arm_fit (DN.restart_fit hf).1 _ _).1 (by rw [(ha _).2];exact hL)).1
     rw [(ha K.d.restart).1] at h;exact h
theorem pair_some {w : World} {p g : Nat} {o : Option (QC × QV)} (h : PairAt w p g o K) : ∀ q,K.q = some q → QW q ∧ q.d = K.d := fun q hq => by
 obtain ⟨c,v,q',-,h2,h3,h4,h5⟩:=h.some_ q hq
 exact ⟨h3,h5⟩
theorem ext_below {n : Nat} {a b c : World} (h : Below n a b) (k : Below n b c) : Below n a c := ⟨k.os.trans h.os,k.tape.trans h.tape,k.output.trans h.output,Nat.le_trans h.size k.size,fun j hj => (k.block j hj).trans (h.block j hj)⟩
end Go.Proofs.YtmebjdbkngehiaaGreatDoor
