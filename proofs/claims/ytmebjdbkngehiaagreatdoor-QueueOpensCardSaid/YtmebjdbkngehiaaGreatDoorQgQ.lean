/-
  A queue on a disk: its log, and what a power loss leaves of it. Plain lists, no program. No condition. A queue: how many bytes it may still need; how it begins. Plain lists, no program. No condition.
-/
import Derived.Test.YtmebjdbkngehiaaGreatDoorQgP
namespace Go.Proofs.YtmebjdbkngehiaaGreatDoor
structure QN where
 d : DN
 s : SN
 other : Bool
 tail : Nat
 down : Bool
def szN (k : Nat) : Nat := (k - 1) / 2 * 64
def beginN (k : Nat) (o : Bool) : Nat := if o then 64 + szN k else 64
def QN.sz (q : QN) : Nat := szN q.d.L.length
def zeroAt (o : Nat) : List (List UInt8) → List (List UInt8)
 | [] => []
 | s :: l => s.set o 0 :: l
def appD (d : DN) (a : Nat) (f : List UInt8) : DN × Bool :=
 if (d.puts (firstN a) (zeroAt (a - 64 * firstN a) (secsN d.L.flatten a (f ++ [0])))).2 = true then
  (((d.puts (firstN a) (zeroAt (a - 64 * firstN a) (secsN d.L.flatten a (f ++ [0])))).1.write (firstN a : Int) ((secsN d.L.flatten a (f ++ [0])).headD [])).1,
   decide (((d.puts (firstN a) (zeroAt (a - 64 * firstN a) (secsN d.L.flatten a (f ++ [0])))).1.write (firstN a : Int) ((secsN d.L.flatten a (f ++ [0])).headD [])).2 = 0))
 else ((d.puts (firstN a) (zeroAt (a - 64 * firstN a) (secsN d.L.flatten a (f ++ [0])))).1, false)
def headN (d : DN) (o : Bool) : List UInt8 := (if o then 1 else 0) :: (d.L.headD []).drop 1
def compD (d : DN) (o : Bool) (s : List UInt8) : DN × Bool :=
 if (d.puts (firstN (beginN d.L.length (!o))) (secsN d.L.flatten (beginN d.L.length (!o)) (s ++ [0]))).2 = true then
  (((d.puts (firstN (beginN d.L.length (!o))) (secsN d.L.flatten (beginN d.L.length (!o)) (s ++ [0]))).1.write 0 (headN (d.puts (firstN (beginN d.L.length (!o))) (secsN d.L.flatten (beginN d.L.length (!o)) (s ++ [0]))).1 (!o))).1,
   decide (((d.puts (firstN (beginN d.L.length (!o))) (secsN d.L.flatten (beginN d.L.length (!o)) (s ++ [0]))).1.write 0 (headN (d.puts (firstN (beginN d.L.length (!o))) (secsN d.L.flatten (beginN d.L.length (!o)) (s ++ [0]))).1 (!o))).2 = 0))
 else ((d.puts (firstN (beginN d.L.length (!o))) (secsN d.L.flatten (beginN d.L.length (!o)) (s ++ [0]))).1, false)
def QN.fin (q : QN) (r : RI) (p : DN × Bool) : QN × Int :=
 if p.2 = true then ({ q with d := p.1, tail := q.tail + (14 + r.d.size), s := q.s.tell r }, 0) else ({ q with d := p.1, down := true }, 180)
def QN.app (q : QN) (r : RI) : QN × Int := q.fin r (appD q.d (beginN q.d.L.length q.other + q.tail) (frameL r.n))
def QN.comp (q : QN) : QN := { q with d := (compD q.d q.other (layL (q.s.snap.map RI.n))).1, other := !q.other, tail := lenR q.s.snap }
def QN.log (q : QN) (r : RI) : QN × Int :=
 if q.tail + (14 + r.d.size) + 1 ≤ q.sz then q.app r
 else if lenR q.s.snap + (14 + r.d.size) + 1 ≤ q.sz then
  (if (compD q.d q.other (layL (q.s.snap.map RI.n))).2 = true then q.comp.app r else ({ q with d := (compD q.d q.other (layL (q.s.snap.map RI.n))).1, down := true }, 180))
 else (q, 194)
theorem lay_lenR (l : List RI) : (layL (l.map RI.n)).length = lenR l := by
 induction l with
 | nil => rfl
 | cons r l ih =>
  rw [List.map_cons, show layL (r.n :: l.map RI.n) = frameL r.n ++ layL (l.map RI.n) by simp [layL], List.length_append, ih, frameL_length]
  show 14 + r.d.data.toList.length + _ = _
  rw [list_size, lenR, lenR, List.map_cons, List.sum_cons]
def areaN (F : List UInt8) (k : Nat) (o : Bool) : List UInt8 := (F.drop (beginN k o)).take (szN k)
structure Tell (a : List UInt8) (l : List RecN) : Prop where
 ok : ∀ r ∈ l, okRec r
 lay : a.take (layL l).length = layL l
 zero : a[(layL l).length]? = some 0
theorem sz_lt {k : Nat} (h : 9 ≤ k) (o : Bool) : beginN k o + szN k ≤ 64 * k ∧ 64 ≤ beginN k o := by
 unfold beginN szN
 cases o <;> simp <;> omega
theorem putAt_get {A : List UInt8} {a : Nat} {s : List UInt8} (h : a + s.length ≤ A.length) (i : Nat) : (putAt A a s)[i]? = if a ≤ i ∧ i < a + s.length then s[i - a]? else A[i]? := by
 simp only [putAt, List.getElem?_append, List.getElem?_take, List.getElem?_drop, List.length_take, List.length_append]
 grind
theorem ok_num {r : RI} (h : r.ok = true) : okNum r.id = true := (rightV_iff.1 h).2.2.1
theorem lenR_append (l m : List RI) : lenR (l ++ m) = lenR l + lenR m := by simp [lenR]
theorem at_split {α : Type} (l : List α) {i : Nat} (hi : i < l.length) : l = l.take i ++ l[i] :: l.drop (i + 1) := by
 rw [← List.drop_eq_getElem_cons hi, List.take_append_drop]
end Go.Proofs.YtmebjdbkngehiaaGreatDoor
