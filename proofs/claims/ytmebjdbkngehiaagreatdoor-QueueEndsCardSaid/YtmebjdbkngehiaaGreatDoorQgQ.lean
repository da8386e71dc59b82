/-
  A queue on a disk: its log, and what a power loss leaves of it. Plain lists, no program. No condition. A queue: how many bytes it may still need; how it begins. Plain lists, no program. No condition.
-/
import Derived.Test.YtmebjdbkngehiaaGreatDoorQgP
namespace Go.Proofs.YtmebjdbkngehiaaGreatDoor

/-- A queue: its disk, what its log tells, whether the other area is in use, the tail, whether it is down. -/
structure QN where
  d : DN
  s : SN
  other : Bool
  tail : Nat
  down : Bool
def szN (k : Nat) : Nat := (k - 1) / 2 * 64
def beginN (k : Nat) (o : Bool) : Nat := if o then 64 + szN k else 64
def QN.sz (q : QN) : Nat := szN q.d.L.length
/-- The first of some sectors with one byte 0. -/
def zeroAt (o : Nat) : List (List UInt8) → List (List UInt8)
  | [] => []
  | s :: l => s.set o 0 :: l
/-- A frame appended: what becomes of the disk, did it go well? -/
def appD (d : DN) (a : Nat) (f : List UInt8) : DN × Bool :=
  if (d.puts (firstN a) (zeroAt (a - 64 * firstN a) (secsN d.L.flatten a (f ++ [0])))).2 = true then
    (((d.puts (firstN a) (zeroAt (a - 64 * firstN a) (secsN d.L.flatten a (f ++ [0])))).1.write (firstN a : Int) ((secsN d.L.flatten a (f ++ [0])).headD [])).1,
     decide (((d.puts (firstN a) (zeroAt (a - 64 * firstN a) (secsN d.L.flatten a (f ++ [0])))).1.write (firstN a : Int) ((secsN d.L.flatten a (f ++ [0])).headD [])).2 = 0))
  else ((d.puts (firstN a) (zeroAt (a - 64 * firstN a) (secsN d.L.flatten a (f ++ [0])))).1, false)
/-- The first sector's bytes with which the other area is in use, or not. -/
def headN (d : DN) (o : Bool) : List UInt8 := (if o then 1 else 0) :: (d.L.headD []).drop 1
/-- A snapshot laid into the other area. -/
def compD (d : DN) (o : Bool) (s : List UInt8) : DN × Bool :=
  if (d.puts (firstN (beginN d.L.length (!o))) (secsN d.L.flatten (beginN d.L.length (!o)) (s ++ [0]))).2 = true then
    (((d.puts (firstN (beginN d.L.length (!o))) (secsN d.L.flatten (beginN d.L.length (!o)) (s ++ [0]))).1.write 0 (headN (d.puts (firstN (beginN d.L.length (!o))) (secsN d.L.flatten (beginN d.L.length (!o)) (s ++ [0]))).1 (!o))).1,
     decide (((d.puts (firstN (beginN d.L.length (!o))) (secsN d.L.flatten (beginN d.L.length (!o)) (s ++ [0]))).1.write 0 (headN (d.puts (firstN (beginN d.L.length (!o))) (secsN d.L.flatten (beginN d.L.length (!o)) (s ++ [0]))).1 (!o))).2 = 0))
  else ((d.puts (firstN (beginN d.L.length (!o))) (secsN d.L.flatten (beginN d.L.length (!o)) (s ++ [0]))).1, false)
/-- What is left behind an append. -/
def QN.fin (q : QN) (r : RI) (p : DN × Bool) : QN × Int :=
  if p.2 = true then ({ q with d := p.1, tail := q.tail + (14 + r.d.size), s := q.s.tell r }, 0) else ({ q with d := p.1, down := true }, 180)
def QN.app (q : QN) (r : RI) : QN × Int := q.fin r (appD q.d (beginN q.d.L.length q.other + q.tail) (frameL r.n))
/-- The queue behind a snapshot that went well. -/
def QN.comp (q : QN) : QN := { q with d := (compD q.d q.other (layL (q.s.snap.map RI.n))).1, other := !q.other, tail := lenR q.s.snap }
/-- A record logged, and what is told. -/
def QN.log (q : QN) (r : RI) : QN × Int :=
  if q.tail + (14 + r.d.size) + 1 ≤ q.sz then q.app r
  else if lenR q.s.snap + (14 + r.d.size) + 1 ≤ q.sz then
    (if (compD q.d q.other (layL (q.s.snap.map RI.n))).2 = true then q.comp.app r else ({ q with d := (compD q.d q.other (layL (q.s.snap.map RI.n))).1, down := true }, 180))
  else (q, 194)

theorem lay_lenR (l : List RI) : (layL (l.map RI.n)).length = lenR l := by
  induction l with
  | nil => rfl
  | cons r l ih =>
    rw [List.map_cons, show layL (r.n :: l.map RI.n) = frameL r.n ++ layL (l.map RI.n) by simp [layL], List.length_append, ih, frameL_length]
    show 14 + r.d.data.toList.length + _ = _
    rw [list_size, lenR, lenR, List.map_cons, List.sum_cons]

/-- The bytes of an area. -/
def areaN (F : List UInt8) (k : Nat) (o : Bool) : List UInt8 := (F.drop (beginN k o)).take (szN k)
/-- Bytes begin with some records' frames, and a byte 0. -/
structure Tell (a : List UInt8) (l : List RecN) : Prop where
  ok : ∀ r ∈ l, okRec r
  lay : a.take (layL l).length = layL l
  zero : a[(layL l).length]? = some 0
/-- A disk tells some records. -/
structure DT (d : DN) (o : Bool) (l : List RecN) : Prop where
  fit : d.Fit
  nine : 9 ≤ d.L.length
  flag : decide (d.L.flatten.headD 0 ≠ 0) = o
  tell : Tell (areaN d.L.flatten d.L.length o) l
theorem Tell.scan {a : List UInt8} {l : List RecN} (h : Tell a l) : scanOf a = (l, (layL l).length) := by
  have hz := h.zero
  obtain ⟨hlt, hz2⟩ := List.getElem?_eq_some_iff.1 hz
  have e : a = layL l ++ 0 :: a.drop ((layL l).length + 1) := by
    conv => lhs; rw [← List.take_append_drop (layL l).length a, h.lay, List.drop_eq_getElem_cons hlt, hz2]
  rw [e]
  exact scan_lay l h.ok _ (dec_other (by decide))
theorem head_get (F : List UInt8) : F.headD 0 = (F[0]?).getD 0 := by cases F <;> rfl
theorem area_get (F : List UInt8) (k i : Nat) (o : Bool) : (areaN F k o)[i]? = if i < szN k then F[beginN k o + i]? else none := by
  unfold areaN
  rw [List.getElem?_take]
  split
  · rw [List.getElem?_drop]
  · rfl
theorem sz_lt {k : Nat} (h : 9 ≤ k) (o : Bool) : beginN k o + szN k ≤ 64 * k ∧ 64 ≤ beginN k o := by
  unfold beginN szN
  cases o <;> simp <;> omega
/-- Two rows that agree up to there, and one byte 0 behind it. -/
theorem Tell.of {F G : List UInt8} {k : Nat} {o : Bool} {l : List RecN} (h : Tell (areaN F k o) l) (he : ∀ i, beginN k o ≤ i → i < beginN k o + (layL l).length → G[i]? = F[i]?) (hz : G[beginN k o + (layL l).length]? = some 0) : Tell (areaN G k o) l := by
  have h0 := h.zero
  rw [area_get] at h0
  have hlt : (layL l).length < szN k := by
    rcases Nat.lt_or_ge (layL l).length (szN k) with q | q
    · exact q
    · rw [if_neg (by omega)] at h0; cases h0
  refine ⟨h.ok, ?_, by rw [area_get, if_pos hlt]; exact hz⟩
  rw [← h.lay]
  have hl2 := congrArg List.length h.lay
  apply List.ext_getElem?
  intro i
  rw [List.getElem?_take, List.getElem?_take, area_get, area_get, h.lay]
  split
  · rw [if_pos (by omega), if_pos (by omega)]
    exact he _ (by omega) (by omega)
  · rfl
theorem putAt_get {A : List UInt8} {a : Nat} {s : List UInt8} (h : a + s.length ≤ A.length) (i : Nat) : (putAt A a s)[i]? = if a ≤ i ∧ i < a + s.length then s[i - a]? else A[i]? := by
  simp only [putAt, List.getElem?_append, List.getElem?_take, List.getElem?_drop, List.length_take, List.length_append]
  grind
/-- Bytes that are laid behind records. -/
theorem Tell.put {F : List UInt8} {k : Nat} {o : Bool} {l : List RecN} {r : RecN} (h : Tell (areaN F k o) l) (hr : okRec r) (hroom : (layL l).length + (frameL r).length + 1 ≤ szN k) (hF : beginN k o + szN k ≤ F.length) :
    Tell (areaN (putAt F (beginN k o + (layL l).length) (frameL r ++ [0])) k o) (l ++ [r]) := by
  have hlen : (layL (l ++ [r])).length = (layL l).length + (frameL r).length := by simp [layL]
  have hb : beginN k o + (layL l).length + (frameL r ++ [0]).length ≤ F.length := by rw [List.length_append, List.length_singleton]; omega
  refine ⟨fun q hq => ?_, ?_, ?_⟩
  · rcases List.mem_append.1 hq with hq | hq
    · exact h.ok q hq
    · rw [List.mem_singleton] at hq; rw [hq]; exact hr
  · have e : layL (l ++ [r]) = layL l ++ frameL r := by simp [layL]
    rw [hlen, e]
    apply List.ext_getElem?
    intro i
    rw [List.getElem?_take, area_get, putAt_get hb]
    have h2 := congrArg (fun x => x[i]?) h.lay
    simp only [List.getElem?_take, area_get] at h2
    by_cases h1 : i < (layL l).length
    · rw [if_pos (by omega), if_pos (by omega), if_neg (by omega), List.getElem?_append_left h1, ← h2, if_pos h1, if_pos (by omega)]
    · by_cases h3 : i < (layL l).length + (frameL r).length
      · rw [if_pos h3, if_pos (by omega), if_pos (by rw [List.length_append, List.length_singleton]; omega), List.getElem?_append_left (by omega), List.getElem?_append_right (by omega)]
        congr 1
        omega
      · rw [if_neg h3, List.getElem?_eq_none (by rw [List.length_append]; omega)]
  · rw [hlen, area_get, if_pos (by omega), putAt_get hb, if_pos (by rw [List.length_append, List.length_singleton]; omega), List.getElem?_append_right (by omega)]
    rw [show beginN k o + ((layL l).length + (frameL r).length) - (beginN k o + (layL l).length) - (frameL r).length = 0 by omega]
    rfl
/-- Bytes that are laid at an area's beginning. -/
theorem Tell.lay0 {F : List UInt8} {k : Nat} {o : Bool} {l : List RecN} (h : ∀ r ∈ l, okRec r) (hroom : (layL l).length + 1 ≤ szN k) (hF : beginN k o + szN k ≤ F.length) :
    Tell (areaN (putAt F (beginN k o) (layL l ++ [0])) k o) l := by
  have hb : beginN k o + (layL l ++ [0]).length ≤ F.length := by rw [List.length_append, List.length_singleton]; omega
  refine ⟨h, ?_, ?_⟩
  · apply List.ext_getElem?
    intro i
    rw [List.getElem?_take, area_get, putAt_get hb]
    by_cases h1 : i < (layL l).length
    · rw [if_pos h1, if_pos (by omega), if_pos (by rw [List.length_append, List.length_singleton]; omega), List.getElem?_append_left (by omega)]
      congr 1
      omega
    · rw [if_neg h1, List.getElem?_eq_none (by omega)]
  · rw [area_get, if_pos (by omega), putAt_get hb, if_pos (by rw [List.length_append, List.length_singleton]; omega), List.getElem?_append_right (by omega)]
    rw [show beginN k o + (layL l).length - beginN k o - (layL l).length = 0 by omega]
    rfl

theorem zero_flat (X : List (List UInt8)) (h : List UInt8) (t Y : List (List UInt8)) (o : Nat) (ho : o < h.length) : (X ++ (h.set o 0 :: t) ++ Y).flatten = ((X ++ (h :: t) ++ Y).flatten).set (X.flatten.length + o) 0 := by
  simp only [List.flatten_append, List.flatten_cons, List.append_assoc]
  rw [List.set_append_right _ _ (by omega), Nat.add_sub_cancel_left, List.set_append_left _ _ ho]
theorem take_flat {L : List (List UInt8)} (h : ∀ s ∈ L, s.length = 64) {k : Nat} (hk : k ≤ L.length) : (L.take k).flatten.length = 64 * k := by
  rw [flat_length fun t ht => h t (List.mem_of_mem_take ht), List.length_take]; omega

/-- What an append leaves. -/
theorem appD_law {d : DN} {o : Bool} {l : List RecN} {r : RecN} (h : DT d o l) (hd : d.down = false) (hr : okRec r) (hroom : (layL l).length + (frameL r).length + 1 ≤ szN d.L.length) :
    (appD d (beginN d.L.length o + (layL l).length) (frameL r)).1.L.length = d.L.length ∧ (appD d (beginN d.L.length o + (layL l).length) (frameL r)).1.n ≤ d.n + d.L.length + 1 ∧
    (((appD d (beginN d.L.length o + (layL l).length) (frameL r)).2 = true ∧ (appD d (beginN d.L.length o + (layL l).length) (frameL r)).1.down = false ∧ DT (appD d (beginN d.L.length o + (layL l).length) (frameL r)).1 o (l ++ [r]) ∧ (d.left = 0 → (appD d (beginN d.L.length o + (layL l).length) (frameL r)).1.left = 0)) ∨
     ((appD d (beginN d.L.length o + (layL l).length) (frameL r)).2 = false ∧ (appD d (beginN d.L.length o + (layL l).length) (frameL r)).1.down = true ∧ d.left ≠ 0 ∧ (DT (appD d (beginN d.L.length o + (layL l).length) (frameL r)).1 o l ∨ DT (appD d (beginN d.L.length o + (layL l).length) (frameL r)).1 o (l ++ [r])))) := by
  obtain ⟨hf, hn, hfl, ht⟩ := h
  obtain ⟨z1, z2⟩ := sz_lt hn o
  have hl := flat_length hf.sec
  obtain ⟨a, ha⟩ : ∃ a, beginN d.L.length o + (layL l).length = a := ⟨_, rfl⟩
  rw [ha]
  have hsl : (frameL r ++ [0]).length = (frameL r).length + 1 := by rw [List.length_append, List.length_singleton]
  obtain ⟨s1, s2, s3, s4⟩ := secs_flat hf.sec a (frameL r ++ [0]) (by omega) (by omega)
  have hput := ht.put hr hroom (by omega)
  rw [ha] at hput
  have hfa : 64 * firstN a ≤ a ∧ a - 64 * firstN a < 64 := by unfold firstN; omega
  unfold appD
  generalize hss : secsN d.L.flatten a (frameL r ++ [0]) = ss at *
  obtain ⟨x, ss, rfl⟩ : ∃ x t, ss = x :: t := by
    cases ss with
    | nil => rw [List.length_nil] at s2; unfold countN at s2; omega
    | cons x t => exact ⟨x, t, rfl⟩
  have hx := s3 x (by simp)
  have hzl : (zeroAt (a - 64 * firstN a) (x :: ss)).length = countN a (frameL r ++ [0]).length := by rw [← s2]; rfl
  have hz3 : ∀ t ∈ zeroAt (a - 64 * firstN a) (x :: ss), t.length = 64 := by
    intro t ht
    rcases List.mem_cons.1 ht with rfl | ht
    · rw [List.length_set]; exact hx
    · exact s3 t (by simp [ht])
  obtain ⟨p1, p2, p3, p4⟩ := puts_torn (zeroAt (a - 64 * firstN a) (x :: ss)) (i := firstN a) hf hd (by omega) hz3
  have hB1 : (d.L.take (firstN a) ++ zeroAt (a - 64 * firstN a) (x :: ss) ++ d.L.drop (firstN a + (zeroAt (a - 64 * firstN a) (x :: ss)).length)).flatten = (putAt d.L.flatten a (frameL r ++ [0])).set a 0 := by
    rw [hzl, ← s1]
    show (_ ++ (x.set _ 0 :: ss) ++ _).flatten = _
    rw [zero_flat _ _ _ _ _ (by omega), take_flat hf.sec (by omega)]
    congr 1
    omega
  have hz0 : d.L.flatten[a]? = some 0 := by
    have := ht.zero
    rw [area_get, ha] at this
    split at this
    · exact this
    · cases this
  generalize hP : d.puts (firstN a) (zeroAt (a - 64 * firstN a) (x :: ss)) = P at *
  have hbl : a + (frameL r ++ [0]).length ≤ d.L.flatten.length := by omega
  have hpl : (putAt d.L.flatten a (frameL r ++ [0])).length = d.L.flatten.length := putAt_length hbl
  have hcount : (zeroAt (a - 64 * firstN a) (x :: ss)).length ≤ d.L.length := by omega
  -- what has the old records
  have old : ∀ D : DN, D.Fit → D.L.length = d.L.length → (∀ i, i < a → D.L.flatten[i]? = d.L.flatten[i]?) → D.L.flatten[a]? = some 0 → DT D o l := by
    intro D q1 q2 q3 q4
    refine ⟨q1, by omega, ?_, ?_⟩
    · rw [← hfl, head_get, head_get, q3 0 (by omega)]
    · rw [q2]
      exact ht.of (fun i h1 h2 => q3 i (by omega)) (by rw [ha]; exact q4)
  have new : ∀ D : DN, D.Fit → D.L.length = d.L.length → D.L.flatten = putAt d.L.flatten a (frameL r ++ [0]) → DT D o (l ++ [r]) := by
    intro D q1 q2 q3
    refine ⟨q1, by omega, ?_, ?_⟩
    · rw [← hfl, head_get, head_get, q3, putAt_get hbl, if_neg (by omega)]
    · rw [q2, q3]; exact hput
  rcases p4 with ⟨b1, b2, b3, b4⟩ | ⟨b1, b2, b3, k, b4⟩
  · rw [b1, if_pos rfl]
    rw [show ([] : List UInt8) = [] from rfl, List.headD_cons]
    have hi : firstN a < P.1.L.length := by omega
    obtain ⟨w1, w2, w3, w4⟩ := write_torn p1 b2 hi hx
    have hset : P.1.L.set (firstN a) x = d.L.take (firstN a) ++ (x :: ss) ++ d.L.drop (firstN a + countN a (frameL r ++ [0]).length) := by
      rw [b3, hzl]
      show List.set (_ ++ (x.set _ 0 :: ss) ++ _) _ _ = _
      rw [List.append_assoc, List.set_append_right _ _ (by rw [List.length_take]; omega), List.length_take, Nat.min_eq_left (by omega), Nat.sub_self, List.append_assoc]
      rfl
    have hflat1 : P.1.L.flatten = (putAt d.L.flatten a (frameL r ++ [0])).set a 0 := by rw [b3, hB1]
    have hflat2 : (P.1.L.set (firstN a) x).flatten = putAt d.L.flatten a (frameL r ++ [0]) := by rw [hset, s1]
    refine ⟨by rw [w2, p2], by rw [w3]; omega, ?_⟩
    rcases w4 with ⟨c1, c2, c3, c4⟩ | ⟨c1, c2, c3, c, c4, c5⟩
    · refine .inl ⟨by rw [c1]; rfl, c2, new _ w1 (by rw [w2, p2]) (by rw [c3, hflat2]), fun e => c4 (b4 e)⟩
    · refine .inr ⟨by rw [c1]; rfl, c2, fun e => c3 (b4 e), ?_⟩
      have hfl5 := congrArg List.flatten c5
      rw [set_torn p1.sec hi hx c c4, hflat2, hflat1] at hfl5
      have hll : ((putAt d.L.flatten a (frameL r ++ [0])).set a 0).length = (putAt d.L.flatten a (frameL r ++ [0])).length := List.length_set
      by_cases hk : a < 64 * firstN a + c
      · refine .inr (new _ w1 (by rw [w2, p2]) ?_)
        rw [hfl5]
        apply List.ext_getElem?
        intro i
        rw [torn_get hll, List.getElem?_set]
        grind
      · refine .inl (old _ w1 (by rw [w2, p2]) (fun i hi => ?_) ?_)
        · rw [hfl5, torn_get hll, List.getElem?_set, putAt_get hbl]
          grind
        · rw [hfl5, torn_get hll, List.getElem?_set, if_neg (by omega), if_pos rfl, if_pos (by omega)]
  · rw [b1, if_neg (by decide)]
    refine ⟨p2, by dsimp only; omega, .inr ⟨rfl, b2, b3, .inl (old _ p1 p2 (fun i hi => ?_) ?_)⟩⟩
    · dsimp only
      rw [b4, hB1, torn_get (by rw [List.length_set, hpl]), List.getElem?_set, putAt_get hbl]
      grind
    · dsimp only
      rw [b4, hB1, torn_get (by rw [List.length_set, hpl])]
      split
      · rw [List.getElem?_set, if_pos rfl, if_pos (by omega)]
      · exact hz0

/-- What a snapshot leaves. -/
theorem compD_law {d : DN} {o : Bool} {l m : List RecN} (h : DT d o l) (hd : d.down = false) (hm : ∀ r ∈ m, okRec r) (hroom : (layL m).length + 1 ≤ szN d.L.length) :
    (compD d o (layL m)).1.L.length = d.L.length ∧ (compD d o (layL m)).1.n ≤ d.n + d.L.length + 1 ∧
    (((compD d o (layL m)).2 = true ∧ (compD d o (layL m)).1.down = false ∧ DT (compD d o (layL m)).1 (!o) m ∧ (d.left = 0 → (compD d o (layL m)).1.left = 0)) ∨
     ((compD d o (layL m)).2 = false ∧ (compD d o (layL m)).1.down = true ∧ d.left ≠ 0 ∧ (DT (compD d o (layL m)).1 o l ∨ DT (compD d o (layL m)).1 (!o) m))) := by
  obtain ⟨hf, hn, hfl, ht⟩ := h
  obtain ⟨z1, z2⟩ := sz_lt hn (!o)
  obtain ⟨z3, z4⟩ := sz_lt hn o
  have hapart : beginN d.L.length o + szN d.L.length ≤ beginN d.L.length (!o) ∨ beginN d.L.length (!o) + szN d.L.length ≤ beginN d.L.length o := by
    unfold beginN
    cases o <;> simp
  have hl := flat_length hf.sec
  have hsl : (layL m ++ [0]).length = (layL m).length + 1 := by rw [List.length_append, List.length_singleton]
  obtain ⟨b, hb⟩ : ∃ b, beginN d.L.length (!o) = b := ⟨_, rfl⟩
  have hlay := Tell.lay0 (F := d.L.flatten) (k := d.L.length) (o := !o) hm hroom (by omega)
  unfold compD
  rw [hb] at hlay z1 z2 hapart ⊢
  obtain ⟨s1, s2, s3, s4⟩ := secs_flat hf.sec b (layL m ++ [0]) (by omega) (by omega)
  generalize hss : secsN d.L.flatten b (layL m ++ [0]) = ss at *
  obtain ⟨p1, p2, p3, p4⟩ := puts_torn ss (i := firstN b) hf hd (by omega) s3
  rw [s2, s1] at p4
  generalize hP : d.puts (firstN b) ss = P at *
  have hbl : b + (layL m ++ [0]).length ≤ d.L.flatten.length := by omega
  have hpl : (putAt d.L.flatten b (layL m ++ [0])).length = d.L.flatten.length := putAt_length hbl
  have hold : ∀ F : List UInt8, (∀ i, (i < b ∨ b + (layL m).length < i) → F[i]? = d.L.flatten[i]?) → decide (F.headD 0 ≠ 0) = o ∧ Tell (areaN F d.L.length o) l := by
    intro F hF
    have hz := ht.zero
    rw [area_get] at hz
    split at hz
    · rename_i hlt
      refine ⟨by rw [← hfl, head_get, head_get, hF 0 (by omega)], ht.of (fun i h1 h2 => hF i (by omega)) ?_⟩
      rw [hF _ (by omega)]
      exact hz
    · cases hz
  rcases p4 with ⟨b1, b2, b3, b4⟩ | ⟨b1, b2, b3, k, b4⟩
  · rw [b1, if_pos rfl]
    have hfl2 : P.1.L.flatten = putAt d.L.flatten b (layL m ++ [0]) := by rw [b3, s1]
    have hpos : 0 < P.1.L.length := by omega
    obtain ⟨x, t, hxt⟩ : ∃ x t, P.1.L = x :: t := by
      cases hh : P.1.L with
      | nil => rw [hh] at hpos; exact absurd hpos (Nat.lt_irrefl 0)
      | cons x t => exact ⟨x, t, rfl⟩
    have hx64 := p1.sec x (by rw [hxt]; simp)
    have hhead : headN P.1 (!o) = (if (!o) = true then 1 else 0) :: x.drop 1 := by rw [headN, hxt]; rfl
    have hh64 : (headN P.1 (!o)).length = 64 := by rw [hhead, List.length_cons, List.length_drop]; omega
    have hw := write_torn p1 b2 (i := 0) hpos hh64
    rw [Int.natCast_zero] at hw
    obtain ⟨w1, w2, w3, w4⟩ := hw
    have hset : (P.1.L.set 0 (headN P.1 (!o))).flatten = P.1.L.flatten.set 0 (if (!o) = true then 1 else 0) := by
      rw [hxt, List.set_cons_zero, List.flatten_cons, List.flatten_cons, hhead]
      cases x with
      | nil => simp at hx64
      | cons y x => rfl
    have hnew : ∀ D : DN, D.Fit → D.L.length = d.L.length → D.L.flatten = P.1.L.flatten.set 0 (if (!o) = true then 1 else 0) → DT D (!o) m := by
      intro D q1 q2 q3
      refine ⟨q1, by omega, ?_, ?_⟩
      · rw [q3, head_get, List.getElem?_set, if_pos rfl, if_pos (by rw [flat_length p1.sec]; omega)]
        cases o <;> decide
      · rw [q2, q3, hfl2]
        have hz := hlay.zero
        refine hlay.of (fun i h1 h2 => ?_) ?_
        · rw [List.getElem?_set, if_neg (by omega)]
        · rw [List.getElem?_set, if_neg (by omega), ← hb]
          rw [area_get, hb] at hz
          rw [hb]
          split at hz
          · exact hz
          · cases hz
    refine ⟨by rw [w2, p2], by dsimp only; rw [w3]; omega, ?_⟩
    rcases w4 with ⟨c1, c2, c3, c4⟩ | ⟨c1, c2, c3, c, c4, c5⟩
    · refine .inl ⟨by rw [c1]; rfl, c2, hnew _ w1 (by rw [w2, p2]) (by rw [c3, hset]), fun e => c4 (b4 e)⟩
    · refine .inr ⟨by rw [c1]; rfl, c2, fun e => c3 (b4 e), ?_⟩
      have hfl5 := congrArg List.flatten c5
      rw [set_torn p1.sec hpos hh64 c c4, hset] at hfl5
      have hll : P.1.L.flatten.length = (P.1.L.flatten.set 0 (if (!o) = true then 1 else 0)).length := List.length_set.symm
      by_cases hk : c = 0
      · subst hk
        rw [Nat.mul_zero, Nat.add_zero, torn_zero, hfl2] at hfl5
        obtain ⟨q1, q2⟩ := hold _ (fun i hi => by rw [putAt_get hbl, if_neg (by omega)])
        exact .inl ⟨w1, by rw [w2, p2]; exact hn, by rw [hfl5]; exact q1, by rw [w2, p2, hfl5]; exact q2⟩
      · refine .inr (hnew _ w1 (by rw [w2, p2]) ?_)
        rw [hfl5]
        apply List.ext_getElem?
        intro i
        rw [torn_get hll, List.getElem?_set]
        grind
  · rw [b1, if_neg (by decide)]
    refine ⟨p2, by dsimp only; omega, .inr ⟨rfl, b2, b3, .inl ?_⟩⟩
    obtain ⟨q1, q2⟩ := hold P.1.L.flatten (fun i hi => by
      rw [b4, torn_get hpl.symm, putAt_get hbl]
      grind)
    exact ⟨p1, by dsimp only; omega, q1, by dsimp only; rw [p2]; exact q2⟩

/-- What a disk tells: a state. -/
def DS (d : DN) (s : SN) : Prop := ∃ o l, DT d o l ∧ SN.nil.tells (l.map RecN.i) = s
/-- A queue that is up. -/
structure QI (q : QN) : Prop where
  up : q.down = false
  dup : q.d.down = false
  log : ∃ l, DT q.d q.other l ∧ q.tail = (layL l).length ∧ SN.nil.tells (l.map RecN.i) = q.s
  ok : q.s.Ok
theorem QI.ds {q : QN} (h : QI q) : DS q.d q.s := by
  obtain ⟨l, h1, -, h3⟩ := h.log
  exact ⟨_, l, h1, h3⟩
theorem ok_num {r : RI} (h : r.ok = true) : okNum r.id = true := (rightV_iff.1 h).2.2.1
theorem tells_snoc (l : List RecN) (r : RI) (hr : r.ok = true) : SN.nil.tells ((l ++ [r.n]).map RecN.i) = (SN.nil.tells (l.map RecN.i)).tell r := by
  rw [List.map_append, tells_append, List.map_singleton, (ok_rec hr).2]
  rfl
/-- What a call leaves of a queue whose power may go. -/
def Went (q : QN) (s' : SN) (p : QN × Int) : Prop :=
  p.1.d.L.length = q.d.L.length ∧
  ((p.2 = 0 ∧ QI p.1 ∧ p.1.s = s' ∧ (q.d.left = 0 → p.1.d.left = 0)) ∨
   (p.2 = 180 ∧ p.1.down = true ∧ p.1.d.down = true ∧ q.d.left ≠ 0 ∧ p.1.s = q.s ∧ (DS p.1.d q.s ∨ DS p.1.d s')))
theorem app_law {q : QN} {r : RI} (h : QI q) (hr : r.ok = true) (hroom : q.tail + (14 + r.d.size) + 1 ≤ q.sz) : Went q (q.s.tell r) (q.app r) ∧ (q.app r).1.d.n ≤ q.d.n + q.d.L.length + 1 := by
  obtain ⟨hu, hdu, ⟨l, h1, h2, h3⟩, hok⟩ := h
  have hrn := (ok_rec hr).1
  have hfl : (frameL r.n).length = 14 + r.d.size := by
    rw [frameL_length]
    show 14 + r.d.data.toList.length = _
    rw [list_size]
  have hlaw := appD_law h1 hdu hrn (by rw [hfl, ← h2]; exact hroom)
  rw [← h2] at hlaw
  unfold QN.app QN.fin
  generalize hp : appD q.d (beginN q.d.L.length q.other + q.tail) (frameL r.n) = p at *
  obtain ⟨a1, a2, a3⟩ := hlaw
  rcases a3 with ⟨b1, b2, b3, b4⟩ | ⟨b1, b2, b3, b4⟩
  · rw [if_pos b1]
    refine ⟨⟨a1, .inl ⟨rfl, ⟨hu, b2, ⟨_, b3, ?_, ?_⟩, hok.tell (ok_num hr)⟩, rfl, b4⟩⟩, a2⟩
    · dsimp only
      rw [layL_snoc, List.length_append, hfl, h2]
    · dsimp only
      rw [tells_snoc l r hr, h3]
  · rw [if_neg (by rw [b1]; decide)]
    refine ⟨⟨a1, .inr ⟨rfl, rfl, b2, b3, rfl, ?_⟩⟩, a2⟩
    rcases b4 with b4 | b4
    · exact .inl ⟨_, _, b4, h3⟩
    · exact .inr ⟨_, _, b4, by rw [tells_snoc l r hr, h3]⟩
theorem snap_tells_n {s : SN} (h : s.Ok) : SN.nil.tells ((s.snap.map RI.n).map RecN.i) = s := by
  rw [List.map_map]
  have e : s.snap.map (RecN.i ∘ RI.n) = s.snap := by
    conv => rhs; rw [← List.map_id s.snap]
    exact List.map_congr_left fun x hx => (ok_rec (h.snap_ok x hx)).2
  rw [e]
  exact h.snap_tells
/-- A record logged: what a power loss leaves. -/
theorem log_law {q : QN} {r : RI} (h : QI q) (hr : r.ok = true) (hroom : lenR q.s.snap + (14 + r.d.size) + 1 ≤ q.sz) : Went q (q.s.tell r) (q.log r) ∧ (q.log r).1.d.n ≤ q.d.n + (2 * q.d.L.length + 2) := by
  unfold QN.log
  by_cases ht : q.tail + (14 + r.d.size) + 1 ≤ q.sz
  · rw [if_pos ht]
    obtain ⟨w1, w2⟩ := app_law h hr ht
    exact ⟨w1, by omega⟩
  · rw [if_neg ht, if_pos hroom]
    obtain ⟨hu, hdu, ⟨l, h1, h2, h3⟩, hok⟩ := h
    have hsn : ∀ r ∈ q.s.snap.map RI.n, okRec r := all_ok hok.snap_ok
    have hlaw := compD_law h1 hdu hsn (by rw [lay_lenR]; unfold QN.sz at hroom; omega)
    unfold QN.comp
    generalize hp : compD q.d q.other (layL (q.s.snap.map RI.n)) = p at *
    obtain ⟨a1, a2, a3⟩ := hlaw
    rcases a3 with ⟨b1, b2, b3, b4⟩ | ⟨b1, b2, b3, b4⟩
    · rw [if_pos b1]
      have hq : QI { q with d := p.1, other := !q.other, tail := lenR q.s.snap } := ⟨hu, b2, ⟨_, b3, (lay_lenR _).symm, snap_tells_n hok⟩, hok⟩
      have hsz : QN.sz { q with d := p.1, other := !q.other, tail := lenR q.s.snap } = q.sz := by unfold QN.sz; dsimp only; rw [a1]
      obtain ⟨w1, w2⟩ := app_law hq hr (by rw [hsz]; exact hroom)
      obtain ⟨v1, v2⟩ := w1
      dsimp only at v1 w2
      refine ⟨⟨by rw [v1, a1], ?_⟩, by omega⟩
      rcases v2 with ⟨c1, c2, c3, c4⟩ | ⟨c1, c2, c3, c4, c5, c6⟩
      · exact .inl ⟨c1, c2, c3, fun e => c4 (b4 e)⟩
      · exact .inr ⟨c1, c2, c3, fun e => c4 (b4 e), c5, c6⟩
    · rw [if_neg (by rw [b1]; decide)]
      refine ⟨⟨a1, .inr ⟨rfl, rfl, b2, b3, rfl, .inl ?_⟩⟩, by dsimp only; omega⟩
      rcases b4 with b4 | b4
      · exact ⟨_, _, b4, h3⟩
      · exact ⟨_, _, b4, snap_tells_n hok⟩

end Go.Proofs.YtmebjdbkngehiaaGreatDoor

namespace Go.Proofs.YtmebjdbkngehiaaGreatDoor

/-- How many bytes an area must have for what may still be asked. -/
def SN.need (s : SN) : Nat := lenR s.snap + 1 + s.owed
theorem lenR_append (l m : List RI) : lenR (l ++ m) = lenR l + lenR m := by simp [lenR]
theorem at_split {α : Type} (l : List α) {i : Nat} (hi : i < l.length) : l = l.take i ++ l[i] :: l.drop (i + 1) := by
  rw [← List.drop_eq_getElem_cons hi, List.take_append_drop]
theorem modify_split {α : Type} (f : α → α) (l : List α) {i : Nat} (hi : i < l.length) : l.modify i f = l.take i ++ f l[i] :: l.drop (i + 1) := by
  apply List.ext_getElem?
  intro j
  rw [List.getElem?_modify, List.getElem?_append, List.length_take, Nat.min_eq_left (by omega)]
  by_cases h1 : j < i
  · rw [if_pos h1, List.getElem?_take, if_pos h1]
    simp only [if_neg (show ¬ i = j by omega)]
    cases l[j]? <;> rfl
  · rw [if_neg h1]
    by_cases h2 : i = j
    · subst h2
      rw [Nat.sub_self, List.getElem?_cons_zero, List.getElem?_eq_getElem hi]
      simp
    · obtain ⟨k, hk⟩ : ∃ k, j - i = k + 1 := ⟨j - i - 1, by omega⟩
      rw [hk, List.getElem?_cons_succ, List.getElem?_drop, show i + 1 + k = j by omega]
      simp only [if_neg h2]
      cases l[j]? <;> rfl
theorem find_mid {L1 L2 : List EI} {e : EI} {id : Int} (h : e.id ≠ id) : (L1 ++ e :: L2).find? (fun x => decide (x.id = id)) = (L1 ++ L2).find? (fun x => decide (x.id = id)) := by
  simp [List.find?_append, h]
theorem recs_eq {s t : SN} {k : KI} (h : s.L.find? (fun x => decide (x.id = k.id)) = t.L.find? (fun x => decide (x.id = k.id))) : s.recs k = t.recs k := by
  unfold SN.recs
  rw [h]
theorem flat_recs {s t : SN} {K : List KI} (h : ∀ k ∈ K, s.L.find? (fun x => decide (x.id = k.id)) = t.L.find? (fun x => decide (x.id = k.id))) : K.flatMap s.recs = K.flatMap t.recs := by
  induction K with
  | nil => rfl
  | cons k K ih => rw [List.flatMap_cons, List.flatMap_cons, recs_eq (h k (by simp)), ih fun x hx => h x (by simp [hx])]
/-- One entry in the midst of a state. -/
theorem SN.Ok.mid {s : SN} (h : s.Ok) {i : Nat} (hi : i < s.L.length) : ∃ K1 K2, s.K = K1 ++ s.L[i].k :: K2 ∧ (∀ k ∈ K1 ++ K2, k.id ≠ s.L[i].id) ∧ s.L.find? (fun x => decide (x.id = s.L[i].id)) = some s.L[i] := by
  have hin : s.L[i].k ∈ s.K := h.sub.subset (List.mem_map_of_mem (List.getElem_mem hi))
  obtain ⟨K1, K2, hK⟩ := List.append_of_mem hin
  refine ⟨K1, K2, hK, fun k hk e => ?_, ?_⟩
  · have hn := h.ids
    rw [hK, List.map_append, List.map_cons, List.nodup_append, List.nodup_cons] at hn
    obtain ⟨-, ⟨n1, -⟩, n2⟩ := hn
    rcases List.mem_append.1 hk with hk | hk
    · exact n2 k.id (List.mem_map_of_mem hk) s.L[i].k.id (by simp) e
    · exact n1 (by rw [show s.L[i].k.id = s.L[i].id from rfl, ← e]; exact List.mem_map_of_mem hk)
  · have hp := h.place_at hi
    obtain ⟨_, _, h3⟩ := placeL_some hp
    have hs := at_split s.L hi
    have h4 : ∀ e ∈ s.L.take i, e.id ≠ s.L[i].id := by
      intro e he
      obtain ⟨j, hj, rfl⟩ := List.getElem_of_mem he
      rw [List.length_take] at hj
      rw [List.getElem_take]
      exact h3 j (by omega)
    clear h3 hp hK hin
    generalize s.L[i] = e at *
    rw [hs, List.find?_append, (find_none (l := s.L.take i)).2 h4, Option.none_or, List.find?_cons_of_pos (by simp)]
theorem recs_some {s : SN} {k : KI} {e : EI} (h : s.L.find? (fun x => decide (x.id = k.id)) = some e) : s.recs k = e.ri :: if e.sent then [⟨2, k.id, ByteArray.empty⟩] else [] := by
  unfold SN.recs
  rw [h]
theorem recs_none {s : SN} {k : KI} (h : s.L.find? (fun x => decide (x.id = k.id)) = none) : s.recs k = [⟨5, k.id, k.text⟩] := by
  unfold SN.recs
  rw [h]
theorem empty_size : ByteArray.empty.size = 0 := rfl
theorem need_sent {s : SN} (h : s.Ok) {id : Int} {i : Nat} (hp : s.place id = some i) : (s.tell ⟨2, id, ByteArray.empty⟩).need ≤ s.need := by
  obtain ⟨hi, hid, -⟩ := placeL_some hp
  obtain ⟨K1, K2, hK, hne, hf⟩ := h.mid hi
  rw [tell_sent (r := ⟨2, id, ByteArray.empty⟩) rfl hp]
  have hm := modify_split EI.send s.L hi
  have hs := at_split s.L hi
  generalize s.L[i] = e at *
  generalize s.L.take i = L1 at *
  generalize s.L.drop (i + 1) = L2 at *
  have h1 : ∀ k ∈ K1 ++ K2, (SN.mk (s.L.modify i EI.send) s.K).L.find? (fun x => decide (x.id = k.id)) = s.L.find? (fun x => decide (x.id = k.id)) := by
    intro k hk
    have hk2 := hne k hk
    show (s.L.modify i EI.send).find? _ = _
    rw [hm, hs, find_mid (show e.send.id ≠ k.id from fun q => hk2 q.symm), find_mid (fun q => hk2 q.symm)]
  have h2 : (SN.mk (s.L.modify i EI.send) s.K).L.find? (fun x => decide (x.id = e.k.id)) = some e.send := by
    show (s.L.modify i EI.send).find? _ = _
    have hl1 : L1.find? (fun x => decide (x.id = e.id)) = none := by
      rw [hs, List.find?_append] at hf
      cases hq : L1.find? (fun x => decide (x.id = e.id)) with
      | none => rfl
      | some y =>
        exfalso
        have hn := h.eids
        rw [hs, List.map_append, List.map_cons, List.nodup_append] at hn
        exact hn.2.2 y.id (List.mem_map_of_mem (List.mem_of_find?_eq_some hq)) e.id (by simp) (by simpa using List.find?_some hq)
    rw [hm, List.find?_append, show e.k.id = e.id from rfl, hl1, Option.none_or, List.find?_cons_of_pos (by simp [EI.send])]
  rw [hK] at h1 h2
  unfold SN.need SN.snap SN.owed
  dsimp only
  rw [hK, List.flatMap_append, List.flatMap_cons, List.flatMap_append, List.flatMap_cons, flat_recs (fun k hk => h1 k (List.mem_append_left _ hk)), flat_recs (fun k hk => h1 k (List.mem_append_right _ hk)), recs_some h2, recs_some (k := e.k) hf, hm]
  conv => rhs; rw [hs]
  simp only [lenR_append, List.map_append, List.map_cons, List.sum_append, List.sum_cons]
  have c1 : (e.send).cost = 14 := rfl
  have c2 : (e.send).ri = e.ri := rfl
  rw [c1, c2]
  cases hes : e.sent with
  | true =>
    have c3 : e.cost = 14 := by rw [EI.cost, hes]; rfl
    rw [c3, show (e.send).sent = true from rfl]
    omega
  | false =>
    have c3 : e.cost = 28 := by rw [EI.cost, hes]; rfl
    rw [c3, show (e.send).sent = true from rfl, if_pos rfl, if_neg (by decide)]
    simp only [lenR, List.map_cons, List.map_nil, List.sum_cons, List.sum_nil, empty_size]
    omega
theorem need_end {s : SN} (h : s.Ok) {r : RI} (hr : r.op = 3 ∨ r.op = 4) {i : Nat} (hp : s.place r.id = some i) : (s.tell r).need + 14 ≤ s.need := by
  obtain ⟨hi, hid, -⟩ := placeL_some hp
  obtain ⟨K1, K2, hK, hne, hf⟩ := h.mid hi
  rw [tell_end hr hp]
  have hs := at_split s.L hi
  have hn := h.eids
  have hrt := h.ents _ (List.getElem_mem hi)
  generalize s.L[i] = e at *
  generalize s.L.take i = L1 at *
  generalize s.L.drop (i + 1) = L2 at *
  have h1 : ∀ k ∈ K1 ++ K2, (SN.mk (L1 ++ L2) s.K).L.find? (fun x => decide (x.id = k.id)) = s.L.find? (fun x => decide (x.id = k.id)) := by
    intro k hk
    have hk2 := hne k hk
    show (L1 ++ L2).find? _ = _
    rw [hs, find_mid (fun q => hk2 q.symm)]
  have h2 : (SN.mk (L1 ++ L2) s.K).L.find? (fun x => decide (x.id = e.k.id)) = none := by
    show (L1 ++ L2).find? (fun x => decide (x.id = e.id)) = none
    rw [find_none]
    rw [hs, List.map_append, List.map_cons, List.nodup_append, List.nodup_cons] at hn
    intro x hx q
    rcases List.mem_append.1 hx with hx | hx
    · exact hn.2.2 x.id (List.mem_map_of_mem hx) e.id (by simp) q
    · exact hn.2.1.1 (by rw [← q]; exact List.mem_map_of_mem hx)
  rw [hK] at h1 h2
  unfold SN.need SN.snap SN.owed
  dsimp only
  rw [hK, List.flatMap_append, List.flatMap_cons, List.flatMap_append, List.flatMap_cons, flat_recs (fun k hk => h1 k (List.mem_append_left _ hk)), flat_recs (fun k hk => h1 k (List.mem_append_right _ hk)), recs_none h2, recs_some (k := e.k) hf]
  conv => rhs; rw [hs]
  simp only [lenR_append, List.map_append, List.map_cons, List.sum_append, List.sum_cons]
  have c1 : 14 ≤ e.cost := by unfold EI.cost; split <;> omega
  have c2 := rec_size e
  have c3 : lenR [(⟨5, e.k.id, e.k.text⟩ : RI)] = 14 + e.key.size := by simp [lenR, EI.k]
  have c4 : 14 + (8 + e.key.size + e.data.size) ≤ lenR (e.ri :: if e.sent = true then [⟨2, e.k.id, ByteArray.empty⟩] else []) := by
    rw [← c2]
    simp only [lenR, List.map_cons, List.sum_cons]
    omega
  omega
theorem put_tell {s : SN} {x : EI} (hx : x.right = true) (hs : x.sent = false) (hf : s.free x.id x.key = true) : s.tell x.ri = ⟨s.L ++ [x], s.K ++ [x.k]⟩ := by
  have he : ({ x with sent := false } : EI) = x := by obtain ⟨a, b, c, d, e, f, g⟩ := x; dsimp only at hs; subst hs; rfl
  rw [tell_put rfl, rough_rec hx, he, if_pos ⟨isE_rec hx, hf⟩]
theorem put_snap {s : SN} (h : s.Ok) {x : EI} (hs : x.sent = false) (hf : s.free x.id x.key = true) : (SN.mk (s.L ++ [x]) (s.K ++ [x.k])).snap = s.snap ++ [x.ri] := by
  obtain ⟨f1, f2, f3⟩ := SN.free_iff.1 hf
  unfold SN.snap
  dsimp only
  rw [List.flatMap_append]
  congr 1
  · refine flat_recs fun k hk => ?_
    show (s.L ++ [x]).find? _ = _
    rw [List.find?_append, List.find?_cons_of_neg (by have := f1 k hk; simp; exact fun e => this e.symm)]
    simp
  · rw [List.flatMap_cons, List.flatMap_nil, List.append_nil, recs_some (e := x), hs]
    · rfl
    · show (s.L ++ [x]).find? (fun y => decide (y.id = x.id)) = some x
      rw [List.find?_append, find_none.2, Option.none_or, List.find?_cons_of_pos (by simp)]
      intro e he q
      exact f1 e.k (h.sub.subset (List.mem_map_of_mem he)) q
theorem put_need {s : SN} (h : s.Ok) {x : EI} (hs : x.sent = false) (hf : s.free x.id x.key = true) : (SN.mk (s.L ++ [x]) (s.K ++ [x.k])).need = lenR s.snap + (14 + x.ri.d.size) + 1 + (s.owed + 28) := by
  unfold SN.need
  rw [put_snap h hs hf, lenR_append]
  have : SN.owed ⟨s.L ++ [x], s.K ++ [x.k]⟩ = s.owed + 28 := by
    unfold SN.owed
    simp only [List.map_append, List.sum_append, List.map_cons, List.map_nil, List.sum_cons, List.sum_nil]
    rw [EI.cost, hs]; rfl
  rw [this]
  simp [lenR]

end Go.Proofs.YtmebjdbkngehiaaGreatDoor
