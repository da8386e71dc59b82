/-
  A queue's state: entries, keys, what records tell, its snapshot, and more of the kind. Conditions: as the theorems' own hypotheses say.
-/
import Derived.Test.YtmebjdbkngehiaaGreatDoorQgJ
import Derived.Test.YtmebjdbkngehiaaGreatDoorQgC
namespace Go.Proofs.YtmebjdbkngehiaaGreatDoor
variable {r : RI} {id : Int} {A B : List UInt8}
structure EI where
 id : Int
 side : Int
 key : ByteArray
 data : ByteArray
 due : Int
 cust : Bool
 sent : Bool
def EI.nil : EI := ⟨0, 0, ByteArray.empty, ByteArray.empty, 0, false, false⟩
structure KI where
 id : Int
 text : ByteArray
def EI.k (e : EI) : KI := ⟨e.id, e.key⟩
structure SN where
 L : List EI
 K : List KI
def SN.nil : SN := ⟨[], []⟩
def EI.right (e : EI) : Bool := decide (1 ≤ e.id) && okNum e.id && (decide (e.side = 6) || decide (e.side = 7)) && decide (1 ≤ e.key.size) && decide (e.key.size ≤ 120) && decide (1 ≤ e.data.size) && decide (e.data.size ≤ 1500) && okNum e.due
theorem EI.right_iff {e : EI} : e.right = true ↔ 1 ≤ e.id ∧ okNum e.id = true ∧ (e.side = 6 ∨ e.side = 7) ∧ 1 ≤ e.key.size ∧ e.key.size ≤ 120 ∧ 1 ≤ e.data.size ∧ e.data.size ≤ 1500 ∧ okNum e.due = true := by
 simp [EI.right, and_assoc]
def EI.side8 (e : EI) : UInt8 := UInt8.ofNat (e.side.toNat + if e.cust then 128 else 0)
def EI.body (e : EI) : List UInt8 := e.side8 :: (digits 6 e.due.toNat ++ (UInt8.ofNat e.key.size :: (e.key.data.toList ++ e.data.data.toList)))
def EI.ri (e : EI) : RI := ⟨1, e.id, ⟨e.body.toArray⟩⟩
theorem EI.body_length (e : EI) : e.body.length = 8 + e.key.size + e.data.size := by
 simp only [EI.body, List.length_cons, List.length_append, digits_length, list_size]
 omega
def roughE (r : RI) : EI := if r.d.size < 8 then EI.nil else
 ⟨r.id, ((r.d.data.toList.getD 0 0).toNat % 128 : Nat), (cutV r.d 8 ((r.d.data.toList.getD 7 0).toNat : Nat)).1, (restV r.d (8 + ((r.d.data.toList.getD 7 0).toNat : Nat))).1, (takeV r.d 1 6).1, decide (128 ≤ (r.d.data.toList.getD 0 0).toNat), false⟩
def isE (r : RI) : Bool := (roughE r).right && (decide ((roughE r).ri.op = r.op) && decide ((roughE r).ri.id = r.id) && decide ((roughE r).ri.d = r.d))
theorem isE_iff : isE r = true ↔ (roughE r).right = true ∧ (roughE r).ri = r := by
 unfold isE
 generalize roughE r = e
 obtain ⟨o, i, d⟩ := r
 rw [Bool.and_eq_true, Bool.and_eq_true, Bool.and_eq_true, decide_eq_true_eq, decide_eq_true_eq, decide_eq_true_eq]
 unfold EI.ri
 rw [RI.mk.injEq, and_assoc]
def SN.free (s : SN) (id : Int) (t : ByteArray) : Bool := !(s.K.any fun k => decide (k.id = id)) && !(s.K.any fun k => decide (k.text = t)) && decide (s.K.length < 60)
theorem SN.free_iff {s : SN} {t : ByteArray} : s.free id t = true ↔ (∀ k ∈ s.K, k.id ≠ id) ∧ (∀ k ∈ s.K, k.text ≠ t) ∧ s.K.length < 60 := by
 simp only [SN.free, Bool.and_eq_true, Bool.not_eq_true', List.any_eq_false, decide_eq_true_eq, and_assoc]
def SN.knows (s : SN) (t : ByteArray) : Bool := s.K.any fun k => decide (k.text = t)
def placeL : List EI → Int → Option Nat
 | [], _ => none
 | e :: l, id => if e.id = id then some 0 else (placeL l id).map (· + 1)
def SN.place (s : SN) (id : Int) : Option Nat := placeL s.L id
theorem placeL_none {l : List EI} : placeL l id = none ↔ ∀ e ∈ l, e.id ≠ id := by
 induction l with
 | nil => simp [placeL]
 | cons e l ih =>
  rw [placeL]
  by_cases h : e.id = id
  ·simp [h]
  ·rw [if_neg h, Option.map_eq_none_iff, ih]; simp [h]
theorem placeL_some {l : List EI} {i : Nat} (h : placeL l id = some i) : ∃ hi : i < l.length, l[i].id = id ∧ ∀ j, (hj : j < i) → l[j].id ≠ id := by
 induction l generalizing i with
 | nil => cases h
 | cons e l ih =>
  rw [placeL] at h
  by_cases he : e.id = id
  ·rw [if_pos he] at h
   injection h with h
   subst h
   exact ⟨by simp, he, fun j hj => absurd hj (Nat.not_lt_zero _)⟩
  ·rw [if_neg he] at h
   cases hp : placeL l id with
   | none => rw [hp] at h; cases h
   | some k =>
    rw [hp] at h
    injection h with h
    subst h
    obtain ⟨hk, h1, h2⟩ := ih hp
    refine ⟨by simpa using hk, by simpa using h1, fun j hj => ?_⟩
    cases j with
    | zero => simpa using he
    | succ j =>
     dsimp only at hj
     simpa using h2 j (by omega)
def EI.send (e : EI) : EI := { e with sent := true }
def SN.tell (s : SN) (r : RI) : SN :=
 if r.op = 1 then (if isE r = true ∧ s.free (roughE r).id (roughE r).key = true then ⟨s.L ++ [roughE r], s.K ++ [(roughE r).k]⟩ else s)
 else if r.op = 5 then (if 1 ≤ r.id ∧ 1 ≤ r.d.size ∧ r.d.size ≤ 120 ∧ s.free r.id r.d = true then ⟨s.L, s.K ++ [⟨r.id, r.d⟩]⟩ else s)
 else match s.place r.id with
  | none => s
  | some i => if r.op = 2 then ⟨s.L.modify i EI.send, s.K⟩ else if r.op = 3 ∨ r.op = 4 then ⟨s.L.take i ++ s.L.drop (i + 1), s.K⟩ else s
def SN.next (s : SN) : Int := s.K.foldl (fun n k => max n k.id) 0 + 1
def SN.recs (s : SN) (k : KI) : List RI := match s.L.find? fun e => decide (e.id = k.id) with
 | none => [⟨5, k.id, k.text⟩]
 | some e => e.ri :: if e.sent then [⟨2, k.id, ByteArray.empty⟩] else []
def SN.snap (s : SN) : List RI := s.K.flatMap s.recs
def EI.cost (e : EI) : Nat := if e.sent then 14 else 28
def SN.owed (s : SN) : Nat := (s.L.map EI.cost).sum
def lenR (l : List RI) : Nat := (l.map fun r => 14 + r.d.size).sum
def EI.lost (e : EI) : Bool := e.sent && !e.cust
structure SN.Ok (s : SN) : Prop where
 keys : ∀ k ∈ s.K, 1 ≤ k.id ∧ k.id ≤ 281474976710655 ∧ 1 ≤ k.text.size ∧ k.text.size ≤ 120
 ids : (s.K.map KI.id).Nodup
 texts : (s.K.map KI.text).Nodup
 most : s.K.length ≤ 60
 ents : ∀ e ∈ s.L, e.right = true
 sub : (s.L.map EI.k).Sublist s.K
theorem SN.nil_ok : SN.nil.Ok := ⟨by simp [SN.nil], by simp [SN.nil], by simp [SN.nil], by simp [SN.nil], by simp [SN.nil], by simp [SN.nil]⟩
theorem SN.Ok.len {s : SN} (h : s.Ok) : s.L.length ≤ 60 := by
 have := h.sub.length_le
 rw [List.length_map] at this
 exact Nat.le_trans this h.most
theorem send_k (e : EI) : e.send.k = e.k := rfl
theorem send_right (e : EI) : e.send.right = e.right := rfl
theorem modify_map (l : List EI) (i : Nat) : (l.modify i EI.send).map EI.k = l.map EI.k := by
 apply List.ext_getElem?
 intro j
 simp only [List.getElem?_map, List.getElem?_modify]
 by_cases h : i = j
 ·simp only [if_pos h]; cases l[j]? <;> simp [send_k]
 ·simp only [if_neg h]; cases l[j]? <;> simp
theorem drop_sub (l : List EI) (i : Nat) : (l.take i ++ l.drop (i + 1)).Sublist l := by
 conv => rhs; rw [← List.take_append_drop i l]
 refine List.Sublist.append (List.Sublist.refl _) ?_
 rw [← List.drop_drop]
 exact List.drop_sublist _ _
theorem nodup_snoc {α : Type} {l : List α} {a : α} (h : l.Nodup) (ha : a ∉ l) : (l ++ [a]).Nodup := by
 rw [List.nodup_append]
 refine ⟨h, by simp, fun x hx y hy => ?_⟩
 rw [List.mem_singleton] at hy
 subst hy
 intro e; subst e
 exact ha hx
theorem SN.Ok.tell {s : SN} (h : s.Ok) {r : RI} (hr : okNum r.id = true) : (s.tell r).Ok := by
 obtain ⟨-, hr2⟩ := okNum_iff.1 hr
 unfold SN.tell
 split
 ·split
  ·rename_i hc
   obtain ⟨h1, h2⟩ := isE_iff.1 hc.1
   obtain ⟨f1, f2, f3⟩ := SN.free_iff.1 hc.2
   obtain ⟨e1, e2, e3, e4, e5, e6⟩ := EI.right_iff.1 h1
   obtain ⟨-, e7⟩ := okNum_iff.1 e2
   refine ⟨fun k hk => ?_, ?_, ?_, ?_, fun e he => ?_, ?_⟩
   ·rcases List.mem_append.1 hk with hk | hk
    ·exact h.keys k hk
    ·rw [List.mem_singleton] at hk
     subst hk
     exact ⟨e1, e7, e4, e5⟩
   ·rw [List.map_append]
    refine nodup_snoc h.ids fun hm => ?_
    obtain ⟨k, hk, he⟩ := List.mem_map.1 hm
    exact f1 k hk he
   ·rw [List.map_append]
    refine nodup_snoc h.texts fun hm => ?_
    obtain ⟨k, hk, he⟩ := List.mem_map.1 hm
    exact f2 k hk he
   ·rw [List.length_append, List.length_singleton]; exact f3
   ·rcases List.mem_append.1 he with he | he
    ·exact h.ents e he
    ·rw [List.mem_singleton] at he
     subst he
     exact h1
   ·rw [List.map_append]
    exact h.sub.append (List.Sublist.refl _)
  ·exact h
 ·split
  ·split
   ·rename_i hc
    obtain ⟨c1, c2, c3, c4⟩ := hc
    obtain ⟨f1, f2, f3⟩ := SN.free_iff.1 c4
    refine ⟨fun k hk => ?_, ?_, ?_, ?_, h.ents, ?_⟩
    ·rcases List.mem_append.1 hk with hk | hk
     ·exact h.keys k hk
     ·rw [List.mem_singleton] at hk
      subst hk
      exact ⟨c1, hr2, c2, c3⟩
    ·rw [List.map_append]
     refine nodup_snoc h.ids fun hm => ?_
     obtain ⟨k, hk, he⟩ := List.mem_map.1 hm
     exact f1 k hk he
    ·rw [List.map_append]
     refine nodup_snoc h.texts fun hm => ?_
     obtain ⟨k, hk, he⟩ := List.mem_map.1 hm
     exact f2 k hk he
    ·rw [List.length_append, List.length_singleton]; exact f3
    ·exact h.sub.trans (List.sublist_append_left _ _)
   ·exact h
  ·split
   ·exact h
   ·rename_i i _
    split
    ·refine ⟨h.keys, h.ids, h.texts, h.most, fun e he => ?_, ?_⟩
     ·obtain ⟨j, hj, rfl⟩ := List.getElem_of_mem he
      rw [List.getElem_modify]
      rw [List.length_modify] at hj
      split
      ·rw [send_right]; exact h.ents _ (List.getElem_mem hj)
      ·exact h.ents _ (List.getElem_mem hj)
     ·show ((s.L.modify i EI.send).map EI.k).Sublist s.K
      rw [modify_map]; exact h.sub
    ·split
     ·refine ⟨h.keys, h.ids, h.texts, h.most, fun e he => h.ents e ((drop_sub s.L i).subset he), ((drop_sub s.L i).map EI.k).trans h.sub⟩
     ·exact h
def SN.tells (s : SN) (l : List RI) : SN := l.foldl SN.tell s
theorem SN.Ok.tells {s : SN} (h : s.Ok) {l : List RI} (hl : ∀ r ∈ l, okNum r.id = true) : (s.tells l).Ok := by
 induction l generalizing s with
 | nil => exact h
 | cons r l ih => exact ih (h.tell (hl r (by simp))) fun q hq => hl q (by simp [hq])
theorem rec_size (e : EI) : (e.ri).d.size = 8 + e.key.size + e.data.size := by
 rw [show (e.ri).d = ⟨e.body.toArray⟩ from rfl, size_of, EI.body_length]
theorem rec_ok' {e : EI} (h : e.right = true) : (e.ri).ok = true := by
 obtain ⟨h1, h2, h3, h4, h5, h6, h7, h8⟩ := EI.right_iff.1 h
 refine rightV_iff.2 ⟨(by decide : (1 : Int) ≤ 1), (by decide : (1 : Int) ≤ 9), h2, ?_⟩
 rw [rec_size]; omega
theorem SN.Ok.recs_ok {s : SN} (h : s.Ok) {k : KI} (hk : k ∈ s.K) : ∀ r ∈ s.recs k, r.ok = true := by
 obtain ⟨k1, k2, k3, k4⟩ := h.keys k hk
 have hn : okNum k.id = true := okNum_iff.2 (by omega)
 intro r hr
 unfold SN.recs at hr
 split at hr
 ·rw [List.mem_singleton] at hr
  subst hr
  exact rightV_iff.2 ⟨(by decide : (1 : Int) ≤ 5), (by decide : (5 : Int) ≤ 9), hn, (by omega : k.text.size ≤ 2000)⟩
 ·rename_i e he
  have hm := List.mem_of_find?_eq_some he
  rcases List.mem_cons.1 hr with rfl | hr
  ·exact rec_ok' (h.ents e hm)
  ·split at hr
   ·rw [List.mem_singleton] at hr
    subst hr
    exact rightV_iff.2 ⟨(by decide : (1 : Int) ≤ 2), (by decide : (2 : Int) ≤ 9), hn, (by decide : ByteArray.empty.size ≤ 2000)⟩
   ·cases hr
theorem SN.Ok.snap_ok {s : SN} (h : s.Ok) : ∀ r ∈ s.snap, r.ok = true := by
 intro r hr
 obtain ⟨k, hk, hr⟩ := List.mem_flatMap.1 hr
 exact h.recs_ok hk r hr
theorem recs_length (s : SN) (k : KI) : (s.recs k).length ≤ 2 := by
 unfold SN.recs
 split
 ·simp
 ·split <;> simp
theorem SN.Ok.snap_len {s : SN} (h : s.Ok) : s.snap.length ≤ 120 := by
 have : ∀ K : List KI, (K.flatMap s.recs).length ≤ 2 * K.length := by
  intro K
  induction K with
  | nil => simp
  | cons k K ih =>
   have := recs_length s k
   rw [List.flatMap_cons, List.length_append, List.length_cons]
   omega
 have h2 := this s.K
 have := h.most
 unfold SN.snap
 omega
theorem tell_put {s : SN} (h : r.op = 1) : s.tell r = if isE r = true ∧ s.free (roughE r).id (roughE r).key = true then ⟨s.L ++ [roughE r], s.K ++ [(roughE r).k]⟩ else s := by rw [SN.tell, if_pos h]
theorem tell_sent {s : SN} (h : r.op = 2) {i : Nat} (hi : s.place r.id = some i) : s.tell r = ⟨s.L.modify i EI.send, s.K⟩ := by
 rw [SN.tell, if_neg (by omega), if_neg (by omega), hi]
 dsimp only
 rw [if_pos h]
theorem tell_end {s : SN} (h : r.op = 3 ∨ r.op = 4) {i : Nat} (hi : s.place r.id = some i) : s.tell r = ⟨s.L.take i ++ s.L.drop (i + 1), s.K⟩ := by
 rw [SN.tell, if_neg (by omega), if_neg (by omega), hi]
 dsimp only
 rw [if_neg (by omega), if_pos h]
theorem tell_no {s : SN} (h1 : r.op ≠ 1) (h5 : r.op ≠ 5) (hi : s.place r.id = none) : s.tell r = s := by
 rw [SN.tell, if_neg h1, if_neg h5, hi]
def chunkN : Nat → List UInt8 → List (List UInt8)
 | 0, _ => []
 | n + 1, l => l.take 64 :: chunkN n (l.drop 64)
def putAt (l : List UInt8) (o : Nat) (s : List UInt8) : List UInt8 := l.take o ++ s ++ l.drop (o + s.length)
def DN.puts (d : DN) : Nat → List (List UInt8) → DN × Bool
 | _, [] => (d, true)
 | i, s :: l => if (d.write (i : Int) s).2 = 0 then (d.write (i : Int) s).1.puts (i + 1) l else ((d.write (i : Int) s).1, false)
def firstN (a : Nat) : Nat := a / 64
def countN (a n : Nat) : Nat := (a + n - 1) / 64 - a / 64 + 1
def secsN (F : List UInt8) (a : Nat) (s : List UInt8) : List (List UInt8) :=
 chunkN (countN a s.length) (putAt ((F.drop (64 * firstN a)).take (64 * countN a s.length)) (a - 64 * firstN a) s)
theorem chunkN_length (n : Nat) : ∀ l, (chunkN n l).length = n := by
 induction n with
 | zero => intro l; rfl
 | succ n ih => intro l; rw [chunkN, List.length_cons, ih]
theorem chunkN_flat (n : Nat) : ∀ l : List UInt8, l.length = 64 * n → (chunkN n l).flatten = l := by
 induction n with
 | zero => intro l h; rw [chunkN, List.flatten_nil]; exact (List.eq_nil_of_length_eq_zero (by omega)).symm
 | succ n ih => intro l h; rw [chunkN, List.flatten_cons, ih _ (by rw [List.length_drop]; omega), List.take_append_drop]
theorem chunkN_sec (n : Nat) : ∀ l : List UInt8, l.length = 64 * n → ∀ s ∈ chunkN n l, s.length = 64 := by
 induction n with
 | zero => intro l _ s hs; cases hs
 | succ n ih =>
  intro l h s hs
  rw [chunkN] at hs
  rcases List.mem_cons.1 hs with rfl | hs
  ·rw [List.length_take]; omega
  ·exact ih _ (by rw [List.length_drop]; omega) s hs
theorem putAt_length {l : List UInt8} {o : Nat} {s : List UInt8} (h : o + s.length ≤ l.length) : (putAt l o s).length = l.length := by
 simp only [putAt, List.length_append, List.length_take, List.length_drop]
 omega
theorem flatten_mid (X Y Z : List (List UInt8)) : (X ++ Y ++ Z).flatten = X.flatten ++ Y.flatten ++ Z.flatten := by simp
def torn (A B : List UInt8) (k : Nat) : List UInt8 := B.take k ++ A.drop k
theorem torn_length (h : A.length = B.length) (k : Nat) : (torn A B k).length = A.length := by
 simp only [torn, List.length_append, List.length_take, List.length_drop]; omega
theorem torn_get (h : A.length = B.length) (k i : Nat) : (torn A B k)[i]? = if i < k then B[i]? else A[i]? := by
 simp only [torn, List.getElem?_append, List.getElem?_take, List.getElem?_drop, List.length_take]
 grind
theorem write_torn {d : DN} (hf : d.Fit) (hd : d.down = false) {i : Nat} {s : List UInt8} (hi : i < d.L.length) (hs : s.length = 64) :
  (d.write (i : Int) s).1.Fit ∧ (d.write (i : Int) s).1.L.length = d.L.length ∧ (d.write (i : Int) s).1.n = d.n + 1 ∧
  (((d.write (i : Int) s).2 = 0 ∧ (d.write (i : Int) s).1.down = false ∧ (d.write (i : Int) s).1.L = d.L.set i s ∧ (d.left = 0 → (d.write (i : Int) s).1.left = 0)) ∨
   ((d.write (i : Int) s).2 = 180 ∧ (d.write (i : Int) s).1.down = true ∧ d.left ≠ 0 ∧ ∃ c, c ≤ 64 ∧ (d.write (i : Int) s).1.L = d.L.set i (s.take c ++ d.L[i].drop c))) := by
 obtain ⟨f1, f2, -⟩ := DN.write_fit hf (i : Int) s
 by_cases hl : d.left = 1
 ·have e := DN.write_last hd hl hi hs
  refine ⟨f1, f2, by rw [e], .inr ⟨by rw [e], by rw [e], by omega, d.cut, hf.cut, by rw [e]⟩⟩
 ·have e := DN.write_ok hf hd hl hi hs
  refine ⟨f1, f2, by rw [e], .inl ⟨by rw [e], by first | (rw [e]; done) | (rw [e]; exact hd), by rw [e], fun h => by rw [e]; show d.left - 1 = 0; omega⟩⟩
theorem set_torn {L : List (List UInt8)} (h : ∀ s ∈ L, s.length = 64) {i : Nat} (hi : i < L.length) {s : List UInt8} (hs : s.length = 64) (c : Nat) (hc : c ≤ 64) :
  (L.set i (s.take c ++ L[i].drop c)).flatten = torn L.flatten (L.set i s).flatten (64 * i + c) := by
 have h64 := h _ (List.getElem_mem hi)
 have hlen : (s.take c ++ L[i].drop c).length = 64 := by rw [List.length_append, List.length_take, List.length_drop]; omega
 rw [flat_set h i _ hi hlen, flat_set h i s hi hs]
 have hsec := flat_sector h i hi
 have hl := flat_length h
 rw [← hsec]
 generalize L.flatten = F at *
 unfold torn
 apply List.ext_getElem?
 intro j
 simp only [List.getElem?_append, List.getElem?_take, List.getElem?_drop, List.length_append, List.length_take, List.length_drop]
 grind
theorem puts_torn (ss : List (List UInt8)) : ∀ {d : DN} {i : Nat}, d.Fit → d.down = false → i + ss.length ≤ d.L.length → (∀ s ∈ ss, s.length = 64) →
  (d.puts i ss).1.Fit ∧ (d.puts i ss).1.L.length = d.L.length ∧ (d.puts i ss).1.n ≤ d.n + ss.length ∧
  (((d.puts i ss).2 = true ∧ (d.puts i ss).1.down = false ∧ (d.puts i ss).1.L = d.L.take i ++ ss ++ d.L.drop (i + ss.length) ∧ (d.left = 0 → (d.puts i ss).1.left = 0)) ∨
   ((d.puts i ss).2 = false ∧ (d.puts i ss).1.down = true ∧ d.left ≠ 0 ∧ ∃ k, (d.puts i ss).1.L.flatten = torn d.L.flatten (d.L.take i ++ ss ++ d.L.drop (i + ss.length)).flatten k)) := by
 induction ss with
 | nil =>
  intro d i hf hd hi hs
  refine ⟨hf, rfl, by simp [DN.puts], .inl ⟨rfl, hd, ?_, fun h => h⟩⟩
  show d.L = _
  rw [List.append_nil, List.length_nil, Nat.add_zero, List.take_append_drop]
 | cons s ss ih =>
  intro d i hf hd hi hs
  rw [List.length_cons] at hi
  have h64 := hs s (by simp)
  obtain ⟨w1, w2, w3, w4⟩ := write_torn hf hd (show i < d.L.length by omega) h64
  rw [DN.puts]
  rcases w4 with ⟨a1, a2, a3, a4⟩ | ⟨a1, a2, a3, c, a4, a5⟩
  ·rw [if_pos a1]
   have hset : (d.L.set i s).take (i + 1) = d.L.take i ++ [s] := by
    rw [List.set_eq_take_append_cons_drop, if_pos (by omega), List.take_append, List.length_take, Nat.min_eq_left (by omega), List.take_of_length_le (by rw [List.length_take]; omega)]
    simp
   have hset2 : (d.L.set i s).drop (i + 1 + ss.length) = d.L.drop (i + (s :: ss).length) := by
    rw [List.drop_set_of_lt (by omega), List.length_cons, Nat.add_right_comm, Nat.add_assoc]
   generalize (d.write (i : Int) s).1 = d1 at *
   obtain ⟨i1, i2, i3, i4⟩ := @ih d1 (i + 1) w1 a2 (by omega) fun t ht => hs t (by simp [ht])
   have hB : d1.L.take (i + 1) ++ ss ++ d1.L.drop (i + 1 + ss.length) = d.L.take i ++ s :: ss ++ d.L.drop (i + (s :: ss).length) := by
    rw [a3, hset, hset2]; simp
   refine ⟨i1, by rw [i2, w2], by rw [List.length_cons]; omega, ?_⟩
   rcases i4 with ⟨b1, b2, b3, b4⟩ | ⟨b1, b2, b3, k, b4⟩
   ·exact .inl ⟨b1, b2, by rw [b3, hB], fun h => b4 (a4 h)⟩
   ·refine .inr ⟨b1, b2, fun h => b3 (a4 h), ?_⟩
    rw [hB] at b4
    rw [b4]
    have f1 := flat_length hf.sec
    have f2 : (d.L.take i ++ s :: ss ++ d.L.drop (i + (s :: ss).length)).flatten.length = 64 * d.L.length := by
     rw [flat_length]
     ·simp only [List.length_append, List.length_take, List.length_cons, List.length_drop]; omega
     ·intro t ht
      rcases List.mem_append.1 ht with ht | ht
      ·rcases List.mem_append.1 ht with ht | ht
       ·exact hf.sec t (List.mem_of_mem_take ht)
       ·exact hs t ht
      ·exact hf.sec t (List.mem_of_mem_drop ht)
    -- d1's bytes are torn themselves
    have hd1 : d1.L.flatten = torn d.L.flatten (d.L.take i ++ s :: ss ++ d.L.drop (i + (s :: ss).length)).flatten (64 * (i + 1)) := by
     rw [a3, flat_set hf.sec i s (by omega) h64]
     have e1 : (d.L.take i ++ s :: ss ++ d.L.drop (i + (s :: ss).length)).flatten = d.L.flatten.take (64 * i) ++ s ++ (ss.flatten ++ (d.L.drop (i + (s :: ss).length)).flatten) := by
      have t1 : (d.L.take i).flatten = d.L.flatten.take (64 * i) := by
       have e := congrArg List.flatten (List.take_append_drop i d.L)
       rw [List.flatten_append] at e
       rw [← e, List.take_left']
       rw [flat_length fun t ht => hf.sec t (List.mem_of_mem_take ht), List.length_take]
       omega
      rw [flatten_mid, t1]; simp
     rw [e1, torn]
     have e2 : (d.L.flatten.take (64 * i) ++ s).length = 64 * (i + 1) := by rw [List.length_append, List.length_take]; omega
     rw [List.take_left' e2]
     congr 1
    rw [hd1]
    refine ⟨max k (64 * (i + 1)), ?_⟩
    generalize (d.L.take i ++ s :: ss ++ d.L.drop (i + (s :: ss).length)).flatten = B at *
    generalize d.L.flatten = A at *
    apply List.ext_getElem?
    intro j
    rw [torn_get (by rw [torn_length (by omega)]; omega), torn_get (by omega), torn_get (by omega)]
    grind
  ·rw [if_neg (by rw [a1]; decide)]
   refine ⟨w1, w2, by rw [w3, List.length_cons]; omega, .inr ⟨rfl, a2, a3, ?_⟩⟩
   dsimp only
   rw [a5, set_torn hf.sec (by omega) h64 c a4]
   refine ⟨64 * i + c, ?_⟩
   have t1 : (d.L.take i).flatten = d.L.flatten.take (64 * i) := by
    have e := congrArg List.flatten (List.take_append_drop i d.L)
    rw [List.flatten_append] at e
    rw [← e, List.take_left']
    rw [flat_length fun t ht => hf.sec t (List.mem_of_mem_take ht), List.length_take]
    omega
   have hl := flat_length hf.sec
   rw [torn, torn]
   congr 1
   rw [flat_set hf.sec i s (by omega) h64, flatten_mid, t1, List.flatten_cons]
   have e2 : (d.L.flatten.take (64 * i) ++ s).length = 64 * (i + 1) := by rw [List.length_append, List.length_take]; omega
   rw [← List.append_assoc, List.append_assoc (d.L.flatten.take (64 * i) ++ s), List.take_append_of_le_length (l₁ := d.L.flatten.take (64 * i) ++ s) (by omega), List.take_append_of_le_length (l₁ := d.L.flatten.take (64 * i) ++ s) (by omega)]
end Go.Proofs.YtmebjdbkngehiaaGreatDoor
