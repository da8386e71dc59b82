/-
  Frames of a log: plain naturals and lists, no program. No condition.
-/
import Derived.Test.YtlabmomehjfjdaaDoorNumsM
import Derived.Test.YtlabmomehjfjdaaDoorCrcM
namespace Go.Proofs.YtlabmomehjfjdaaDoor

/-- A record. -/
structure RecN where
  op : Nat
  id : Nat
  data : List UInt8

def okRec (r : RecN) : Prop := 1 ≤ r.op ∧ r.op ≤ 9 ∧ r.id ≤ 281474976710655 ∧ r.data.length ≤ 2000
instance (r : RecN) : Decidable (okRec r) := by unfold okRec; exact inferInstance
/-- A frame's bytes, but its sum. -/
def fbody (r : RecN) : List UInt8 := 225 :: UInt8.ofNat r.op :: (digits 6 r.id ++ (digits 2 r.data.length ++ r.data))
/-- A frame's bytes. -/
def frameL (r : RecN) : List UInt8 := fbody r ++ digits 4 (sumN true (fbody r))

theorem fbody_length (r : RecN) : (fbody r).length = 10 + r.data.length := by simp [fbody, digits_length]; omega
theorem frameL_length (r : RecN) : (frameL r).length = 14 + r.data.length := by simp [frameL, fbody_length, digits_length]; omega

/-- What stands at a text's beginning, read roughly. -/
def roughF (l : List UInt8) : RecN := { op := val (l.take 2) % 256, id := val ((l.drop 2).take 6), data := (l.drop 10).take (val ((l.drop 8).take 2)) }
/-- The record whose frame stands at a text's beginning. -/
def decF (l : List UInt8) : Option RecN :=
  if 10 ≤ l.length ∧ 10 + val ((l.drop 8).take 2) ≤ l.length ∧ okRec (roughF l) ∧ l.take (frameL (roughF l)).length = frameL (roughF l) then some (roughF l) else none

theorem op_nat {r : RecN} (h : okRec r) : (UInt8.ofNat r.op).toNat = r.op := UInt8.toNat_ofNat_of_lt' (by show _ < 256; have := h.2.1; omega)
theorem rough_frame {r : RecN} (h : okRec r) (t : List UInt8) : roughF (fbody r ++ t) = r ∧ val (((fbody r ++ t).drop 8).take 2) = r.data.length := by
  obtain ⟨h1, h2, h3, h4⟩ := h
  have d6 := digits_length 6 r.id
  have d2 := digits_length 2 r.data.length
  have e8 : (fbody r ++ t).drop 8 = digits 2 r.data.length ++ (r.data ++ t) := by
    show (digits 6 r.id ++ (digits 2 r.data.length ++ r.data) ++ t).drop 6 = _
    rw [List.append_assoc, List.drop_left' d6, List.append_assoc]
  have ev : val (((fbody r ++ t).drop 8).take 2) = r.data.length := by
    rw [e8, List.take_left' d2, val_digits]
    exact Nat.mod_eq_of_lt (by omega)
  refine ⟨?_, ev⟩
  have e2 : (fbody r ++ t).take 2 = [225, UInt8.ofNat r.op] := rfl
  have e6 : ((fbody r ++ t).drop 2).take 6 = digits 6 r.id := by
    show (digits 6 r.id ++ (digits 2 r.data.length ++ r.data) ++ t).take 6 = _
    rw [List.append_assoc, List.take_left' d6]
  have e10 : (fbody r ++ t).drop 10 = r.data ++ t := by
    rw [show 10 = 8 + 2 from rfl, ← List.drop_drop, e8, List.drop_left' d2]
  rw [roughF, ev, e2, e6, e10, List.take_left' rfl, val_digits, Nat.mod_eq_of_lt (show r.id < 256 ^ 6 by omega)]
  have : val [225, UInt8.ofNat r.op] % 256 = r.op := by
    have ho : (UInt8.ofNat r.op).toNat = r.op := UInt8.toNat_ofNat_of_lt' (by show _ < 256; omega)
    simp only [val, valFrom, List.foldl_cons, List.foldl_nil, ho]
    omega
  rw [this]

/-- A record is decoded from its frame, whatever stands behind. -/
theorem dec_frame {r : RecN} (h : okRec r) (t : List UInt8) : decF (frameL r ++ t) = some r := by
  obtain ⟨e, v⟩ := rough_frame h (digits 4 (sumN true (fbody r)) ++ t)
  rw [← List.append_assoc, ← frameL] at e v
  have hl := frameL_length r
  rw [decF, e, v, if_pos]
  refine ⟨by rw [List.length_append]; omega, by rw [List.length_append]; omega, h, List.take_left' rfl⟩
theorem frame_dec {l : List UInt8} {r : RecN} (h : decF l = some r) : okRec r ∧ l.take (frameL r).length = frameL r ∧ (frameL r).length ≤ l.length := by
  rw [decF] at h
  split at h
  · rename_i hc
    injection h with h
    subst h
    refine ⟨hc.2.2.1, hc.2.2.2, ?_⟩
    have := congrArg List.length hc.2.2.2
    rw [List.length_take] at this
    omega
  · cases h
theorem frame_split {l : List UInt8} {r : RecN} (h : decF l = some r) : okRec r ∧ ∃ t, l = frameL r ++ t := by
  obtain ⟨h1, h2, h3⟩ := frame_dec h
  exact ⟨h1, l.drop (frameL r).length, by conv => lhs; rw [← List.take_append_drop (frameL r).length l, h2]⟩
theorem frame_prefix {r q : RecN} (h : okRec r) (k : okRec q) (t u : List UInt8) (e : frameL r ++ t = frameL q ++ u) : r = q := by
  have h1 := dec_frame h t
  rw [e, dec_frame k u] at h1
  injection h1 with h1
  exact h1.symm

/-- Another byte than e1 begins no frame. -/
theorem dec_other {b : UInt8} {l : List UInt8} (h : b ≠ 225) : decF (b :: l) = none := by
  cases hd : decF (b :: l) with
  | none => rfl
  | some r =>
    obtain ⟨_, t, e⟩ := frame_split hd
    have : (b :: l).head? = (frameL r ++ t).head? := by rw [e]
    simp [frameL, fbody] at this
    exact absurd this h
theorem dec_nil : decF [] = none := by rw [decF, if_neg (by simp)]
/-- A beginning of a frame that is not all of it is none. -/
theorem dec_cut {r : RecN} (h : okRec r) (k : Nat) (hk : k < (frameL r).length) : decF ((frameL r).take k) = none := by
  cases hd : decF ((frameL r).take k) with
  | none => rfl
  | some q =>
    obtain ⟨hq, t, e⟩ := frame_split hd
    have e2 : frameL r ++ [] = frameL q ++ (t ++ (frameL r).drop k) := by
      rw [← List.append_assoc, ← e, List.take_append_drop, List.append_nil]
    have hrq := frame_prefix h hq _ _ e2
    subst hrq
    have := congrArg List.length e
    rw [List.length_append, List.length_take] at this
    omega

/-- The records at a text's beginning. -/
def scanF : Nat → List UInt8 → List RecN × Nat
  | 0, _ => ([], 0)
  | f + 1, l => match decF l with
    | none => ([], 0)
    | some r => (r :: (scanF f (l.drop (frameL r).length)).1, (frameL r).length + (scanF f (l.drop (frameL r).length)).2)
def layL (l : List RecN) : List UInt8 := l.flatMap frameL
theorem scan_more (f : Nat) : ∀ (g : Nat) (l : List UInt8), l.length < f → l.length < g → scanF f l = scanF g l := by
  induction f with
  | zero => intro g l h; omega
  | succ f ih =>
    intro g l h1 h2
    cases g with
    | zero => omega
    | succ g =>
      rw [scanF, scanF]
      cases hd : decF l with
      | none => rfl
      | some r =>
        obtain ⟨_, _, h4⟩ := frame_dec hd
        have h5 := frameL_length r
        dsimp only
        rw [ih g _ (by rw [List.length_drop]; omega) (by rw [List.length_drop]; omega)]
def scanOf (l : List UInt8) : List RecN × Nat := scanF (l.length + 1) l
theorem scanOf_none {l : List UInt8} (h : decF l = none) : scanOf l = ([], 0) := by rw [scanOf, scanF, h]
theorem scanOf_some {l : List UInt8} {r : RecN} (h : decF l = some r) : scanOf l = (r :: (scanOf (l.drop (frameL r).length)).1, (frameL r).length + (scanOf (l.drop (frameL r).length)).2) := by
  obtain ⟨_, _, h4⟩ := frame_dec h
  have h5 := frameL_length r
  rw [scanOf, scanF, h]
  dsimp only
  rw [scanOf, scan_more l.length ((l.drop (frameL r).length).length + 1) _ (by rw [List.length_drop]; omega) (by omega)]
theorem scan_lay (l : List RecN) (h : ∀ r ∈ l, okRec r) (t : List UInt8) (ht : decF t = none) : scanOf (layL l ++ t) = (l, (layL l).length) := by
  induction l with
  | nil => simp [layL, scanOf_none ht]
  | cons r l ih =>
    have e : layL (r :: l) ++ t = frameL r ++ (layL l ++ t) := by simp [layL]
    rw [e, scanOf_some (dec_frame (h r (by simp)) _), List.drop_left' rfl, ih (fun q hq => h q (by simp [hq]))]
    simp [layL]
theorem lay_scan (f : Nat) : ∀ l : List UInt8, l.length < f → (∀ r ∈ (scanOf l).1, okRec r) ∧ (scanOf l).2 = (layL (scanOf l).1).length ∧ (scanOf l).2 ≤ l.length ∧ l.take (scanOf l).2 = layL (scanOf l).1 := by
  induction f with
  | zero => intro l h; omega
  | succ f ih =>
    intro l h
    cases hd : decF l with
    | none => rw [scanOf_none hd]; simp [layL]
    | some r =>
      obtain ⟨h1, h2, h3⟩ := frame_dec hd
      have h5 := frameL_length r
      obtain ⟨i1, i2, i3, i4⟩ := ih (l.drop (frameL r).length) (by rw [List.length_drop]; omega)
      rw [scanOf_some hd]
      dsimp only
      refine ⟨fun q hq => ?_, ?_, ?_, ?_⟩
      · rcases List.mem_cons.1 hq with rfl | hq
        · exact h1
        · exact i1 q hq
      · rw [i2]; simp [layL]
      · rw [List.length_drop] at i3; omega
      · rw [List.take_add, h2, i4]; simp [layL]

/-- Of frames that are cut just those that are whole are scanned. -/
def wholes (at_ : Nat) : List RecN → Nat → List RecN
  | [], _ => []
  | r :: l, n => if n + (14 + r.data.length) ≤ at_ then r :: wholes at_ l (n + (14 + r.data.length)) else []
theorem scan_cut (l : List RecN) (h : ∀ r ∈ l, okRec r) : ∀ k : Nat, scanOf ((layL l).take k) = (wholes k l 0, (layL (wholes k l 0)).length) := by
  have gen : ∀ (l : List RecN), (∀ r ∈ l, okRec r) → ∀ k n : Nat, scanOf ((layL l).take (k - n)) = (wholes k l n, (layL (wholes k l n)).length) := by
    intro l
    induction l with
    | nil => intro _ k n; rw [show layL [] = [] from rfl, List.take_nil, scanOf_none dec_nil]; rfl
    | cons r l ih =>
      intro h k n
      have hr := h r (by simp)
      have hl := frameL_length r
      have e : layL (r :: l) = frameL r ++ layL l := by simp [layL]
      by_cases hk : n + (14 + r.data.length) ≤ k
      · rw [wholes, if_pos hk]
        have e2 : (layL (r :: l)).take (k - n) = frameL r ++ (layL l).take (k - (n + (14 + r.data.length))) := by
          rw [e, List.take_append, List.take_of_length_le (by omega), hl]
          congr 2
          omega
        rw [e2, scanOf_some (dec_frame hr _), List.drop_left' rfl, ih (fun q hq => h q (by simp [hq]))]
        simp [layL]
      · rw [wholes, if_neg hk]
        have e2 : (layL (r :: l)).take (k - n) = (frameL r).take (k - n) := by rw [e, List.take_append_of_le_length (by omega)]
        rw [e2, scanOf_none (dec_cut hr _ (by omega))]
        rfl
  intro k
  exact gen l h k 0

/-- A frame of which one byte is another one, but those that tell how long it is, is none. -/
theorem dec_hurt {r : RecN} (h : okRec r) (a c : List UInt8) (x y : UInt8) (e : frameL r = a ++ x :: c) (hxy : x ≠ y) (h8 : a.length ≠ 8) (h9 : a.length ≠ 9) : decF (a ++ y :: c) = none := by
  cases hd : decF (a ++ y :: c) with
  | none => rfl
  | some q =>
    exfalso
    obtain ⟨hq, t, e2⟩ := frame_split hd
    have lr := frameL_length r
    have lq := frameL_length q
    have vr := (rough_frame h (digits 4 (sumN true (fbody r)))).2
    have vq := (rough_frame hq (digits 4 (sumN true (fbody q)) ++ t)).2
    rw [← frameL] at vr
    rw [← List.append_assoc, ← frameL, ← e2] at vq
    rw [e] at vr
    have hsame : ((a ++ x :: c).drop 8).take 2 = ((a ++ y :: c).drop 8).take 2 := by
      by_cases hlt : a.length < 8
      · rw [List.drop_append, List.drop_append, List.drop_eq_nil_of_le (by omega), List.nil_append, List.nil_append]
        obtain ⟨k, hk⟩ : ∃ k, 8 - a.length = k + 1 := ⟨7 - a.length, by omega⟩
        rw [hk, List.drop_succ_cons, List.drop_succ_cons]
      · rw [List.drop_append_of_le_length (by omega), List.drop_append_of_le_length (by omega), List.take_append_of_le_length (by rw [List.length_drop]; omega), List.take_append_of_le_length (by rw [List.length_drop]; omega)]
    rw [hsame] at vr
    have hlen : r.data.length = q.data.length := vr.symm.trans vq
    have hlt : t = [] := by
      have h1 := congrArg List.length e
      have h2 := congrArg List.length e2
      simp only [List.length_append, List.length_cons] at h1 h2
      exact List.eq_nil_of_length_eq_zero (by omega)
    subst hlt
    rw [List.append_nil] at e2
    have br := fbody_length r
    have bq := fbody_length q
    by_cases hin : a.length < (fbody r).length
    · -- in the body: the sums are the same
      have er : fbody r = a ++ x :: c.take ((fbody r).length - a.length - 1) ∧ digits 4 (sumN true (fbody r)) = c.drop ((fbody r).length - a.length - 1) := by
        have e3 : (fbody r ++ digits 4 (sumN true (fbody r))).take (fbody r).length = (a ++ x :: c).take (fbody r).length := by rw [← e]; rfl
        have e4 : (fbody r ++ digits 4 (sumN true (fbody r))).drop (fbody r).length = (a ++ x :: c).drop (fbody r).length := by rw [← e]; rfl
        rw [List.take_left' rfl, List.take_append, List.take_of_length_le (by omega)] at e3
        rw [List.drop_left' rfl, List.drop_append, List.drop_eq_nil_of_le (by omega), List.nil_append] at e4
        obtain ⟨k, hk⟩ : ∃ k, (fbody r).length - a.length = k + 1 := ⟨(fbody r).length - a.length - 1, by omega⟩
        rw [hk, List.take_succ_cons] at e3
        rw [hk, List.drop_succ_cons] at e4
        rw [hk, Nat.add_sub_cancel]
        exact ⟨e3, e4⟩
      have eq_ : fbody q = a ++ y :: c.take ((fbody r).length - a.length - 1) ∧ digits 4 (sumN true (fbody q)) = c.drop ((fbody r).length - a.length - 1) := by
        have e3 : (fbody q ++ digits 4 (sumN true (fbody q))).take (fbody q).length = (a ++ y :: c).take (fbody q).length := by rw [e2]; rfl
        have e4 : (fbody q ++ digits 4 (sumN true (fbody q))).drop (fbody q).length = (a ++ y :: c).drop (fbody q).length := by rw [e2]; rfl
        rw [List.take_left' rfl, List.take_append, List.take_of_length_le (by omega)] at e3
        rw [List.drop_left' rfl, List.drop_append, List.drop_eq_nil_of_le (by omega), List.nil_append] at e4
        obtain ⟨k, hk⟩ : ∃ k, (fbody r).length - a.length = k + 1 := ⟨(fbody r).length - a.length - 1, by omega⟩
        rw [show (fbody q).length - a.length = k + 1 by omega, List.take_succ_cons] at e3
        rw [show (fbody q).length - a.length = k + 1 by omega, List.drop_succ_cons] at e4
        rw [hk, Nat.add_sub_cancel]
        exact ⟨e3, e4⟩
      have hs : sumN true (fbody r) = sumN true (fbody q) := by
        have h1 : val (digits 4 (sumN true (fbody r))) = val (digits 4 (sumN true (fbody q))) := by rw [er.2, eq_.2]
        rw [val_digits, val_digits] at h1
        have l1 : sumN true (fbody r) < 2 ^ 32 := sumN_lt true (fbody r)
        have l2 : sumN true (fbody q) < 2 ^ 32 := sumN_lt true (fbody q)
        rwa [Nat.mod_eq_of_lt (by omega), Nat.mod_eq_of_lt (by omega)] at h1
      have hrun : runN (putN true) (allN true) (a ++ [x] ++ c.take ((fbody r).length - a.length - 1)) = runN (putN true) (allN true) (a ++ [y] ++ c.take ((fbody r).length - a.length - 1)) := by
        have h1 := xor_inj' hs
        rw [er.1, eq_.1] at h1
        simpa using h1
      have := burst (w := 32) (by omega) (putN_lt true) (putN_top true) _ (allN_lt true) a [x] [y] _ rfl (by simp) hrun
      injection this with h1
      exact hxy h1
    · -- in the sum: the bodies are the same
      have e3 : (fbody r ++ digits 4 (sumN true (fbody r))).take (fbody r).length = (a ++ x :: c).take (fbody r).length := by rw [← e]; rfl
      have e4 : (fbody q ++ digits 4 (sumN true (fbody q))).take (fbody r).length = (a ++ y :: c).take (fbody r).length := by rw [e2]; rfl
      rw [List.take_left' rfl, List.take_append_of_le_length (by omega)] at e3
      rw [List.take_left' (by omega), List.take_append_of_le_length (by omega)] at e4
      have hb : fbody r = fbody q := e3.trans e4.symm
      have hf : frameL r = frameL q := by rw [frameL, frameL, hb]
      rw [e, ← e2] at hf
      have := List.append_cancel_left hf
      injection this with h1
      exact hxy h1

end Go.Proofs.YtlabmomehjfjdaaDoor
