/-
  Sectors laid over bytes, one by one, and more of the kind. Conditions: as the theorems' own hypotheses say.
-/
import Derived.Test.YtmebjdbkngehiaaGreatDoorQgR
import Derived.Test.YtmebjdbkngehiaaGreatDoorQhE
import Derived.Test.YtmebjdbkngehiaaGreatDoorQgN
import Derived.Test.YtmebjdbkngehiaaGreatDoorQgI
import Derived.Lib.AppendZeros
import Derived.Test.YtmebjdbkngehiaaGreatDoorDkH
import Derived.Test.YtmebjdbkngehiaaGreatDoorQgA
namespace Go.Proofs.YtmebjdbkngehiaaGreatDoor
variable {L : List (List UInt8)} {d : DN} {q : QN} {s : List UInt8} {r : RI}
def ovl (old : List UInt8) (base a : Nat) (s : List UInt8) : List UInt8 := (List.range 64).map fun k => if a ≤ base + k ∧ base + k < a + s.length then s.getD (base + k - a) 0 else old.getD k 0
theorem ovl_length (old : List UInt8) (base a : Nat) (s : List UInt8) : (ovl old base a s).length = 64 := by simp [ovl]
theorem ovl_get (old : List UInt8) (base a : Nat) (s : List UInt8) {k : Nat} (h : k < 64) : (ovl old base a s)[k]? = some (if a ≤ base + k ∧ base + k < a + s.length then s.getD (base + k - a) 0 else old.getD k 0) := by
 unfold ovl
 rw [List.getElem?_map, List.getElem?_range h]
 rfl
theorem chunkN_get (n : Nat) : ∀ (l : List UInt8) (j : Nat), j < n → (chunkN n l)[j]? = some ((l.drop (64 * j)).take 64) := by
 induction n with
 | zero => intro l j h; omega
 | succ n ih =>
  intro l j h
  rw [chunkN]
  cases j with
  | zero => simp
  | succ j =>
   rw [List.getElem?_cons_succ, ih _ j (by omega), List.drop_drop]
   congr 3
   omega
theorem secs_ovl (h : ∀ s ∈ L, s.length = 64) (a : Nat) (s : List UInt8) (hs : 0 < s.length) (ha : a + s.length ≤ 64 * L.length) {j : Nat} (hj : j < countN a s.length) :
  ∃ hk : firstN a + j < L.length, (secsN L.flatten a s)[j]? = some (ovl L[firstN a + j] (64 * (firstN a + j)) a s) := by
 have hl := flat_length h
 have hc : firstN a + countN a s.length ≤ L.length := by unfold firstN countN; omega
 have hb : a - 64 * firstN a + s.length ≤ 64 * countN a s.length := by unfold firstN countN; omega
 have hfa : 64 * firstN a ≤ a := by unfold firstN; omega
 have hk : firstN a + j < L.length := by omega
 refine ⟨hk, ?_⟩
 have hsec := flat_sector h (firstN a + j) hk
 have hlen : ((L.flatten.drop (64 * firstN a)).take (64 * countN a s.length)).length = 64 * countN a s.length := by
  rw [List.length_take, List.length_drop]; omega
 rw [secsN, chunkN_get _ _ _ hj, ← hsec]
 congr 1
 generalize L.flatten = F at *
 generalize firstN a = f at *
 generalize countN a s.length = c at *
 apply List.ext_getElem?
 intro k
 by_cases hk64 : k < 64
 ·rw [ovl_get _ _ _ _ hk64, List.getElem?_take_of_lt hk64, List.getElem?_drop, putAt_get (by omega)]
  by_cases hin : a ≤ 64 * (f + j) + k ∧ 64 * (f + j) + k < a + s.length
  ·rw [if_pos (by omega), if_pos hin, List.getD_eq_getElem?_getD, show 64 * j + k - (a - 64 * f) = 64 * (f + j) + k - a by omega, List.getElem?_eq_getElem (by omega)]
   rfl
  ·rw [if_neg (by omega), if_neg hin, List.getD_eq_getElem?_getD, List.getElem?_take_of_lt (by omega), List.getElem?_drop, List.getElem?_take_of_lt hk64, List.getElem?_drop, show 64 * f + (64 * j + k) = 64 * (f + j) + k by omega, List.getElem?_eq_getElem (by omega)]
   rfl
 ·rw [List.getElem?_eq_none (by rw [List.length_take]; omega), List.getElem?_eq_none (by rw [ovl_length]; omega)]
theorem secs_len (a : Nat) (s : List UInt8) : (secsN L.flatten a s).length = countN a s.length := chunkN_length _ _
theorem puts_take (hf : d.Fit) (hd : d.down = false) {k : Nat} {ss : List (List UInt8)} (hk : k + ss.length ≤ d.L.length) (hs : ∀ s ∈ ss, s.length = 64) {j : Nat} (hj : j < ss.length) (h : (d.puts k (ss.take j)).2 = true) :
  (d.puts k (ss.take j)).1.down = false ∧ (d.puts k (ss.take j)).1.L.length = d.L.length ∧ (d.puts k (ss.take j)).1.n ≤ d.n + j ∧ (d.puts k (ss.take j)).1.Fit ∧ (d.puts k (ss.take j)).1.L[k + j]? = d.L[k + j]? := by
 have hl : (ss.take j).length = j := by rw [List.length_take]; omega
 obtain ⟨a1, a2, a3, a4⟩ := puts_torn (ss.take j) hf hd (show k + (ss.take j).length ≤ d.L.length by omega) fun s q => hs s (List.mem_of_mem_take q)
 rcases a4 with ⟨b1, b2, b3, -⟩ | ⟨b1, -⟩
 ·refine ⟨b2, a2, by omega, a1, ?_⟩
  rw [b3, hl, List.getElem?_append_right (by rw [List.length_append, List.length_take, hl]; omega), List.getElem?_drop, List.length_append, List.length_take, hl]
  congr 1
  omega
 ·rw [h] at b1; cases b1
def QN.wr (q : QN) (k : Nat) (s : List UInt8) : QN := if q.down = true then q else { q with d := (q.d.write (k : Int) s).1, down := !decide ((q.d.write (k : Int) s).2 = 0) }
def QN.wrs (q : QN) : Nat → List (List UInt8) → QN
 | _, [] => q
 | k, s :: l => (q.wr k s).wrs (k + 1) l
theorem wr_down (h : q.down = true) (k : Nat) (s : List UInt8) : q.wr k s = q := by unfold QN.wr; rw [if_pos h]
theorem wrs_down (l : List (List UInt8)) : ∀ {q : QN} (_ : q.down = true) (k : Nat), q.wrs k l = q := by
 induction l with
 | nil => intro q _ k; rfl
 | cons s l ih => intro q h k; rw [QN.wrs, wr_down h, ih h]
theorem wrs_snoc (l : List (List UInt8)) (s : List UInt8) : ∀ (q : QN) (k : Nat), q.wrs k (l ++ [s]) = (q.wrs k l).wr (k + l.length) s := by
 induction l with
 | nil => intro q k; rfl
 | cons x l ih =>
  intro q k
  rw [List.cons_append, QN.wrs, ih, QN.wrs, List.length_cons]
  congr 1
  omega
theorem wrs_puts (l : List (List UInt8)) : ∀ {q : QN} (_ : q.down = false) (k : Nat), q.wrs k l = { q with d := (q.d.puts k l).1, down := !(q.d.puts k l).2 } := by
 induction l with
 | nil =>
  intro q h k
  rw [QN.wrs, DN.puts]
  obtain ⟨d, s, o, t, n⟩ := q
  dsimp only at h ⊢
  rw [h]; rfl
 | cons x l ih =>
  intro q h k
  rw [QN.wrs, DN.puts]
  have e : q.wr k x = { q with d := (q.d.write (k : Int) x).1, down := !decide ((q.d.write (k : Int) x).2 = 0) } := by unfold QN.wr; rw [if_neg (by rw [h]; decide)]
  by_cases h0 : (q.d.write (k : Int) x).2 = 0
  ·rw [if_pos h0, ih (by rw [e]; simp [h0]), e]
  ·rw [if_neg h0, wrs_down l (by rw [e]; simp [h0]), e]
   simp [h0]
theorem wr_len (h : q.d.Fit) (k : Nat) (s : List UInt8) : (q.wr k s).d.L.length = q.d.L.length ∧ (q.wr k s).d.Fit ∧ (q.wr k s).d.n ≤ q.d.n + 1 ∧ (q.wr k s).s = q.s ∧ (q.wr k s).other = q.other ∧ (q.wr k s).tail = q.tail := by
 unfold QN.wr
 split
 ·exact ⟨rfl, h, by omega, rfl, rfl, rfl⟩
 ·obtain ⟨h1, h2, h3⟩ := DN.write_fit h (k : Int) s
  exact ⟨h2, h1, h3, rfl, rfl, rfl⟩
theorem wrs_len (l : List (List UInt8)) : ∀ {q : QN} (_ : q.d.Fit) (k : Nat), (q.wrs k l).d.L.length = q.d.L.length ∧ (q.wrs k l).d.Fit ∧ (q.wrs k l).d.n ≤ q.d.n + l.length ∧ (q.wrs k l).s = q.s ∧ (q.wrs k l).other = q.other ∧ (q.wrs k l).tail = q.tail := by
 induction l with
 | nil => intro q h k; exact ⟨rfl, h, by simp [QN.wrs], rfl, rfl, rfl⟩
 | cons x l ih =>
  intro q h k
  obtain ⟨a1, a2, a3, a4, a5, a6⟩ := wr_len h k x
  obtain ⟨b1, b2, b3, b4, b5, b6⟩ := ih a2 (k + 1)
  rw [QN.wrs]
  exact ⟨b1.trans a1, b2, by rw [List.length_cons]; omega, b4.trans a4, b5.trans a5, b6.trans a6⟩
theorem write_zero {i : Int} (h : (d.write i s).2 = 0) : (d.write i s).1.down = false := by
 unfold DN.write at h ⊢
 split at h
 ·cases h
 ·rename_i h1
  rw [if_neg h1]
  split at h
  ·rename_i h2
   rw [if_pos h2]
   by_cases hl : d.left = 1
   ·dsimp only at h; rw [if_pos hl] at h; cases h
   ·simp [hl]
  ·cases h
theorem puts_up (l : List (List UInt8)) : ∀ (d : DN) (k : Nat), d.down = false → (d.puts k l).2 = true → (d.puts k l).1.down = false := by
 induction l with
 | nil => intro d k h _; exact h
 | cons s l ih =>
  intro d k h h2
  rw [DN.puts] at h2 ⊢
  by_cases h0 : (d.write (k : Int) s).2 = 0
  ·rw [if_pos h0] at h2 ⊢
   exact ih _ _ (write_zero h0) h2
  ·rw [if_neg h0] at h2; cases h2
theorem appD_up {a : Nat} {f : List UInt8} (h : (appD d a f).2 = true) : (appD d a f).1.down = false := by
 unfold appD at h ⊢
 split
 ·rename_i h1
  rw [if_pos h1] at h
  exact write_zero (of_decide_eq_true h)
 ·rename_i h1
  rw [if_neg h1] at h; cases h
theorem compD_up {o : Bool} (h : (compD d o s).2 = true) : (compD d o s).1.down = false := by
 unfold compD at h ⊢
 split
 ·rename_i h1
  rw [if_pos h1] at h
  exact write_zero (of_decide_eq_true h)
 ·rename_i h1
  rw [if_neg h1] at h; cases h
def QN.appW (q : QN) (a : Nat) (f : List UInt8) : QN := (q.wrs (firstN a) (zeroAt (a - 64 * firstN a) (secsN q.d.L.flatten a (f ++ [0])))).wr (firstN a) ((secsN q.d.L.flatten a (f ++ [0])).headD [])
theorem appW_eq (h : q.down = false) (a : Nat) (f : List UInt8) : q.appW a f = { q with d := (appD q.d a f).1, down := !(appD q.d a f).2 } := by
 unfold QN.appW appD
 rw [wrs_puts _ h]
 by_cases h2 : (q.d.puts (firstN a) (zeroAt (a - 64 * firstN a) (secsN q.d.L.flatten a (f ++ [0])))).2 = true
 ·rw [if_pos h2]
  unfold QN.wr
  rw [if_neg (by dsimp only; rw [h2]; simp)]
 ·rw [if_neg h2]
  unfold QN.wr
  rw [if_pos (by simpa using h2)]
  simp at h2
  rw [h2]
def QN.compW (q : QN) (f : List UInt8) : QN := q.wrs (firstN (beginN q.d.L.length (!q.other))) (secsN q.d.L.flatten (beginN q.d.L.length (!q.other)) (f ++ [0]))
theorem compW_eq (h : q.down = false) (f : List UInt8) : q.compW f = { q with d := (q.d.puts (firstN (beginN q.d.L.length (!q.other))) (secsN q.d.L.flatten (beginN q.d.L.length (!q.other)) (f ++ [0]))).1, down := !(q.d.puts (firstN (beginN q.d.L.length (!q.other))) (secsN q.d.L.flatten (beginN q.d.L.length (!q.other)) (f ++ [0]))).2 } := wrs_puts _ h _
structure QN.Like (a b : QN) : Prop where
 d : a.d = b.d
 s : a.s = b.s
 down : a.down = b.down
 up : b.down = false → a = b
theorem QN.Like.refl (q : QN) : QN.Like q q := ⟨rfl, rfl, rfl, fun _ => rfl⟩
theorem comp_like (h : q.down = false) (f : List UInt8) :
  (compD q.d q.other f).2 = (!(q.compW f).down && decide (((q.compW f).d.write 0 (headN (q.compW f).d (!q.other))).2 = 0)) ∧ (compD q.d q.other f).1 = if (q.compW f).down = true then (q.compW f).d else ((q.compW f).d.write 0 (headN (q.compW f).d (!q.other))).1 := by
 rw [compW_eq h]
 unfold compD
 dsimp only
 by_cases h2 : (q.d.puts (firstN (beginN q.d.L.length (!q.other))) (secsN q.d.L.flatten (beginN q.d.L.length (!q.other)) (f ++ [0]))).2 = true
 ·rw [if_pos h2, h2]; simp
 ·rw [if_neg h2]
  simp at h2
  rw [h2]; simp
structure QW (q : QN) : Prop where
 ok : q.s.Ok
 nine : 9 ≤ q.d.L.length
 fit : q.d.Fit
 up : q.down = false → q.d.down = false
 tail : q.down = false → q.tail ≤ q.sz
theorem appD_len (h : d.Fit) (_hd : d.down = false) (a : Nat) (f : List UInt8) (ha : a + f.length + 1 ≤ 64 * d.L.length) : (appD d a f).1.Fit ∧ (appD d a f).1.L.length = d.L.length ∧ (appD d a f).1.n ≤ d.n + d.L.length + 1 := by
 have e := appW_eq (q := ⟨d, SN.nil, false, 0, false⟩) rfl a f
 have e1 : (appD d a f).1 = (QN.appW ⟨d, SN.nil, false, 0, false⟩ a f).d := by rw [e]
 rw [e1]
 unfold QN.appW
 obtain ⟨a1, a2, a3, -⟩ := wrs_len (q := ⟨d, SN.nil, false, 0, false⟩) (zeroAt (a - 64 * firstN a) (secsN d.L.flatten a (f ++ [0]))) h (firstN a)
 obtain ⟨b1, b2, b3, -⟩ := wr_len a2 (firstN a) ((secsN d.L.flatten a (f ++ [0])).headD [])
 have hc : (zeroAt (a - 64 * firstN a) (secsN d.L.flatten a (f ++ [0]))).length ≤ d.L.length := by
  have : (zeroAt (a - 64 * firstN a) (secsN d.L.flatten a (f ++ [0]))).length = (secsN d.L.flatten a (f ++ [0])).length := by
   cases secsN d.L.flatten a (f ++ [0]) <;> rfl
  rw [this, secs_len]
  unfold countN
  rw [List.length_append, List.length_singleton]
  omega
 exact ⟨b2, b1.trans a1, by dsimp only at a3 b3 ⊢; omega⟩
theorem compD_len (h : d.Fit) (_hd : d.down = false) (o : Bool) (f : List UInt8) (h9 : 9 ≤ d.L.length) (ha : f.length + 1 ≤ szN d.L.length) : (compD d o f).1.Fit ∧ (compD d o f).1.L.length = d.L.length ∧ (compD d o f).1.n ≤ d.n + d.L.length + 1 := by
 have e := (comp_like (q := ⟨d, SN.nil, o, 0, false⟩) rfl f).2
 dsimp only at e
 rw [e]
 unfold QN.compW
 obtain ⟨a1, a2, a3, -⟩ := wrs_len (q := ⟨d, SN.nil, o, 0, false⟩) (secsN d.L.flatten (beginN d.L.length (!o)) (f ++ [0])) h (firstN (beginN d.L.length (!o)))
 have hs := sz_lt h9 (!o)
 have hc : (secsN d.L.flatten (beginN d.L.length (!o)) (f ++ [0])).length ≤ d.L.length := by
  rw [secs_len]
  unfold countN
  rw [List.length_append, List.length_singleton]
  omega
 dsimp only at a1 a2 a3 ⊢
 split
 ·exact ⟨a2, a1, by omega⟩
 ·obtain ⟨b1, b2, b3⟩ := DN.write_fit a2 0 (headN (QN.wrs ⟨d, SN.nil, o, 0, false⟩ (firstN (beginN d.L.length (!o))) (secsN d.L.flatten (beginN d.L.length (!o)) (f ++ [0]))).d (!o))
  exact ⟨b1, b2.trans a1, by omega⟩
theorem app_qw (h : QW q) (hu : q.down = false) (hr : r.ok = true) (hroom : q.tail + (14 + r.d.size) + 1 ≤ q.sz) : QW (q.app r).1 ∧ (q.app r).1.d.L.length = q.d.L.length ∧ (q.app r).1.d.n ≤ q.d.n + q.d.L.length + 1 ∧ ((q.app r).2 = 0 ∧ (q.app r).1.down = false ∨ (q.app r).2 = 180 ∧ (q.app r).1.down = true) := by
 have hs := sz_lt h.nine q.other
 have hf : (frameL r.n).length = 14 + r.d.size := by rw [frameL_length, ← list_size]; rfl
 have hsz : q.sz = szN q.d.L.length := rfl
 obtain ⟨a1, a2, a3⟩ := appD_len h.fit (h.up hu) (beginN q.d.L.length q.other + q.tail) (frameL r.n) (by rw [hf]; omega)
 have hup := appD_up (d := q.d) (a := beginN q.d.L.length q.other + q.tail) (f := frameL r.n)
 unfold QN.app QN.fin
 generalize appD q.d (beginN q.d.L.length q.other + q.tail) (frameL r.n) = p at *
 split
 ·rename_i h1
  refine ⟨⟨h.ok.tell (ok_num hr), by dsimp only; rw [a2]; exact h.nine, a1, fun _ => hup h1, fun _ => ?_⟩, a2, a3, .inl ⟨rfl, hu⟩⟩
  show q.tail + (14 + r.d.size) ≤ szN p.1.L.length
  rw [a2]; omega
 ·exact ⟨⟨h.ok, by dsimp only; rw [a2]; exact h.nine, a1, fun e => (by cases e), fun e => (by cases e)⟩, a2, a3, .inr ⟨rfl, rfl⟩⟩
theorem log_qw (h : QW q) (hu : q.down = false) (hr : r.ok = true) : QW (q.log r).1 ∧ (q.log r).1.d.L.length = q.d.L.length ∧ (q.log r).1.d.n ≤ q.d.n + (2 * q.d.L.length + 2) ∧ ((q.log r).2 = 0 ∧ (q.log r).1.down = false ∨ (q.log r).2 = 180 ∧ (q.log r).1.down = true ∨ (q.log r).2 = 194 ∧ (q.log r).1 = q) := by
 unfold QN.log
 split
 ·rename_i h1
  obtain ⟨a1, a2, a3, a4⟩ := app_qw h hu hr h1
  exact ⟨a1, a2, by omega, a4.elim .inl fun e => .inr (.inl e)⟩
 ·split
  ·rename_i h2
   have hlen : (layL (q.s.snap.map RI.n)).length = lenR q.s.snap := lay_lenR _
   have hsz : q.sz = szN q.d.L.length := rfl
   obtain ⟨b1, b2, b3⟩ := compD_len h.fit (h.up hu) q.other (layL (q.s.snap.map RI.n)) h.nine (by rw [hlen]; omega)
   split
   ·rename_i h3
    have hc : QW q.comp := ⟨h.ok, by show 9 ≤ (compD q.d q.other (layL (q.s.snap.map RI.n))).1.L.length; rw [b2]; exact h.nine, b1, fun _ => compD_up h3, fun _ => by show lenR q.s.snap ≤ szN (compD q.d q.other (layL (q.s.snap.map RI.n))).1.L.length; rw [b2]; omega⟩
    have hl : q.comp.d.L.length = q.d.L.length := b2
    obtain ⟨a1, a2, a3, a4⟩ := app_qw (q := q.comp) hc hu hr (by show lenR q.s.snap + (14 + r.d.size) + 1 ≤ szN q.comp.d.L.length; rw [hl]; omega)
    have hn : q.comp.d.n ≤ q.d.n + q.d.L.length + 1 := b3
    rw [hl] at a3
    exact ⟨a1, a2.trans hl, by omega, a4.elim .inl fun e => .inr (.inl e)⟩
   ·exact ⟨⟨h.ok, by dsimp only; rw [b2]; exact h.nine, b1, fun e => (by cases e), fun e => (by cases e)⟩, b2, by dsimp only; omega, .inr (.inl ⟨rfl, rfl⟩)⟩
  ·exact ⟨h, rfl, Nat.le_add_right _ _, .inr (.inr ⟨rfl, rfl⟩)⟩
theorem QN.Like.qw {a b : QN} (h : QN.Like a b) (hw : QW b) : QW a := by
 obtain ⟨h1, h2, h3, h4⟩ := h
 refine ⟨by rw [h2]; exact hw.ok, by rw [h1]; exact hw.nine, by rw [h1]; exact hw.fit, fun e => ?_, fun e => ?_⟩
 ·rw [h1]; exact hw.up (h3 ▸ e)
 ·rw [h4 (h3 ▸ e)]; exact hw.tail (h3 ▸ e)
end Go.Proofs.YtmebjdbkngehiaaGreatDoor
namespace Go.Proofs.YtmebjdbkngehiaaGreatDoor
open Go.RowKit Go.Shelf
set_option maxHeartbeats 4000000
attribute [local go_sem] Oper.semAt_some
def chunkV (ab i : Nat) : Value := .slice (some ⟨ab, i * 64, none⟩) 64 64
def chunkE (ab i : Nat) : Array Value := #[chunkV ab i]
theorem infoBB : (Tryz.prog.info? 36).map (fun i => (i.zero, i.size, i.bytes)) = some (some (.slice none 0 0), 1, 24) := by kernel_rfl
set_option maxRecDepth 100000 in
theorem chunk_any (ab n cp : Nat) (w : World) : Calls Tryz.prog 166 #[.slice (some ⟨ab, 0, none⟩) n cp, .int .i64 64] w fun e w' => e = .returned (.func (.func 182) #[] #[.pointer (some ⟨w.heap.size, 0, none⟩), .pointer (some ⟨w.heap.size + 1, 0, none⟩)]) ∧
  (w.alloc (.cells #[.slice (some ⟨ab, 0, none⟩) n cp] 36)).alloc (.cells #[.int .i64 64] 3) = w' := by
 go_enter Tryz.func166, Tryz.ntmps166
 go_wp2_with fail
 go_ret
 exact ⟨by simp, rfl⟩
set_option maxRecDepth 100000 in
theorem chunk_seq (ab N cp : Nat) (hN : N ≤ 256) (hcp : N * 64 ≤ cp) (B1 B2 m : Nat) :
  SeqW Fence.wide m Tryz.prog 182 #[.pointer (some ⟨B1, 0, none⟩), .pointer (some ⟨B2, 0, none⟩)] (chunkE ab)
   (fun A B => ∀ k, k = B1 ∨ k = B2 → B.heap[k]? = A.heap[k]?) (fun A B => Below A.heap.size A B) (fun pre x => ∃ t, List.range N = pre ++ x :: t)
   (fun xs _ => xs = List.range N) (fun _ => True)
   (fun W => Blk W B1 36 #[.slice (some ⟨ab, 0, none⟩) (N * 64) cp] ∧ Blk W B2 3 #[.int .i64 64]) := by
 rintro l J Jx W ⟨hb1, hb2⟩ hJ hJx hY h0
 refine callsIn_of_wp Tryz.func182 rfl trivial ?_ rfl
 simp only [Tryz.ntmps182, List.size_toArray, List.length_cons, List.length_nil, Nat.reduceAdd, Nat.reduceSub, Array.replicate_succ, Array.replicate_zero, List.push_toArray, List.append_toArray, List.nil_append, List.cons_append]
 gi_wp2
 gi_loopw [4] (fun i wr => ∃ k : Nat, k ≤ N ∧ i = .int .i64 ((k * 64 : Nat) : Int) ∧ J (List.range k) wr ∧ Blk wr B1 36 #[.slice (some ⟨ab, 0, none⟩) (N * 64) cp] ∧ Blk wr B2 3 #[.int .i64 64]) (fun i _ => N * 64 - (intOf i).toNat)
 case atStart => exact ⟨0, Nat.zero_le _, rfl, h0, hb1, hb2⟩
 case round =>
  obtain ⟨k, hk, rfl, hJk, hk1, hk2⟩ := hrel
  have c1 := hk1.c1.1
  have c2 := hk2.c1.1
  by_cases hlt : k < N
  ·have hsplit : List.range N = List.range k ++ k :: (List.range N).drop (k + 1) := by
    have e1 : (List.range N).take k = List.range k := by rw [List.take_range, Nat.min_eq_left (by omega)]
    have e2 : (List.range N)[k]'(by simpa using hlt) = k := by simp
    conv => lhs; rw [← List.take_append_drop k (List.range N), List.drop_eq_getElem_cons (by simpa using hlt), e1, e2]
   have hy := hY (List.range k) k wr.drew (hJ _ _ _ hJk (Below.refl _ wr).drew) ⟨_, hsplit⟩
   obtain ⟨fnn, tmps, assign, body, hy, hR2⟩ := hy
   have hnext : List.range (k + 1) = List.range k ++ [k] := List.range_succ
   have HN := Lib.hid hnext
   have i1 : ((k * 64 : Nat) : Int) < ((N * 64 : Nat) : Int) := by omega
   have HK1 := Lib.hid (show ∀ W3 : World, (∀ j, j = B1 ∨ j = B2 → W3.heap[j]? = wr.heap[j]?) → Blk W3 B1 36 #[.slice (some ⟨ab, 0, none⟩) (N * 64) cp] ∧ Blk W3 B2 3 #[.int .i64 64] from fun W3 q => ⟨hk1.kept (q _ (.inl rfl)), hk2.kept (q _ (.inr rfl))⟩)
   unfold chunkE chunkV at hy
   clear hsplit hnext hJk hk1 hk2
   gi_wp2
   gi_region
   gi_wp2
   refine ⟨fun hd => (by cases hd), hR2.mono ?_⟩
   rintro e W3 (⟨rfl, hJ3, hk3⟩ | ⟨rfl, hJx3⟩)
   ·obtain ⟨q1, q2⟩ := HK1.out W3 hk3
    have c1 := q1.c1.1
    have c2 := q2.c1.1
    gi_wp2
    refine ⟨⟨k + 1, by omega, by go_num, by rw [HN.out]; exact hJ3, q1, q2⟩, ?_⟩
    simp [intOf]; omega
   ·gi_wp2
    refine bodyPost_ret (results_none rfl _ _ _) rfl ?_
    exact ⟨⟨_, rfl⟩, .inr ⟨_, trivial, hJx3⟩⟩
  ·gi_wp2
   go_end0
   obtain rfl : k = N := by omega
   exact ⟨⟨_, rfl⟩, .inl ⟨_, rfl, hJk⟩⟩
structure ChB (e ab n : Nat) (w W : World) (V : Value) : Prop where
 l : Blk W e 213 #[V]
 own : W.ownsRow (e + 2) 36 1 V n ((List.range n).map (chunkV ab))
 below : Below e w W
 size : e + 1 ≤ W.heap.size
theorem ChB.app {e ab n : Nat} {w A W : World} {V v' : Value} {o : Obj} (h : ChB e ab n w A V) (hown : W.ownsRow (e + 2) 36 1 v' (n + 1) ((List.range n).map (chunkV ab) ++ [chunkV ab n])) (hg : (A.alloc o).grownBy W V.ownBlock) (he : e ≤ w.heap.size) (hs : e + 2 ≤ A.heap.size) :
  ChB e ab (n + 1) w (W.setCell ⟨e, 0, none⟩ v') v' ∧ KeepsOthers A (W.setCell ⟨e, 0, none⟩ v') ∧ (∀ k, k < A.heap.size → k ≠ e → k < e + 2 → (W.setCell ⟨e, 0, none⟩ v').heap[k]? = A.heap[k]?) ∧ Blk W e 213 #[V] := by
 have ho : ∀ k, some k = V.ownBlock → e + 2 ≤ k := fun k hk => (h.own.lt k hk.symm).1
 have low : ∀ k, k < A.heap.size → k < e + 2 → W.heap[k]? = A.heap[k]? := fun k hk h3 => (hg.block k (by rw [World.size_alloc]; omega) (fun q => by have := ho k q; omega)).trans (Below.heap_alloc _ _ _ hk)
 have hl : Blk W e 213 #[V] := h.l.kept (low _ (by omega) (by omega))
 refine ⟨⟨hl.set_ 0 v', ?_, ?_, ?_⟩, ?_, fun k a b c => (Below.heap_setCell _ _ _ _ (by simpa using b)).trans (low k a c), hl⟩
 ·rw [List.range_succ, List.map_append]
  exact own_besides hown ((Besides.refl e W).set_ 0 v') (by omega)
 ·exact (below_append (h.below.alloc (by omega) o) (h.own.alloc o) (by omega) he hg).setCell (p := ⟨e, 0, none⟩) (show e ≤ e by omega) _
 ·rw [World.size_setCell]; have := hg.size; rw [World.size_alloc] at this; omega
 ·exact ((KeepsOthers.alloc A o).trans (KeepsOthers.of_grownBy hg (fun j o' ej hj => own_cells (h.own.alloc o) ej hj))).trans (KeepsOthers.setCell W _ _)
set_option maxRecDepth 100000 in
theorem appseq_any (ab N cp B1 B2 : Nat) (hN : N ≤ 256) (hcp : N * 64 ≤ cp) (w : World) (h1 : Blk w B1 36 #[.slice (some ⟨ab, 0, none⟩) (N * 64) cp]) (h2 : Blk w B2 3 #[.int .i64 64]) :
  Calls Tryz.prog 181 #[.slice none 0 0, .func (.func 182) #[] #[.pointer (some ⟨B1, 0, none⟩), .pointer (some ⟨B2, 0, none⟩)]] w fun e w' => ∃ V, e = .returned V ∧ w'.ownsRow w.heap.size 36 1 V N ((List.range N).map (chunkV ab)) ∧ Below w.heap.size w w' := by
 obtain ⟨i0, hi0, hz0, hz1, hz2⟩ := info_parts infoBB
 refine callsIn_wide.1 (callsIn_of_wp_marks (n := 5) Tryz.func181 rfl trivial ?_ rfl)
 simp only [Tryz.ntmps181, List.size_toArray, List.length_cons, List.length_nil, Nat.reduceAdd, Nat.reduceSub, Array.replicate_succ, Array.replicate_zero, List.push_toArray, List.append_toArray, List.nil_append, List.cons_append]
 refine wpIn_wide.2 ?_
 go_wp2_with fail
 obtain ⟨e, he⟩ : ∃ e, w.heap.size = e := ⟨_, rfl⟩
 have l1 := h1.lt
 have l2 := h2.lt
 have p0 : ChB e ab 0 w (w.alloc (.cells #[.slice none 0 0] 213)) (.slice none 0 0) := ⟨Blk.at_ he.symm, own_nil, by rw [← he]; exact ext_new w _, by simp [he]⟩
 have p1 := h1.alloc (.cells #[.slice none 0 0] 213)
 have p2 := h2.alloc (.cells #[.slice none 0 0] 213)
 have hW5s : (w.alloc (.cells #[.slice none 0 0] 213)).heap.size = e + 1 := by simp [he]
 have HE := Lib.hid he
 rw [he] at l1 l2 ⊢
 generalize w.alloc (.cells #[.slice none 0 0] 213) = W5 at *
 clear he h1 h2
 refine wpIn_wide.1 (wpIn_rangeX (n := 5) (gf := 182) (lb := #[.pointer (some ⟨B1, 0, none⟩), .pointer (some ⟨B2, 0, none⟩)]) rfl (by omega) rfl trivial (enters_of Tryz.func182 (by kernel_rfl) rfl)
  (chunk_seq ab N cp hN hcp B1 B2 _) (fun _ => rfl) ?hSt ?hSe (fun h k i hi => (k i hi).trans (h i hi)) ?hKb ?hMb
  (fun pre W => ∃ V, ChB e ab pre.length w W V) (fun _ _ _ => False) ?hI (fun _ _ _ _ _ h _ _ => h) ?hIM (fun _ _ _ _ h _ => h) ⟨_, p0⟩ ?hround ?hdone (fun _ _ _ _ h _ => h.elim))
 case hSt => exact fun o o' => ⟨(p1.alloc _).alloc _, (p2.alloc _).alloc _⟩
 case hSe => exact fun xs W l o o' _ _ _ h => h
 case hKb =>
  intro W l o o' hl2 ho _ k hk
  exact World.putObj_heap_other (by rcases hk with rfl | rfl <;> omega)
 case hMb =>
  rintro A B hM l o hl ho _
  exact (hM.block l (Array.getElem?_eq_some_iff.1 ho).1).trans ho
 case hI =>
  rintro pre A B row ⟨V, b⟩ hgr hr
  have := hgr.size
  exact ⟨V, b.l.kept (hgr.block _ b.l.lt (fun q => by have := (hr _ q.symm).1; omega)), own_other b.own hgr (fun r e => (hr r e).2), b.below.grown hgr (by have := b.size; omega) (fun r e => by have := (hr r e).1; omega), by have := b.size; omega⟩
 case hIM =>
  rintro pre A B ⟨V, b⟩ hM
  have := hM.size
  exact ⟨V, b.l.below hM, own_below b.own hM, b.below.trans (hM.mono (by have := b.size; omega)), by have := b.size; omega⟩
 case hround =>
  rintro l pre x W hIp ⟨t, ht⟩ hlW
  obtain ⟨hxp, hpl⟩ : x = pre.length ∧ pre.length < N := by
   have e1 := congrArg (fun y : List Nat => y[pre.length]?) ht
   have e2 := congrArg List.length ht
   simp only [List.length_range, List.length_append, List.length_cons] at e2
   have hlt : pre.length < N := by omega
   simp only [List.getElem?_append_right (Nat.le_refl _), Nat.sub_self, List.getElem?_cons_zero, List.getElem?_range hlt] at e1
   injection e1 with e1
   exact ⟨e1.symm, hlt⟩
  subst hxp
  unfold chunkE
  simp only [List.zip_toArray, List.zip_cons_cons, List.zip_nil_right, List.foldl_toArray, List.foldl_cons, List.foldl_nil, List.setIfInBounds_toArray, List.set_cons_succ, List.set_cons_zero]
  gi_wp2
  refine ⟨KeepsFrom.refl _ _, fun _ _ => trivial, hIp, ?_⟩
  rintro Wb ⟨V, hS⟩ hWb
  have hs3 : e + 2 ≤ Wb.heap.size := by
   have h1 : Wb.heap[e + 1]? = W.heap[e + 1]? := hWb (e + 1) (by omega)
   rw [Array.getElem?_eq_getElem (show e + 1 < W.heap.size by omega)] at h1
   have := (Array.getElem?_eq_some_iff.1 h1).1
   omega
  clear hWb hIp hlW
  obtain ⟨A1, c1, rfl⟩ := own_form hS.own
  have cV := hS.l.c1.1
  have hown := hS.own
  have hone : ∀ u ∈ [chunkV ab pre.length], u.oneCell' = true := by
   intro u hu
   rw [List.mem_singleton] at hu
   subst hu; rfl
  have hnw := new_cells Wb [chunkV ab pre.length] 36
  have HAP := Lib.hid (fun (v' : Value) (W2 : World) q1 q2 => ChB.app (v' := v') (W := W2) (o := .cells #[chunkV ab pre.length] 36) hS q1 q2 (Nat.le_of_eq HE.out.symm) hs3)
  have HPL := Lib.hid hpl
  unfold chunkV at hone hnw
  unfold chunkV
  have hps : (pre ++ [pre.length]).length = pre.length + 1 := by simp
  have HPS := Lib.hid hps
  clear hS ht hps
  gi_wp2_with (gi_at_builtin; refine wpListIn_append_own _ rfl (.tmp 8) (.tmp 10) 213 rfl (e + 2) 36 i0 (.slice none 0 0) 1 24 Tryz.underlying213 hi0 hz0 hz1 hz2 rfl (by omega) (.slice A1 pre.length c1) pre.length ((List.range pre.length).map (chunkV ab)) rfl (hown.alloc _) ⟨Wb.heap.size, 0, none⟩ 1 1 [.slice (some ⟨ab, pre.length * 64, none⟩) 64 64] rfl rfl hnw hone (by unfold maxLen; omega) (by omega) (by simp; omega) ?_; intro v' w4 hown4 hgrow _; obtain ⟨A', c', rfl⟩ := own_form hown4; have hfin := HAP.out _ w4 hown4 hgrow; have cbx := hfin.2.2.2.c1.1; have fbx := hfin.2.2.2.c1.2)
  exact ⟨hfin.2.1.from _, fun k hk => hfin.2.2.1 k (by rcases hk with rfl | rfl <;> omega) (by rcases hk with rfl | rfl <;> omega) (by rcases hk with rfl | rfl <;> omega), _, by rw [HPS.out]; exact hfin.1⟩
 case hdone =>
  rintro xs W hxs ⟨V, b⟩ hD
  have hxs : xs = List.range N := hxs
  subst hxs
  rw [List.length_range] at b
  obtain ⟨A1, c1, rfl⟩ := own_form b.own
  have cV := b.l.c1.1
  have hD2 := hD
  rw [hW5s] at hD2
  have HO := Lib.hid b.own
  have HB := Lib.hid b.below
  have HZ := Lib.hid b.size
  clear b
  go_wp2_with fail
  refine ⟨by simp, .inl ⟨_, _, rfl, run_takeDeferred hD2, ?_⟩⟩
  refine ⟨_, results_tmp rfl _ _ _, _, rfl, ?_, ?_⟩
  ·exact (own_base (own_other HO.out (grownBy_putObj' W (e + 1) _) (fun r q => by cases q; exact ⟨_, hD2, rfl⟩)) (by have := HE.out; omega))
  ·exact HE.out ▸ HB.out.grown (grownBy_putObj' W (e + 1) _) (by have := HB.out.size; have := HZ.out; omega) (fun k q => by cases q; omega)
set_option maxRecDepth 100000 in
theorem collect_any (ab N cp B1 B2 : Nat) (hN : N ≤ 256) (hcp : N * 64 ≤ cp) (w : World) (h1 : Blk w B1 36 #[.slice (some ⟨ab, 0, none⟩) (N * 64) cp]) (h2 : Blk w B2 3 #[.int .i64 64]) :
  Calls Tryz.prog 165 #[.func (.func 182) #[] #[.pointer (some ⟨B1, 0, none⟩), .pointer (some ⟨B2, 0, none⟩)]] w fun e w' => ∃ V, e = .returned V ∧ w'.ownsRow w.heap.size 36 1 V N ((List.range N).map (chunkV ab)) ∧ Below w.heap.size w w' := by
 have hA := appseq_any ab N cp B1 B2 hN hcp w h1 h2
 clear h1 h2
 go_enter Tryz.func165, Tryz.ntmps165
 go_wp2_with fail
 refine hA.mono ?_
 rintro e w1 ⟨V, rfl, ho, hb⟩
 go_wp2_with fail
 go_ret
 exact ⟨V, rfl, ho, hb⟩
end Go.Proofs.YtmebjdbkngehiaaGreatDoor
namespace Go.Proofs.YtmebjdbkngehiaaGreatDoor
open Go.RowKit
set_option maxHeartbeats 4000000
variable {w w' : World} {b p g k : Nat} {c c' : QC} {v : QV} {q : QN} {d : DN} {F : Nat → Prop} {ss : List (List UInt8)} {aA aT aN aW aS : Addr}
theorem blk_ne {a : Nat} {T1 T2 : TypeId} {cs ds : Array Value} (h1 : Blk w a T1 cs) (h2 : Blk w b T2 ds) (hT : T1 ≠ T2) : a ≠ b := by
 intro e
 subst e
 unfold Blk at h1 h2
 rw [h1] at h2
 injection h2 with h2
 injection h2 with _ h2
 exact hT h2
theorem QAt.turn (h : QAt w c v p g q) (hd : DAt w' p g d) (hb : But2 p g w w') (hl : d.L.length = q.d.L.length) : QAt w' c v p g { q with d := d } := by
 refine ⟨h.st.kept fun k hk => hb.block k (h.st.lt hk) ?_ ?_, ⟨h.cells.x3, h.cells.x4, h.cells.x5, h.cells.x6⟩, hd, by rw [show ({ q with d := d } : QN).d.L.length = d.L.length from rfl, hl]; exact h.pos⟩
 ·intro e
  subst e
  rcases hk with e | e | e | e
  ·exact blk_ne h.disk.disk h.st.blk (by decide) e
  ·exact own_type h.st.ids h.disk.disk (by decide) e
  ·exact own_type h.st.txt h.disk.disk (by decide) e
  ·exact own_type h.st.ent h.disk.disk (by decide) e
 ·intro e
  subst e
  rcases hk with e | e | e | e
  ·exact blk_ne h.disk.secs h.st.blk (by decide) e
  ·exact own_type h.st.ids h.disk.secs (by decide) e
  ·exact own_type h.st.txt h.disk.secs (by decide) e
  ·exact own_type h.st.ent h.disk.secs (by decide) e
theorem SAt.setC {s : SN} (h : SAt w c v s) (i : Nat) (u : Value) (hb : c'.b = c.b) (he : (#[v.i, v.l, v.e, c.x3, c.x4, c.x5, c.x6] : Array Value).setIfInBounds i u = #[v.i, v.l, v.e, c'.x3, c'.x4, c'.x5, c'.x6]) : SAt (w.setCell ⟨c.b, i, none⟩ u) c' v s := by
 refine ⟨?_, own_set h.ids (own_type h.ids h.blk (by decide)) i u, own_set h.txt (own_type h.txt h.blk (by decide)) i u, own_set h.ent (own_type h.ent h.blk (by decide)) i u⟩
 have q := h.blk.set_ i u
 rw [he] at q
 rw [hb]; exact q
theorem DAt.setC (h : DAt w p g d) (h1 : b ≠ p) (h2 : b ≠ g) (i : Nat) (u : Value) : DAt (w.setCell ⟨b, i, none⟩ u) p g d :=
 ⟨h.disk.set_other (Ne.symm h1) i u, h.secs.set_other (Ne.symm h2) i u, h.ne, h.fit, h.len, h.left, h.n⟩
theorem QAt.setDown (h : QAt w c v p g q) (b : Bool) : QAt (w.setCell ⟨c.b, 6, none⟩ (.bool b)) ⟨c.b, c.x3, c.x4, c.x5, .bool b⟩ v p g { q with down := b } :=
 ⟨h.st.setC 6 (.bool b) rfl rfl, ⟨h.cells.x3, h.cells.x4, h.cells.x5, rfl⟩, h.disk.setC (blk_ne h.st.blk h.disk.disk (by decide)) (blk_ne h.st.blk h.disk.secs (by decide)) _ _, h.pos⟩
theorem QAt.setTail (h : QAt w c v p g q) (t : Nat) : QAt (w.setCell ⟨c.b, 4, none⟩ (.int .i64 (t : Int))) ⟨c.b, c.x3, .int .i64 (t : Int), c.x5, c.x6⟩ v p g { q with tail := t } :=
 ⟨h.st.setC 4 _ rfl rfl, ⟨h.cells.x3, rfl, h.cells.x5, h.cells.x6⟩, h.disk.setC (blk_ne h.st.blk h.disk.disk (by decide)) (blk_ne h.st.blk h.disk.secs (by decide)) _ _, h.pos⟩
theorem QAt.setOther (h : QAt w c v p g q) (o : Bool) : QAt (w.setCell ⟨c.b, 3, none⟩ (.bool o)) ⟨c.b, .bool o, c.x4, c.x5, c.x6⟩ v p g { q with other := o } :=
 ⟨h.st.setC 3 _ rfl rfl, ⟨rfl, h.cells.x4, h.cells.x5, h.cells.x6⟩, h.disk.setC (blk_ne h.st.blk h.disk.disk (by decide)) (blk_ne h.st.blk h.disk.secs (by decide)) _ _, h.pos⟩
theorem But2.foot (h : But2 p g w w') (c : QC) (v : QV) : Foot (QF2 c v p g) w w' :=
 ⟨h.os, h.tape, h.output, h.size, fun k hk hn => h.block k hk (fun e => hn (.inr (.inl e))) (fun e => hn (.inr (.inr e)))⟩
def QKept (w : World) (c : QC) (v : QV) (p g : Nat) (q' : QN) (w' : World) : Prop := ∃ c', c'.b = c.b ∧ QAt w' c' v p g q' ∧ Foot (QF2 c v p g) w w'
theorem qf_b (h : c'.b = c.b) (v : QV) (p g k : Nat) : QF2 c' v p g k ↔ QF2 c v p g k := by unfold QF2 QF; rw [h]
theorem QKept.went (h : QKept w c v p g q w') : QWent w c v p g q w' := by
 obtain ⟨c', h1, h2, h3⟩ := h
 exact ⟨c', v, h1, h2, h3, fun k hk => .inl ((qf_b h1 v p g k).1 hk)⟩
theorem QKept.trans {w1 w2 : World} {c1 : QC} {q2 : QN} (hb : c1.b = c.b) (F1 : Foot (QF2 c v p g) w w1) (h : QKept w1 c1 v p g q2 w2) : QKept w c v p g q2 w2 := by
 obtain ⟨c2, h1, h2, h3⟩ := h
 exact ⟨c2, h1.trans hb, h2, F1.trans h3 fun k hk => .inl ((qf_b hb v p g k).1 hk)⟩
def SecsAt (F : Nat → Prop) (w : World) (A : Option Addr) (ss : List (List UInt8)) : Prop :=
 0 < ss.length → ∃ a, A = some ⟨a, 0, none⟩ ∧ a < w.heap.size ∧ ¬ F a ∧ ∀ i (h : i < ss.length), ∃ b o c, w.cell? ⟨a, i, none⟩ = some (.slice (some ⟨b, o, none⟩) ss[i].length c) ∧ b < w.heap.size ∧ ¬ F b ∧
  ∀ j (hj : j < ss[i].length), w.cell? ⟨b, o + j, none⟩ = some (cellB ss[i][j])
theorem SecsAt.foot {A : Option Addr} (h : SecsAt F w A ss) (hf : Foot F w w') : SecsAt F w' A ss := by
 intro h0
 obtain ⟨a, h1, h2, h3, h4⟩ := h h0
 have hs := hf.size
 refine ⟨a, h1, by omega, h3, fun i hi => ?_⟩
 obtain ⟨b, o, c, k1, k2, k3, k4⟩ := h4 i hi
 refine ⟨b, o, c, by rw [World.cell?_of_block (hf.block a h2 h3)]; exact k1, by omega, k3, fun j hj => by rw [World.cell?_of_block (hf.block b k2 k3)]; exact k4 j hj⟩
theorem conv_cells {W : World} {o c : Nat} (l : List UInt8) (h : ∀ j (hj : j < l.length), W.cell? ⟨b, o + j, none⟩ = some (cellB l[j])) : (convert 36 9 (.slice (some ⟨b, o, none⟩) l.length c)).run Tryz.prog W = .ok (.string ⟨l.toArray⟩) W := by
 refine run_convert_bytes_back (P := Tryz.prog) _ 36 9 5 ⟨b, o, none⟩ c l Tryz.underlying36 Tryz.underlying5 Tryz.underlying9 (fun j hj => ?_)
 have ha : (⟨b, o, none⟩ : Addr).add j = ⟨b, o + j, none⟩ := by unfold Addr.add; split <;> simp_all
 rw [ha, h j hj]
 rfl
structure GInv (w : World) (aA aT aN aW aS : Addr) : Prop where
 d : DInv w aN aW aS
 c : CInv w aA aT aN aW aS
theorem GInv.below (h : GInv w aA aT aN aW aS) (hb : Below w.heap.size w w') : GInv w' aA aT aN aW aS := ⟨h.d.below hb, h.c.below hb⟩
def Glb (F : Nat → Prop) (aA aT aN aW aS : Addr) (w : World) : Prop := ∀ w', Foot F w w' → GInv w' aA aT aN aW aS
theorem Glb.here (h : Glb F aA aT aN aW aS w) : GInv w aA aT aN aW aS := h w (Foot.refl F w)
theorem Glb.later {G : Nat → Prop} (h : Glb F aA aT aN aW aS w) (hf : Foot F w w') (hG : ∀ k, G k → F k ∨ w.heap.size ≤ k) : Glb G aA aT aN aW aS w' := fun w2 h2 => h w2 (hf.trans h2 hG)
theorem Glb.foot (h : Glb F aA aT aN aW aS w) (hf : Foot F w w') : Glb F aA aT aN aW aS w' := h.later hf fun _ q => .inl q
theorem wr_up (h : q.down = false) (k : Nat) (s : List UInt8) : q.wr k s = { q with d := (q.d.write (k : Int) s).1, down := !decide ((q.d.write (k : Int) s).2 = 0) } := by unfold QN.wr; rw [if_neg (by rw [h]; decide)]
theorem wrs_next {j : Nat} (hj : j < ss.length) : q.wrs k (ss.take (j + 1)) = (q.wrs k (ss.take j)).wr (k + j) ss[j] := by
 rw [List.take_succ_eq_append_getElem hj, wrs_snoc, List.length_take, Nat.min_eq_left (by omega)]
theorem wr_end {wr w5 : World} {s : List UInt8} (hb : c'.b = c.b) (h : QAt wr c' v p g q) (hf : Foot (QF2 c v p g) w wr) (hu : q.down = false) (hd : DAt w5 p g (q.d.write (k : Int) s).1) (h2 : But2 p g wr w5) :
  w5.cell? ⟨c.b, 5, none⟩ = some (.pointer (some ⟨p, 0, none⟩)) ∧ w5.cell? ⟨c.b, 6, none⟩ = some (.bool q.down) ∧ w5.frozen? ⟨c.b, 6, none⟩ = false ∧
  (w5.setCell ⟨c.b, 6, none⟩ (.bool (!decide ((q.d.write (k : Int) s).2 = 0)))).cell? ⟨c.b, 5, none⟩ = some (.pointer (some ⟨p, 0, none⟩)) ∧
  ∃ c', c'.b = c.b ∧ QAt (w5.setCell ⟨c.b, 6, none⟩ (.bool (!decide ((q.d.write (k : Int) s).2 = 0)))) c' v p g (q.wr k s) ∧ Foot (QF2 c v p g) w (w5.setCell ⟨c.b, 6, none⟩ (.bool (!decide ((q.d.write (k : Int) s).2 = 0)))) := by
 have t := h.turn hd h2 (DN.write_fit h.disk.fit (k : Int) s).2.1
 have t2 := t.setDown (!decide ((q.d.write (k : Int) s).2 = 0))
 rw [hb] at t2
 have c1 := t.blk.c7
 have c2 := t2.blk.c7
 rw [hb] at c1
 refine ⟨c1.1.2.2.2.2.2.1, c1.1.2.2.2.2.2.2, c1.2.2.2.2.2.2.2, c2.1.2.2.2.2.2.1, ⟨c.b, c'.x3, c'.x4, c'.x5, .bool (!decide ((q.d.write (k : Int) s).2 = 0))⟩, rfl, ?_, ((hf.trans (h2.foot c v) fun _ e => .inl e).set (.inl (.inl (.inl rfl))) _ _)⟩
 rw [wr_up hu]
 exact t2
set_option maxRecDepth 100000 in
theorem qwrite_any (k n cp : Nat) (A : Option Addr) (ss : List (List UInt8)) (h : QAt w c v p g q) (hG : Glb (QF2 c v p g) aA aT aN aW aS w) (hS : SecsAt (QF2 c v p g) w A ss) (hn : ss.length = n) (hw : q.d.n + n ≤ 1000000) (hl : n ≤ 1000) (hk : k ≤ 1000) :
  Calls Tryz.prog 138 #[.pointer (some ⟨c.b, 0, none⟩), .int .i64 (k : Int), .slice A n cp] w fun e w' => e = .returned (.tuple #[]) ∧ QKept w c v p g (q.wrs k ss) w' := by
 go_enter Tryz.func138, Tryz.ntmps138
 go_wp2_with fail
 go_loopw [10] (fun i wr => ∃ j : Nat, j ≤ n ∧ i = .int .i64 (j : Int) ∧ QKept w c v p g (q.wrs k (ss.take j)) wr) (fun i _ => n - (intOf i).toNat)
 case atStart => exact ⟨0, Nat.zero_le _, rfl, c, rfl, h, Foot.refl _ w⟩
 case round =>
  obtain ⟨j, hj, rfl, c', hcb, hq, hf⟩ := hrel
  by_cases hlt : j < n
  ·have hjs : j < ss.length := by omega
   have HNX := Lib.hid (wrs_next (q := q) (k := k) hjs)
   have hqn := (wrs_len (ss.take j) h.disk.fit k).2.2.1
   have hlt2 : (ss.take j).length = j := by rw [List.length_take]; omega
   rw [hlt2] at hqn
   obtain ⟨a, rfl, -, -, hr⟩ := (hS.foot hf) (by omega)
   obtain ⟨b, o, cc, y1, -, -, y2⟩ := hr j hjs
   have hcv := conv_cells (W := wr.drew) (c := cc) ss[j] y2
   have x6 := hq.blk.c7.1.2.2.2.2.2.2
   have x5 := hq.blk.c7.1.2.2.2.2.2.1
   rw [hcb] at x5 x6
   have i0 : (0 : Int) ≤ (j : Int) := by omega
   have i1 : (j : Int) < (n : Int) := by omega
   have i2 : (j : Int) ≤ 1000 := by omega
   have i3 : (k : Int) ≤ 1000 := by omega
   have i4 : (0 : Int) ≤ (k : Int) := by omega
   have hwr : IntKind.i64.wrap ((k : Int) + (j : Int)) = (k : Int) + (j : Int) := IntWalk.i64_in _ (by omega)
   have hkj : ((k + j : Nat) : Int) = (k : Int) + (j : Int) := by omega
   obtain ⟨s, hs⟩ : ∃ s, ss[j] = s := ⟨_, rfl⟩
   rw [hs] at hcv HNX y1
   have hI := (hG _ hf).d.s
   generalize q.wrs k (ss.take j) = q1 at *
   by_cases hdn : q1.down = true
   ·rw [hdn] at x6
    have HEND := Lib.hid (show QKept w c v p g (q.wrs k (ss.take (j + 1))) wr from ⟨c', hcb, by rw [HNX.out, wr_down hdn]; exact hq, hf⟩)
    clear hq hf hr y2 hcv hdn hS h hG hI
    go_wp2_with fail
    go_roundw
    ·exact ⟨j + 1, by omega, by go_num, HEND.out⟩
    ·simp [intOf]; omega
   ·have hdn2 : q1.down = false := by simpa using hdn
    rw [hdn2] at x6
    have HE := Lib.hid (fun (w5 : World) (hd5 : DAt w5 p g (q1.d.write ((k + j : Nat) : Int) s).1) (hb5 : But2 p g wr.drew w5) => wr_end hcb (hq.below (Below.refl _ wr).drew) (hf.ext (Below.refl _ wr).drew) hdn2 hd5 hb5)
    have HW := Write_any ((k + j : Nat) : Int) ⟨s.toArray⟩ ((hq.below (Below.refl _ wr).drew).disk) (hI.below (Below.refl _ wr).drew) (by omega)
    rw [show (⟨s.toArray⟩ : ByteArray).data.toList = s by simp, hkj] at HW
    rw [hkj] at HE
    rw [hdn2] at HE
    have HNX2 := Lib.hid HNX.out
    clear hq hf hr y2 hdn hS h hG hI hdn2 HNX hqn
    go_wp2_with fail
    refine wp_region_held_drew (S := (fun W : World => W.cell? ⟨c.b, 5, none⟩ = some (.pointer (some ⟨p, 0, none⟩)))) (by kernel_rfl) x5 (fun hHeld => ?_)
    generalize wr.drew = W0 at *
    refine tk_ 0 20 rfl rfl ?_
    refine tk_ 1 21 rfl rfl ?_
    refine tk_ 2 22 rfl rfl ?_
    refine tk_ 3 23 rfl rfl ?_
    refine tk_ 4 24 rfl rfl ?_
    refine tk_ 5 25 rfl rfl ?_
    refine tk_ 6 26 rfl rfl ?_
    refine tk_ 7 27 rfl rfl ?_
    refine tk_ 8 28 rfl rfl ?_
    refine rdy1 9 rfl (fun K hK => ?_)
    go_simp
    refine hK.out _ _ hHeld (fun hHeld => ?_)
    clear hK K
    refine rdy1 10 rfl (fun K hK => ?_)
    go_simp
    with_reducible refine HW.mono ?_
    rintro e w5 ⟨rfl, hd5, hb5⟩
    have hend := HE.out w5 hd5 hb5
    have y5 := hend.1
    have y6 := hend.2.1
    have y7 := hend.2.2.1
    try go_wp2_with fail
    refine hK.out _ _ y5 (fun hHeld => ?_)
    clear hK K
    refine tk_ 11 31 rfl rfl ?_
    refine tk_ 12 32 rfl rfl ?_
    refine tk_ 13 33 rfl rfl ?_
    refine rdy1 14 rfl (fun K hK => ?_)
    go_simp
    refine hK.out _ _ hend.2.2.2.1 (fun hHeld => ?_)
    clear hK K
    refine wpAnyH_done (by kernel_rfl) ?_ _
    try simp only [Act.put, List.setIfInBounds_toArray, List.set_cons_succ, List.set_cons_zero]
    go_wp2_with fail
    go_roundw
    ·exact ⟨j + 1, by omega, by go_num, by rw [HNX2.out]; exact hend.2.2.2.2⟩
    ·simp [intOf]; omega
  ·obtain rfl : j = n := by omega
   rw [← hn, List.take_length] at hq
   have HEND := Lib.hid (show QKept w c v p g (q.wrs k ss) wr from ⟨c', hcb, hq, hf⟩)
   clear hq hf hS h hG
   go_wp2_with fail
   go_end0
   exact ⟨rfl, HEND.out⟩
end Go.Proofs.YtmebjdbkngehiaaGreatDoor
