/-
  Slices of records, and their frames (Lay). Conditions: the listed variables hold what 'CInv' says.
-/
import Derived.Test.YtlabmomehjfjdaaDoorFrE
import Derived.Test.YtlabmomehjfjdaaDoorFrD
namespace Go.Proofs.YtlabmomehjfjdaaDoor
open Go.RowKit
attribute [local go_sem] Oper.semAt_some

/-- A record as its three cells tell it. -/
structure RI where
  op : Int
  id : Int
  d : ByteArray
def RI.n (r : RI) : RecN := ⟨r.op.toNat, r.id.toNat, r.d.data.toList⟩
def RI.ok (r : RI) : Bool := rightV r.op r.id r.d
def RecN.i (r : RecN) : RI := ⟨r.op, r.id, ⟨r.data.toArray⟩⟩
def RI.cs (r : RI) : List Value := [.int .i64 r.op, .int .i64 r.id, .string r.d]
def cellsQ (l : List RI) : List Value := l.flatMap RI.cs
theorem cellsQ_length (l : List RI) : (cellsQ l).length = l.length * 3 := by
  induction l with
  | nil => rfl
  | cons r l ih => rw [show cellsQ (r :: l) = r.cs ++ cellsQ l by simp [cellsQ], List.length_append, ih, List.length_cons]; show 3 + _ = _; omega
theorem cellsQ_snoc (l : List RI) (r : RI) : cellsQ (l ++ [r]) = cellsQ l ++ r.cs := by simp [cellsQ]
theorem cellsR_i (l : List RecN) : cellsR l = cellsQ (l.map RecN.i) := by
  induction l with
  | nil => rfl
  | cons r l ih =>
    rw [List.map_cons, show cellsR (r :: l) = recC r ++ cellsR l by simp [cellsR], show ∀ (q : RI) m, cellsQ (q :: m) = q.cs ++ cellsQ m from fun q m => by simp [cellsQ], ih]
    rfl
theorem cellsQ_get (l : List RI) : ∀ (i : Nat) (h : i < l.length), (cellsQ l)[i * 3]? = some (.int .i64 l[i].op) ∧ (cellsQ l)[i * 3 + 1]? = some (.int .i64 l[i].id) ∧ (cellsQ l)[i * 3 + 2]? = some (.string l[i].d) := by
  induction l with
  | nil => intro i h; simp at h
  | cons r l ih =>
    intro i h
    have e : cellsQ (r :: l) = r.cs ++ cellsQ l := by simp [cellsQ]
    have hc : r.cs.length = 3 := rfl
    cases i with
    | zero => rw [e]; exact ⟨rfl, rfl, rfl⟩
    | succ i =>
      have := ih i (by simpa using h)
      rw [e, List.getElem?_append_right (by omega), List.getElem?_append_right (by omega), List.getElem?_append_right (by omega), hc]
      rw [show (i + 1) * 3 - 3 = i * 3 by omega, show (i + 1) * 3 + 1 - 3 = i * 3 + 1 by omega, show (i + 1) * 3 + 2 - 3 = i * 3 + 2 by omega]
      exact this
/-- A slice of records reads so. -/
def RdR (w : World) (A : Option Addr) (xs : List RI) : Prop := 0 < xs.length → ∃ a, A = some a ∧ a.block < w.heap.size ∧ ∀ (i : Nat) (h : i < xs.length), w.cell? (a.add (i * 3)) = some (.int .i64 xs[i].op) ∧ w.cell? ⟨(a.add (i * 3)).block, (a.add (i * 3)).off + 1, none⟩ = some (.int .i64 xs[i].id) ∧ w.cell? ⟨(a.add (i * 3)).block, (a.add (i * 3)).off + 2, none⟩ = some (.string xs[i].d)
theorem add_blk (a : Addr) (i : Nat) : (a.add i).block = a.block := by unfold Addr.add; split <;> rfl
theorem RdR.below {w w' : World} {A : Option Addr} {xs : List RI} (h : RdR w A xs) (hb : Below w.heap.size w w') : RdR w' A xs := fun hp => by
  obtain ⟨a, h1, h2, h3⟩ := h hp
  refine ⟨a, h1, Nat.lt_of_lt_of_le h2 hb.size, fun i hi => ?_⟩
  obtain ⟨g1, g2, g3⟩ := h3 i hi
  exact ⟨(hb.cell (by rw [add_blk]; exact h2)).trans g1, (hb.cell (by show (a.add (i * 3)).block < _; rw [add_blk]; exact h2)).trans g2, (hb.cell (by show (a.add (i * 3)).block < _; rw [add_blk]; exact h2)).trans g3⟩
/-- The first records of a slice. -/
theorem RdR.take {w : World} {A : Option Addr} {xs : List RI} (h : RdR w A xs) (k : Nat) : RdR w A (xs.take k) := fun hp => by
  rw [List.length_take] at hp
  obtain ⟨a, h1, h2, h3⟩ := h (by omega)
  refine ⟨a, h1, h2, fun i hi => ?_⟩
  rw [List.length_take] at hi
  simp only [List.getElem_take]
  exact h3 i (by omega)
/-- A row of the call's own, as a list of records. -/
theorem rdR_own {w : World} {base n : Nat} {V : Value} {l : List RI} (h : w.ownsRow base 23 3 V n (cellsQ l)) : n = l.length ∧ ∃ A c, V = .slice A n c ∧ RdR w A l := by
  have hn : l.length = n := by have := h.1; rw [cellsQ_length] at this; omega
  refine ⟨hn.symm, ?_⟩
  have h' := h
  obtain ⟨-, ⟨rfl, h0⟩ | ⟨g, cap, cur, rfl, -⟩⟩ := h'
  · subst h0
    exact ⟨none, 0, rfl, fun hp => by omega⟩
  · refine ⟨some ⟨g, 0, none⟩, cap, rfl, fun hp => ⟨⟨g, 0, none⟩, rfl, (h.lt g rfl).2, fun i hi => ?_⟩⟩
    obtain ⟨g1, g2, g3⟩ := cellsQ_get l i hi
    have k1 := h.cells rfl _ _ g1
    have k2 := h.cells rfl _ _ g2
    have k3 := h.cells rfl _ _ g3
    have ha : ∀ k : Nat, (⟨g, 0, none⟩ : Addr).add k = ⟨g, k, none⟩ := fun k => by unfold Addr.add; split <;> simp_all
    rw [ha] at k1 k2 k3 ⊢
    exact ⟨k1, k2, k3⟩

/-- Many records' frames, and what is told. -/
def layV (l : List RI) : ByteArray × Int := if l.all RI.ok then (⟨(layL (l.map RI.n)).toArray⟩, 0) else (ByteArray.empty, 170)
theorem layV_ok {xs : List RI} (h : ∀ x ∈ xs, x.ok = true) : layV xs = (⟨(layL (xs.map RI.n)).toArray⟩, 0) := by rw [layV, if_pos (List.all_eq_true.2 h)]
theorem layV_bad {xs : List RI} {x : RI} (h : x ∈ xs) (hx : x.ok = false) : layV xs = (ByteArray.empty, 170) := by
  rw [layV, if_neg]
  intro e
  have := List.all_eq_true.1 e x h
  rw [hx] at this
  cases this
theorem enc_ok {r : RI} (h : r.ok = true) : encV r.op r.id r.d = (⟨(frameL r.n).toArray⟩, 0) := by rw [encV, if_pos (show rightV r.op r.id r.d = true from h)]; rfl
theorem enc_bad {r : RI} (h : r.ok = false) : encV r.op r.id r.d = (ByteArray.empty, 170) := by rw [encV, if_neg (by rw [show rightV r.op r.id r.d = false from h]; decide)]
theorem frame_len {r : RI} (h : r.ok = true) : (frameL r.n).length = 14 + r.d.size ∧ r.d.size ≤ 2000 := by
  have := (rightV_iff.1 (show rightV r.op r.id r.d = true from h)).2.2.2
  rw [frameL_length]
  exact ⟨by show 14 + r.d.data.toList.length = _; rw [list_size], this⟩
theorem layL_snoc (l : List RecN) (r : RecN) : layL (l ++ [r]) = layL l ++ frameL r := by simp [layL]
theorem lay_len (xs : List RI) (h : ∀ x ∈ xs, x.ok = true) : (layL (xs.map RI.n)).length ≤ 2014 * xs.length := by
  induction xs with
  | nil => simp [layL]
  | cons r l ih =>
    have h1 := frame_len (h r (by simp))
    have h2 := ih fun x hx => h x (by simp [hx])
    rw [List.map_cons, show layL (r.n :: l.map RI.n) = frameL r.n ++ layL (l.map RI.n) by simp [layL], List.length_append, List.length_cons]
    omega
theorem lay_catL (xs : List RI) : layL (xs.map RI.n) = catL (xs.map fun r => ⟨(frameL r.n).toArray⟩) := by
  simp [layL, catL, List.flatMap_map]

theorem infoS1 : (Tryd.prog.info? 9).map (fun i => (i.zero, i.size, i.bytes)) = some (some (.string ByteArray.empty), 1, 16) := by kernel_rfl
/-- A row of strings, read. -/
theorem rdS_own {w : World} {base n : Nat} {V : Value} {l : List ByteArray} (h : w.ownsRow base 9 1 V n (l.map Value.string)) : n = l.length ∧ ∃ A c, V = .slice A n c ∧ RdS w A l := by
  have hn : l.length = n := by have := h.1; simpa using this
  refine ⟨hn.symm, ?_⟩
  have h' := h
  obtain ⟨-, ⟨rfl, h0⟩ | ⟨g, cap, cur, rfl, -⟩⟩ := h'
  · subst h0
    exact ⟨none, 0, rfl, fun hp => by omega⟩
  · refine ⟨some ⟨g, 0, none⟩, cap, rfl, fun hp => ⟨⟨g, 0, none⟩, rfl, (h.lt g rfl).2, fun i hi => ?_⟩⟩
    exact h.cells rfl i (.string l[i]) (by rw [List.getElem?_map, List.getElem?_eq_getElem hi]; rfl)

set_option maxRecDepth 100000 in
theorem Lay_any (A : Option Addr) (c n : Nat) (xs : List RI) (w : World) (aA aT aN aW aS : Addr) (hI : CInv w aA aT aN aW aS) (hn : xs.length = n) (ha : RdR w A xs) (hl : n ≤ 400) :
    Calls Tryd.prog 19 #[.slice A n c] w (Ret (.tuple #[.string (layV xs).1, .int .i64 (layV xs).2]) w) := by
  subst hn
  obtain ⟨i0, hi0, hz0, hz1, hz2⟩ := info_parts infoS1
  go_enter Tryd.func19, Tryd.ntmps19
  go_wp2_with fail
  go_loopw [4, 11] (fun out i wr => ∃ (k : Nat), k ≤ xs.length ∧ i = .int .i64 (k : Int) ∧ wr.ownsRow w.heap.size 9 1 out k ((xs.take k).map fun r => Value.string ⟨(frameL r.n).toArray⟩) ∧ (∀ x ∈ xs.take k, x.ok = true) ∧ Below w.heap.size w wr) (fun _ i _ => xs.length - (intOf i).toNat)
  case atStart => exact ⟨0, Nat.zero_le _, rfl, own_nil, by simp, Below.refl _ _⟩
  case round =>
    obtain ⟨k, hk, rfl, hown, hok, hbe⟩ := hrel
    by_cases hlt : k < xs.length
    · have hq : (k : Int) < (xs.length : Int) := by omega
      obtain ⟨a, rfl, hab, hca⟩ := ha (by omega)
      obtain ⟨g1, g2, g3⟩ := hca k hlt
      have x1 := (hbe.cell (by rw [add_blk]; exact hab)).trans g1
      have x2 := (hbe.cell (by show (a.add (k * 3)).block < _; rw [add_blk]; exact hab)).trans g2
      have x3 := (hbe.cell (by show (a.add (k * 3)).block < _; rw [add_blk]; exact hab)).trans g3
      have HE := fun w' h' => Encode_any xs[k].op xs[k].id xs[k].d w' aA aT aN aW aS h'
      unfold recV at HE
      rcases bool_cases xs[k].ok with ho | ho
      · have HB := Lib.hid (layV_bad (List.getElem_mem hlt) ho)
        rw [enc_bad ho] at HE
        dsimp only at HE
        clear ho hok g1 g2 g3 hca ha hown
        generalize xs[k].op = op at *
        generalize xs[k].id = id at *
        generalize xs[k].d = d at *
        go_wp2_with fail
        refine (HE _ (hI.below (hbe.alloc hbe.size _))).mono ?_
        rintro e w1 ⟨rfl, hb1⟩
        go_wp2_with fail
        go_ret2
        exact ⟨by rw [HB.out]; rfl, (hbe.alloc hbe.size _).trans (hb1.mono (by have := hbe.size; simp; omega))⟩
      · have hok1 : ∀ x ∈ xs.take (k + 1), x.ok = true := by
          intro x hx
          rw [List.take_succ_eq_append_getElem hlt, List.mem_append, List.mem_singleton] at hx
          rcases hx with hx | rfl
          · exact hok x hx
          · exact ho
        have hsn : (xs.take (k + 1)).map (fun r => Value.string ⟨(frameL r.n).toArray⟩) = (xs.take k).map (fun r => Value.string ⟨(frameL r.n).toArray⟩) ++ [.string ⟨(frameL xs[k].n).toArray⟩] := by
          rw [List.take_succ_eq_append_getElem hlt, List.map_append, List.map_singleton]
        rw [enc_ok ho] at HE
        dsimp only at HE
        have HO := Lib.hid hok1
        have HS := Lib.hid hsn
        clear hok1 ho hok g1 g2 g3 hca ha hsn
        generalize (⟨(frameL xs[k].n).toArray⟩ : ByteArray) = F at *
        generalize xs[k].op = op at *
        generalize xs[k].id = id at *
        generalize xs[k].d = d at *
        generalize (xs.take k).map (fun r => Value.string ⟨(frameL r.n).toArray⟩) = L at *
        go_wp2_with fail
        refine (HE _ (hI.below (hbe.alloc hbe.size _))).mono ?_
        rintro e w1 ⟨rfl, hb1⟩
        have hown1 := (own_below (own_below hown (ext_new wr (.cells #[.int .i64 op, .int .i64 id, .string d] 23))) hb1).alloc (.cells #[.string F] 9)
        have hbe1 := (hbe.alloc hbe.size (.cells #[.int .i64 op, .int .i64 id, .string d] 23)).trans (hb1.mono (by have := hbe.size; simp; omega))
        have hnw := new_cells w1 [.string F] 9
        have hsz := hbe1.size
        obtain ⟨A0, c0, rfl⟩ := own_form hown
        clear hb1 hown
        go_wp2_with (at_builtin; refine wpList_append_own _ rfl _ _ 56 rfl w.heap.size 9 i0 (.string ByteArray.empty) 1 16 Tryd.underlying56 hi0 hz0 hz1 hz2 rfl (by omega) _ _ _ rfl hown1 ⟨w1.heap.size, 0, none⟩ 1 1 [.string F] rfl rfl hnw (by intro u hu; rw [List.mem_singleton] at hu; subst hu; rfl) (by unfold maxLen; omega) (by omega) (by simp; omega) ?_; intro v' w3 hown3 hgrow _)
        obtain ⟨A', c', rfl⟩ := own_form hown3
        have k2 := below_append (hbe1.alloc hsz _) hown1 (Nat.le_refl _) (Nat.le_refl _) hgrow
        go_roundw
        case rel => exact ⟨k + 1, by omega, by go_num, by rw [HS.out]; exact hown3, HO.out, k2⟩
        case measure => simp [intOf]; omega
    · obtain rfl : k = xs.length := by omega
      rw [List.take_length] at hok hown
      have HR := Lib.hid (layV_ok hok)
      have hll := lay_len xs hok
      clear hok
      have e1 : xs.map (fun r => Value.string ⟨(frameL r.n).toArray⟩) = (xs.map fun r => (⟨(frameL r.n).toArray⟩ : ByteArray)).map Value.string := by rw [List.map_map]; rfl
      rw [e1] at hown
      obtain ⟨-, B, c', rfl, hr⟩ := rdS_own hown
      have hJ := joined_any B xs.length c' _ wr (by rw [List.length_map]) hr (by rw [← lay_catL]; omega) (by omega)
      rw [← lay_catL] at hJ
      clear hown e1 hr
      have hq1 : ¬ ((xs.length : Int) < (xs.length : Int)) := by omega
      go_wp2_with fail
      refine hJ.mono ?_
      rintro e w1 ⟨rfl, hb1⟩
      go_wp2_with fail
      go_ret2
      exact ⟨by rw [HR.out]; rfl, hbe.trans (hb1.mono hbe.size)⟩

/-- Two slices that read as one list are the same. -/
theorem Same_true (A B : Option Addr) (c d n : Nat) (xs : List RI) (w : World) (hn : xs.length = n) (ha : RdR w A xs) (hb : RdR w B xs) (hl : n ≤ 1000000) : Calls Tryd.prog 23 #[.slice A n c, .slice B n d] w (Ret (.bool true) w) := by
  subst hn
  rcases Nat.eq_zero_or_pos xs.length with h0 | hpos
  · have hx : xs = [] := List.eq_nil_of_length_eq_zero h0
    subst hx
    go_enter Tryd.func23, Tryd.ntmps23
    go_wp2
    refine wp_loop_rounds 1 ?_
    rw [rounds_succ]
    go_wp2
    go_ret
    exact ⟨rfl, Below.refl _ _⟩
  · obtain ⟨a, rfl, hab, hca⟩ := ha hpos
    obtain ⟨b, rfl, hbb, hcb⟩ := hb hpos
    have HA := Lib.hid hca
    have HB := Lib.hid hcb
    clear hca hcb ha hb
    go_enter Tryd.func23, Tryd.ntmps23
    go_wp2
    go_loopw [5] (fun i wr => ∃ k : Nat, k ≤ xs.length ∧ i = .int .i64 k ∧ Below w.heap.size w wr) (fun i _ => xs.length - (intOf i).toNat)
    case atStart => exact ⟨0, Nat.zero_le _, rfl, Below.refl _ _⟩
    case round =>
      obtain ⟨k, hk, rfl, hbe⟩ := hrel
      by_cases hlt : k < xs.length
      · obtain ⟨p1, p2, p3⟩ := HA.out k hlt
        obtain ⟨q1, q2, q3⟩ := HB.out k hlt
        have x1 := (hbe.cell (by rw [add_blk]; exact hab)).trans p1
        have x2 := (hbe.cell (by show (a.add (k * 3)).block < _; rw [add_blk]; exact hab)).trans p2
        have x3 := (hbe.cell (by show (a.add (k * 3)).block < _; rw [add_blk]; exact hab)).trans p3
        have y1 := (hbe.cell (by rw [add_blk]; exact hbb)).trans q1
        have y2 := (hbe.cell (by show (b.add (k * 3)).block < _; rw [add_blk]; exact hbb)).trans q2
        have y3 := (hbe.cell (by show (b.add (k * 3)).block < _; rw [add_blk]; exact hbb)).trans q3
        clear p1 p2 p3 q1 q2 q3
        generalize xs[k].op = op at *
        generalize xs[k].id = id at *
        generalize xs[k].d = dd at *
        have hi1 : (0 : Int) ≤ (k : Int) := by omega
        have hi2 : (k : Int) < (xs.length : Int) := by omega
        go_wp2_with fail
        go_quiet (fail)
        go_wp2_with fail
        go_roundw
        case rel => exact ⟨k + 1, by omega, by go_num, below_drewN' hbe _⟩
        case measure => simp [intOf]; omega
      · go_wp2
        go_ret
        exact ⟨rfl, hbe⟩

set_option maxRecDepth 100000 in
theorem rFLay_any (A : Option Addr) (c n : Nat) (xs : List RI) (w : World) (hn : xs.length = n) (ha : RdR w A xs) (hl : n ≤ 400) :
    Calls Tryd.prog 20 #[.slice A n c] w (Ret (.tuple #[.string (layV xs).1, .int .i64 (layV xs).2]) w) := by
  subst hn
  go_enter Tryd.func20, Tryd.ntmps20
  go_wp2_with fail
  go_loopw [4, 5] (fun s u wr => ∃ k : Nat, u = .int .i64 (k : Int) ∧ k ≤ xs.length ∧ s = .string ⟨(layL ((xs.take k).map RI.n)).toArray⟩ ∧ (∀ x ∈ xs.take k, x.ok = true) ∧ Below w.heap.size w wr) (fun _ u _ => xs.length - (intOf u).toNat)
  case atStart => exact ⟨0, rfl, Nat.zero_le _, rfl, by simp, ext_refl _⟩
  case round =>
    obtain ⟨k, rfl, hk, rfl, hok, hbe⟩ := hrel
    have hXl : (⟨(layL ((xs.take k).map RI.n)).toArray⟩ : ByteArray).size ≤ 2014 * 400 := by
      have h1 := lay_len (xs.take k) hok
      rw [List.length_take] at h1
      rw [size_of]
      omega
    by_cases hlt : k < xs.length
    · obtain ⟨a, rfl, hab, hca⟩ := ha (by omega)
      obtain ⟨g1, g2, g3⟩ := hca k hlt
      have x1 := (hbe.cell (by rw [add_blk]; exact hab)).trans g1
      have x2 := (hbe.cell (by show (a.add (k * 3)).block < _; rw [add_blk]; exact hab)).trans g2
      have x3 := (hbe.cell (by show (a.add (k * 3)).block < _; rw [add_blk]; exact hab)).trans g3
      have hq0 : (0 : Int) ≤ (k : Int) := by omega
      have hq1 : (k : Int) < (xs.length : Int) := by omega
      have HE := rFEncode_any xs[k].op xs[k].id xs[k].d wr
      unfold recV at HE
      rcases bool_cases xs[k].ok with ho | ho
      · have HB := Lib.hid (layV_bad (List.getElem_mem hlt) ho)
        rw [enc_bad ho] at HE
        dsimp only at HE
        clear ho hok g1 g2 g3 hca ha
        generalize xs[k].op = op at *
        generalize xs[k].id = id at *
        generalize xs[k].d = d at *
        generalize (⟨(layL ((xs.take k).map RI.n)).toArray⟩ : ByteArray) = sx at *
        go_wp2_with fail
        refine HE.mono ?_
        rintro e w1 ⟨rfl, hb1⟩
        go_wp2_with fail
        go_ret2
        exact ⟨by rw [HB.out]; rfl, hbe.trans (hb1.mono hbe.size)⟩
      · have hok1 : ∀ x ∈ xs.take (k + 1), x.ok = true := by
          intro x hx
          rw [List.take_succ_eq_append_getElem hlt, List.mem_append, List.mem_singleton] at hx
          rcases hx with hx | rfl
          · exact hok x hx
          · exact ho
        have hcat : (⟨(layL ((xs.take k).map RI.n)).toArray⟩ : ByteArray) ++ ⟨(frameL xs[k].n).toArray⟩ = ⟨(layL ((xs.take (k + 1)).map RI.n)).toArray⟩ := by
          apply ByteArray.ext
          rw [ByteArray.data_append, List.take_succ_eq_append_getElem hlt, List.map_append, List.map_singleton, layL_snoc, ← List.append_toArray]
        have hFl := frame_len ho
        have hFs : (⟨(frameL xs[k].n).toArray⟩ : ByteArray).size ≤ 2014 := by rw [size_of]; omega
        rw [enc_ok ho] at HE
        dsimp only at HE
        have HC := Lib.hid hcat
        have HO := Lib.hid hok1
        clear hcat hok1 ho hok g1 g2 g3 hca ha hFl
        generalize (⟨(frameL xs[k].n).toArray⟩ : ByteArray) = F at *
        generalize xs[k].op = op at *
        generalize xs[k].id = id at *
        generalize xs[k].d = d at *
        generalize (⟨(layL ((xs.take k).map RI.n)).toArray⟩ : ByteArray) = sx at *
        have hz : ¬ (9223372036854775807 < sx.size + F.size) := by omega
        go_wp2_with fail
        refine HE.mono ?_
        rintro e w1 ⟨rfl, hb1⟩
        go_wp2_with fail
        go_roundw
        case rel => exact ⟨k + 1, by go_num, by omega, by rw [HC.out], HO.out, hbe.trans (hb1.mono hbe.size)⟩
        case measure => simp [intOf]; omega
    · obtain rfl : k = xs.length := by omega
      rw [List.take_length] at hok
      have HR := Lib.hid (layV_ok hok)
      clear hok
      rw [List.take_length] at hXl ⊢
      generalize (⟨(layL (xs.map RI.n)).toArray⟩ : ByteArray) = sx at *
      have hq1 : ¬ ((xs.length : Int) < (xs.length : Int)) := by omega
      go_wp2_with fail
      go_ret2
      exact ⟨by rw [HR.out]; rfl, hbe⟩

/-- What lies where the document's Scan keeps a record; the place behind it; whether there is one. -/
def recO (o : Option RecN) : Array Value := match o with
  | none => #[.int .i64 0, .int .i64 0, .string ByteArray.empty]
  | some r => #[.int .i64 (r.op : Int), .int .i64 (r.id : Int), .string ⟨r.data.toArray⟩]
def nxO (o : Option RecN) (p : Nat) : Int := match o with
  | none => 0
  | some r => ((p + (14 + r.data.length) : Nat) : Int)
theorem decR_form (o : Option RecN) (p : Nat) : ∃ (x y : Int) (z : ByteArray), recO o = #[.int .i64 x, .int .i64 y, .string z] ∧ decR o (p : Int) = .tuple #[.agg #[.int .i64 x, .int .i64 y, .string z], .int .i64 (nxO o p), .bool o.isSome] := by
  cases o with
  | none => exact ⟨_, _, _, rfl, rfl⟩
  | some r => exact ⟨_, _, _, rfl, by rw [decR]; dsimp only [nxO, Option.isSome]; rw [Int.natCast_add p]⟩
theorem scan_step {s : List UInt8} {l : List RecN} {p : Nat} {r : RecN} (h : scanOf s = (l ++ (scanOf (s.drop p)).1, p + (scanOf (s.drop p)).2)) (hd : decF (s.drop p) = some r) :
    scanOf s = ((l ++ [r]) ++ (scanOf (s.drop (p + (14 + r.data.length)))).1, (p + (14 + r.data.length)) + (scanOf (s.drop (p + (14 + r.data.length)))).2) := by
  rw [scanOf_some hd, List.drop_drop, frameL_length] at h
  rw [h]
  simp [Nat.add_assoc]
theorem scan_end {s : List UInt8} {l : List RecN} {p : Nat} (h : scanOf s = (l ++ (scanOf (s.drop p)).1, p + (scanOf (s.drop p)).2)) (hd : decF (s.drop p) = none) : scanOf s = (l, p) := by
  rw [scanOf_none hd] at h
  simpa using h
theorem dec_small {s : ByteArray} {p : Nat} {r : RecN} (hp : p ≤ s.size) (h : decF (s.data.toList.drop p) = some r) : p + (14 + r.data.length) ≤ s.size := by
  obtain ⟨_, _, h3⟩ := frame_dec h
  rw [frameL_length, List.length_drop, list_size] at h3
  omega

set_option maxRecDepth 100000 in
set_option maxHeartbeats 1000000 in
theorem rFScan_any (s : ByteArray) (hs : s.size ≤ 1000000) (w : World) :
    Calls Tryd.prog 22 #[.string s] w (ScanRes (scanOf s.data.toList).1 (scanOf s.data.toList).2 w) := by
  obtain ⟨i0, hi0, hz0, hz1, hz2⟩ := info_parts infoR
  have HD := fun p (hp : p ≤ s.size) w' => (frV_nat s p hp) ▸ rFDecode_any s (p : Int) w' hs
  have h0 := HD 0 (Nat.zero_le _) w
  obtain ⟨o, ho⟩ : ∃ o, decF (s.data.toList.drop 0) = o := ⟨_, rfl⟩
  obtain ⟨x, y, z, hr, hdv⟩ := decR_form o 0
  rw [ho, hdv] at h0
  rw [Int.natCast_zero] at h0
  have Ho := Lib.hid ho
  have Hr := Lib.hid hr
  clear ho hr hdv
  go_enter Tryd.func22, Tryd.ntmps22
  go_wp2_with fail
  refine h0.mono ?_
  rintro e w1 ⟨rfl, hb1⟩
  go_wp2_with fail
  have q0 := Blk.new_ w1 23 #[.int .i64 x, .int .i64 y, .string z]
  have hb2 := ext_alloc hb1 (.cells #[.int .i64 x, .int .i64 y, .string z] 23)
  obtain ⟨d, hd⟩ : ∃ d, w1.heap.size = d := ⟨_, rfl⟩
  rw [hd] at q0 ⊢
  have hdw : w.heap.size ≤ d := by rw [← hd]; exact hb1.size
  generalize hW : w1.alloc (.cells #[.int .i64 x, .int .i64 y, .string z] 23) = W at *
  clear hW hd hb1 h0
  go_loopw [4, 5, 7, 8] (fun out u nx ok wr => ∃ (l : List RecN) (p : Nat) (o : Option RecN), p ≤ s.size ∧ scanOf s.data.toList = (l ++ (scanOf (s.data.toList.drop p)).1, p + (scanOf (s.data.toList.drop p)).2) ∧ decF (s.data.toList.drop p) = o ∧
    u = .int .i64 (p : Int) ∧ nx = .int .i64 (nxO o p) ∧ ok = .bool o.isSome ∧ Blk wr d 23 (recO o) ∧ wr.ownsRow (d + 1) 23 3 out l.length (cellsR l) ∧ Below w.heap.size w wr) (fun _ u _ _ _ => s.size - (intOf u).toNat)
  case atStart => exact ⟨[], 0, o, Nat.zero_le _, by simp, Ho.out, rfl, rfl, rfl, Hr.out ▸ q0, own_nil, hb2⟩
  case round =>
    obtain ⟨l, p, o, hp, hsc, hdo, rfl, rfl, rfl, hq, hown, hbe⟩ := hrel
    cases o with
    | none =>
      have HE := Lib.hid (scan_end hsc hdo)
      obtain ⟨A, c, rfl⟩ := own_form hown
      clear hsc hdo
      rw [show (none : Option RecN).isSome = false from rfl]
      go_wp2_with fail
      go_ret2
      exact ⟨.slice A l.length c, by rw [HE.out]; rfl, by rw [HE.out]; exact own_base hown (by omega), hbe⟩
    | some r =>
      have hsz := dec_small hp hdo
      have hln := scan_small (s.data.toList)
      have HS := Lib.hid (scan_step hsc hdo)
      rw [hsc] at hln
      rw [list_size] at hln
      dsimp only at hln
      rw [List.length_append] at hln
      clear hsc hdo
      obtain ⟨p', hp'⟩ : ∃ p', p + (14 + r.data.length) = p' := ⟨_, rfl⟩
      have hnx : nxO (some r) p = (p' : Int) := by rw [← hp']; rfl
      rw [hp'] at HS hsz
      rw [hnx] at ⊢
      have hpp : p < p' := by omega
      obtain ⟨o', ho'⟩ : ∃ o, decF (s.data.toList.drop p') = o := ⟨_, rfl⟩
      obtain ⟨x', y', z', hr', hdv⟩ := decR_form o' p'
      have hD := HD p' hsz
      rw [ho', hdv] at hD
      have Ho' := Lib.hid ho'
      have Hr' := Lib.hid hr'
      have hdl := hq.lt
      have hsn := cellsR_snoc l r
      unfold recO at hq
      unfold recC at hsn
      dsimp only at hq
      clear ho' hr' hdv hp' hnx
      obtain ⟨q1, q2, q3, -⟩ := hq.c3
      have hnw := fun w => new_cells w [.int .i64 (r.op : Int), .int .i64 (r.id : Int), .string ⟨r.data.toArray⟩] 23
      have HSN := Lib.hid hsn
      clear hsn
      generalize (⟨r.data.toArray⟩ : ByteArray) = D at *
      generalize (r.op : Int) = op at *
      generalize (r.id : Int) = id at *
      obtain ⟨A0, c0, rfl⟩ := own_form hown
      have hown1 := hown.alloc (.cells #[.int .i64 op, .int .i64 id, .string D] 23)
      rw [show ∀ r : RecN, (some r).isSome = true from fun _ => rfl]
      go_wp2_with (at_builtin; refine wpList_append_own _ rfl _ _ 25 rfl (d + 1) 23 i0 (.agg #[.int .i64 0, .int .i64 0, .string ByteArray.empty]) 3 32 Tryd.underlying25 hi0 hz0 hz1 hz2 rfl (by omega) _ _ _ rfl hown1 ⟨wr.heap.size, 0, none⟩ 1 1 [.int .i64 op, .int .i64 id, .string D] rfl rfl (hnw _) (by intro u hu; simp only [List.mem_cons, List.not_mem_nil, or_false] at hu; obtain rfl | rfl | rfl := hu <;> rfl) (by unfold maxLen; omega) (by omega) (by simp; omega) ?_; intro v' w3 hown3 hgrow _)
      obtain ⟨A', c', rfl⟩ := own_form hown3
      have q3' : Blk w3 d 23 #[.int .i64 op, .int .i64 id, .string D] := (hq.alloc _).kept (hgrow.block d (by simp; omega) (fun e => by have := (hown1.lt _ e.symm).1; omega))
      have k3 := below_append (hbe.alloc hbe.size _) hown1 (by omega) (by omega) hgrow
      clear hgrow hown1 hown hq q1 q2 q3 hbe
      go_wp2_with fail
      refine (hD w3).mono ?_
      rintro e w4 ⟨rfl, hb4⟩
      have q4 := q3'.below hb4
      have hown4 := own_below hown3 hb4
      have k4 := k3.trans (hb4.mono k3.size)
      obtain ⟨y1, y2, y3, g1, g2, g3⟩ := q4.c3
      clear hD hb4 q3' k3 hown3
      go_wp2_with fail
      go_roundw
      case rel =>
        refine ⟨l ++ [r], p', o', hsz, HS.out, Ho'.out, rfl, rfl, rfl, ?_, ?_, ((k4.setCell (p := ⟨d, 0, none⟩) hdw _).setCell (p := ⟨d, 1, none⟩) hdw _).setCell (p := ⟨d, 2, none⟩) hdw _⟩
        · have q5 := ((q4.set_ 0 (.int .i64 x')).set_ 1 (.int .i64 y')).set_ 2 (.string z')
          simp only [List.setIfInBounds_toArray, List.set_cons_succ, List.set_cons_zero] at q5
          rw [Hr'.out]
          exact q5
        · rw [List.length_append, List.length_singleton, HSN.out]
          exact own_besides hown4 ((((Besides.refl d w4).set_ 0 _).set_ 1 _).set_ 2 _) (by omega)
      case measure => simp [intOf]; omega

end Go.Proofs.YtlabmomehjfjdaaDoor
