/-
  Package postriderref17 (the document's answer for frames): Right, Encode, Decode. Conditions: texts below a million bytes. Slices of records, and their frames (Lay). Conditions: the listed variables hold what 'CInv' says.
-/
import Derived.Test.YtmebjdbkngehiaaGreatDoorFrC
import Derived.Test.YtmebjdbkngehiaaGreatDoorQgG
import Derived.Test.YtmebjdbkngehiaaGreatDoorFrD
namespace Go.Proofs.YtmebjdbkngehiaaGreatDoor
open Go.RowKit

end Go.Proofs.YtmebjdbkngehiaaGreatDoor

namespace Go.Proofs.YtmebjdbkngehiaaGreatDoor
open Go.RowKit
attribute [local go_sem] Oper.semAt_some
/-- A record as its three cells tell it. -/
structure RI where
  op : Int
  id : Int
  d : ByteArray
def RI.n (r : RI) : RecN := ⟨r.op.toNat, r.id.toNat, r.d.data.toList⟩
def RI.ok (r : RI) : Bool := rightV r.op r.id r.d
def RecN.i (r : RecN) : RI := ⟨r.op, r.id, ⟨r.data.toArray⟩⟩
def RI.cs (r : RI) : List Value := [.int .i64 r.op, .int .i64 r.id, .string r.d]
def cellsQ (l : List RI) : List Value := l.flatMap RI.cs
theorem cellsQ_length (l : List RI) : (cellsQ l).length = l.length * 3 := by
  induction l with
  | nil => rfl
  | cons r l ih => rw [show cellsQ (r :: l) = r.cs ++ cellsQ l by simp [cellsQ], List.length_append, ih, List.length_cons]; show 3 + _ = _; omega
theorem cellsQ_snoc (l : List RI) (r : RI) : cellsQ (l ++ [r]) = cellsQ l ++ r.cs := by simp [cellsQ]
theorem cellsR_i (l : List RecN) : cellsR l = cellsQ (l.map RecN.i) := by
  induction l with
  | nil => rfl
  | cons r l ih =>
    rw [List.map_cons, show cellsR (r :: l) = recC r ++ cellsR l by simp [cellsR], show ∀ (q : RI) m, cellsQ (q :: m) = q.cs ++ cellsQ m from fun q m => by simp [cellsQ], ih]
    rfl
theorem cellsQ_get (l : List RI) : ∀ (i : Nat) (h : i < l.length), (cellsQ l)[i * 3]? = some (.int .i64 l[i].op) ∧ (cellsQ l)[i * 3 + 1]? = some (.int .i64 l[i].id) ∧ (cellsQ l)[i * 3 + 2]? = some (.string l[i].d) := by
  induction l with
  | nil => intro i h; simp at h
  | cons r l ih =>
    intro i h
    have e : cellsQ (r :: l) = r.cs ++ cellsQ l := by simp [cellsQ]
    have hc : r.cs.length = 3 := rfl
    cases i with
    | zero => rw [e]; exact ⟨rfl, rfl, rfl⟩
    | succ i =>
      have := ih i (by simpa using h)
      rw [e, List.getElem?_append_right (by omega), List.getElem?_append_right (by omega), List.getElem?_append_right (by omega), hc]
      rw [show (i + 1) * 3 - 3 = i * 3 by omega, show (i + 1) * 3 + 1 - 3 = i * 3 + 1 by omega, show (i + 1) * 3 + 2 - 3 = i * 3 + 2 by omega]
      exact this
/-- A slice of records reads so. -/
def RdR (w : World) (A : Option Addr) (xs : List RI) : Prop := 0 < xs.length → ∃ a, A = some a ∧ a.block < w.heap.size ∧ ∀ (i : Nat) (h : i < xs.length), w.cell? (a.add (i * 3)) = some (.int .i64 xs[i].op) ∧ w.cell? ⟨(a.add (i * 3)).block, (a.add (i * 3)).off + 1, none⟩ = some (.int .i64 xs[i].id) ∧ w.cell? ⟨(a.add (i * 3)).block, (a.add (i * 3)).off + 2, none⟩ = some (.string xs[i].d)
theorem add_blk (a : Addr) (i : Nat) : (a.add i).block = a.block := by unfold Addr.add; split <;> rfl
theorem RdR.below {w w' : World} {A : Option Addr} {xs : List RI} (h : RdR w A xs) (hb : Below w.heap.size w w') : RdR w' A xs := fun hp => by
  obtain ⟨a, h1, h2, h3⟩ := h hp
  refine ⟨a, h1, Nat.lt_of_lt_of_le h2 hb.size, fun i hi => ?_⟩
  obtain ⟨g1, g2, g3⟩ := h3 i hi
  exact ⟨(hb.cell (by rw [add_blk]; exact h2)).trans g1, (hb.cell (by show (a.add (i * 3)).block < _; rw [add_blk]; exact h2)).trans g2, (hb.cell (by show (a.add (i * 3)).block < _; rw [add_blk]; exact h2)).trans g3⟩
/-- The first records of a slice. -/
theorem RdR.take {w : World} {A : Option Addr} {xs : List RI} (h : RdR w A xs) (k : Nat) : RdR w A (xs.take k) := fun hp => by
  rw [List.length_take] at hp
  obtain ⟨a, h1, h2, h3⟩ := h (by omega)
  refine ⟨a, h1, h2, fun i hi => ?_⟩
  rw [List.length_take] at hi
  simp only [List.getElem_take]
  exact h3 i (by omega)
/-- A row of the call's own, as a list of records. -/
theorem rdR_own {w : World} {base n : Nat} {V : Value} {l : List RI} (h : w.ownsRow base 128 3 V n (cellsQ l)) : n = l.length ∧ ∃ A c, V = .slice A n c ∧ RdR w A l := by
  have hn : l.length = n := by have := h.1; rw [cellsQ_length] at this; omega
  refine ⟨hn.symm, ?_⟩
  have h' := h
  obtain ⟨-, ⟨rfl, h0⟩ | ⟨g, cap, cur, rfl, -⟩⟩ := h'
  · subst h0
    exact ⟨none, 0, rfl, fun hp => by omega⟩
  · refine ⟨some ⟨g, 0, none⟩, cap, rfl, fun hp => ⟨⟨g, 0, none⟩, rfl, (h.lt g rfl).2, fun i hi => ?_⟩⟩
    obtain ⟨g1, g2, g3⟩ := cellsQ_get l i hi
    have k1 := h.cells rfl _ _ g1
    have k2 := h.cells rfl _ _ g2
    have k3 := h.cells rfl _ _ g3
    have ha : ∀ k : Nat, (⟨g, 0, none⟩ : Addr).add k = ⟨g, k, none⟩ := fun k => by unfold Addr.add; split <;> simp_all
    rw [ha] at k1 k2 k3 ⊢
    exact ⟨k1, k2, k3⟩

/-- Many records' frames, and what is told. -/
def layV (l : List RI) : ByteArray × Int := if l.all RI.ok then (⟨(layL (l.map RI.n)).toArray⟩, 0) else (ByteArray.empty, 170)
theorem layV_ok {xs : List RI} (h : ∀ x ∈ xs, x.ok = true) : layV xs = (⟨(layL (xs.map RI.n)).toArray⟩, 0) := by rw [layV, if_pos (List.all_eq_true.2 h)]
theorem layV_bad {xs : List RI} {x : RI} (h : x ∈ xs) (hx : x.ok = false) : layV xs = (ByteArray.empty, 170) := by
  rw [layV, if_neg]
  intro e
  have := List.all_eq_true.1 e x h
  rw [hx] at this
  cases this
theorem enc_ok {r : RI} (h : r.ok = true) : encV r.op r.id r.d = (⟨(frameL r.n).toArray⟩, 0) := by rw [encV, if_pos (show rightV r.op r.id r.d = true from h)]; rfl
theorem enc_bad {r : RI} (h : r.ok = false) : encV r.op r.id r.d = (ByteArray.empty, 170) := by rw [encV, if_neg (by rw [show rightV r.op r.id r.d = false from h]; decide)]
theorem frame_len {r : RI} (h : r.ok = true) : (frameL r.n).length = 14 + r.d.size ∧ r.d.size ≤ 2000 := by
  have := (rightV_iff.1 (show rightV r.op r.id r.d = true from h)).2.2.2
  rw [frameL_length]
  exact ⟨by show 14 + r.d.data.toList.length = _; rw [list_size], this⟩
theorem layL_snoc (l : List RecN) (r : RecN) : layL (l ++ [r]) = layL l ++ frameL r := by simp [layL]
theorem lay_len (xs : List RI) (h : ∀ x ∈ xs, x.ok = true) : (layL (xs.map RI.n)).length ≤ 2014 * xs.length := by
  induction xs with
  | nil => simp [layL]
  | cons r l ih =>
    have h1 := frame_len (h r (by simp))
    have h2 := ih fun x hx => h x (by simp [hx])
    rw [List.map_cons, show layL (r.n :: l.map RI.n) = frameL r.n ++ layL (l.map RI.n) by simp [layL], List.length_append, List.length_cons]
    omega
theorem lay_catL (xs : List RI) : layL (xs.map RI.n) = catL (xs.map fun r => ⟨(frameL r.n).toArray⟩) := by
  simp [layL, catL, List.flatMap_map]

theorem infoS1 : (Tryz.prog.info? 9).map (fun i => (i.zero, i.size, i.bytes)) = some (some (.string ByteArray.empty), 1, 16) := by kernel_rfl
/-- A row of strings, read. -/
theorem rdS_own {w : World} {base n : Nat} {V : Value} {l : List ByteArray} (h : w.ownsRow base 9 1 V n (l.map Value.string)) : n = l.length ∧ ∃ A c, V = .slice A n c ∧ RdS w A l := by
  have hn : l.length = n := by have := h.1; simpa using this
  refine ⟨hn.symm, ?_⟩
  have h' := h
  obtain ⟨-, ⟨rfl, h0⟩ | ⟨g, cap, cur, rfl, -⟩⟩ := h'
  · subst h0
    exact ⟨none, 0, rfl, fun hp => by omega⟩
  · refine ⟨some ⟨g, 0, none⟩, cap, rfl, fun hp => ⟨⟨g, 0, none⟩, rfl, (h.lt g rfl).2, fun i hi => ?_⟩⟩
    exact h.cells rfl i (.string l[i]) (by rw [List.getElem?_map, List.getElem?_eq_getElem hi]; rfl)

set_option maxRecDepth 100000 in
theorem Lay_any (A : Option Addr) (c n : Nat) (xs : List RI) (w : World) (aA aT aN aW aS : Addr) (hI : CInv w aA aT aN aW aS) (hn : xs.length = n) (ha : RdR w A xs) (hl : n ≤ 400) :
    Calls Tryz.prog 136 #[.slice A n c] w (Ret (.tuple #[.string (layV xs).1, .int .i64 (layV xs).2]) w) := by
  subst hn
  obtain ⟨i0, hi0, hz0, hz1, hz2⟩ := info_parts infoS1
  go_enter Tryz.func136, Tryz.ntmps136
  go_wp2_with fail
  go_loopw [4, 11] (fun out i wr => ∃ (k : Nat), k ≤ xs.length ∧ i = .int .i64 (k : Int) ∧ wr.ownsRow w.heap.size 9 1 out k ((xs.take k).map fun r => Value.string ⟨(frameL r.n).toArray⟩) ∧ (∀ x ∈ xs.take k, x.ok = true) ∧ Below w.heap.size w wr) (fun _ i _ => xs.length - (intOf i).toNat)
  case atStart => exact ⟨0, Nat.zero_le _, rfl, own_nil, by simp, Below.refl _ _⟩
  case round =>
    obtain ⟨k, hk, rfl, hown, hok, hbe⟩ := hrel
    by_cases hlt : k < xs.length
    · have hq : (k : Int) < (xs.length : Int) := by omega
      obtain ⟨a, rfl, hab, hca⟩ := ha (by omega)
      obtain ⟨g1, g2, g3⟩ := hca k hlt
      have x1 := (hbe.cell (by rw [add_blk]; exact hab)).trans g1
      have x2 := (hbe.cell (by show (a.add (k * 3)).block < _; rw [add_blk]; exact hab)).trans g2
      have x3 := (hbe.cell (by show (a.add (k * 3)).block < _; rw [add_blk]; exact hab)).trans g3
      have HE := fun w' h' => Encode_any xs[k].op xs[k].id xs[k].d w' aA aT aN aW aS h'
      unfold recV at HE
      rcases bool_cases xs[k].ok with ho | ho
      · have HB := Lib.hid (layV_bad (List.getElem_mem hlt) ho)
        rw [enc_bad ho] at HE
        dsimp only at HE
        clear ho hok g1 g2 g3 hca ha hown
        generalize xs[k].op = op at *
        generalize xs[k].id = id at *
        generalize xs[k].d = d at *
        go_wp2_with fail
        refine (HE _ (hI.below (hbe.alloc hbe.size _))).mono ?_
        rintro e w1 ⟨rfl, hb1⟩
        go_wp2_with fail
        go_ret2
        exact ⟨by rw [HB.out]; rfl, (hbe.alloc hbe.size _).trans (hb1.mono (by have := hbe.size; simp; omega))⟩
      · have hok1 : ∀ x ∈ xs.take (k + 1), x.ok = true := by
          intro x hx
          rw [List.take_succ_eq_append_getElem hlt, List.mem_append, List.mem_singleton] at hx
          rcases hx with hx | rfl
          · exact hok x hx
          · exact ho
        have hsn : (xs.take (k + 1)).map (fun r => Value.string ⟨(frameL r.n).toArray⟩) = (xs.take k).map (fun r => Value.string ⟨(frameL r.n).toArray⟩) ++ [.string ⟨(frameL xs[k].n).toArray⟩] := by
          rw [List.take_succ_eq_append_getElem hlt, List.map_append, List.map_singleton]
        rw [enc_ok ho] at HE
        dsimp only at HE
        have HO := Lib.hid hok1
        have HS := Lib.hid hsn
        clear hok1 ho hok g1 g2 g3 hca ha hsn
        generalize (⟨(frameL xs[k].n).toArray⟩ : ByteArray) = F at *
        generalize xs[k].op = op at *
        generalize xs[k].id = id at *
        generalize xs[k].d = d at *
        generalize (xs.take k).map (fun r => Value.string ⟨(frameL r.n).toArray⟩) = L at *
        go_wp2_with fail
        refine (HE _ (hI.below (hbe.alloc hbe.size _))).mono ?_
        rintro e w1 ⟨rfl, hb1⟩
        have hown1 := (own_below (own_below hown (ext_new wr (.cells #[.int .i64 op, .int .i64 id, .string d] 128))) hb1).alloc (.cells #[.string F] 9)
        have hbe1 := (hbe.alloc hbe.size (.cells #[.int .i64 op, .int .i64 id, .string d] 128)).trans (hb1.mono (by have := hbe.size; simp; omega))
        have hnw := new_cells w1 [.string F] 9
        have hsz := hbe1.size
        obtain ⟨A0, c0, rfl⟩ := own_form hown
        clear hb1 hown
        go_wp2_with (at_builtin; refine wpList_append_own _ rfl _ _ 54 rfl w.heap.size 9 i0 (.string ByteArray.empty) 1 16 Tryz.underlying54 hi0 hz0 hz1 hz2 rfl (by omega) _ _ _ rfl hown1 ⟨w1.heap.size, 0, none⟩ 1 1 [.string F] rfl rfl hnw (by intro u hu; rw [List.mem_singleton] at hu; subst hu; rfl) (by unfold maxLen; omega) (by omega) (by simp; omega) ?_; intro v' w3 hown3 hgrow _)
        obtain ⟨A', c', rfl⟩ := own_form hown3
        have k2 := below_append (hbe1.alloc hsz _) hown1 (Nat.le_refl _) (Nat.le_refl _) hgrow
        go_roundw
        case rel => exact ⟨k + 1, by omega, by go_num, by rw [HS.out]; exact hown3, HO.out, k2⟩
        case measure => simp [intOf]; omega
    · obtain rfl : k = xs.length := by omega
      rw [List.take_length] at hok hown
      have HR := Lib.hid (layV_ok hok)
      have hll := lay_len xs hok
      clear hok
      have e1 : xs.map (fun r => Value.string ⟨(frameL r.n).toArray⟩) = (xs.map fun r => (⟨(frameL r.n).toArray⟩ : ByteArray)).map Value.string := by rw [List.map_map]; rfl
      rw [e1] at hown
      obtain ⟨-, B, c', rfl, hr⟩ := rdS_own hown
      have hJ := joined_any B xs.length c' _ wr (by rw [List.length_map]) hr (by rw [← lay_catL]; omega) (by omega)
      rw [← lay_catL] at hJ
      clear hown e1 hr
      have hq1 : ¬ ((xs.length : Int) < (xs.length : Int)) := by omega
      go_wp2_with fail
      refine hJ.mono ?_
      rintro e w1 ⟨rfl, hb1⟩
      go_wp2_with fail
      go_ret2
      exact ⟨by rw [HR.out]; rfl, hbe.trans (hb1.mono hbe.size)⟩

end Go.Proofs.YtmebjdbkngehiaaGreatDoor
