/-
  Package postriderlaw17: plain facts for its laws, and the step that all laws over one record begin with. Conditions: the listed variables hold what 'CInv' says.
-/
import Derived.Test.YtlabmomehjfjdaaDoorFrG
namespace Go.Proofs.YtlabmomehjfjdaaDoor
open Go.RowKit

theorem one_own {w : World} {base : Nat} {V : Value} {q : RI} (h : w.ownsRow base 23 3 V 1 (cellsQ [q])) :
    ∃ g c, V = .slice (some ⟨g, 0, none⟩) 1 c ∧ base ≤ g ∧ g < w.heap.size ∧ w.cell? ⟨g, 0, none⟩ = some (.int .i64 q.op) ∧ w.cell? ⟨g, 1, none⟩ = some (.int .i64 q.id) ∧ w.cell? ⟨g, 2, none⟩ = some (.string q.d) := by
  obtain ⟨-, ⟨rfl, h0⟩ | ⟨g, cap, cur, rfl, hb, -⟩⟩ := id h
  · cases h0
  · have k1 := h.cells rfl 0 (.int .i64 q.op) rfl
    have k2 := h.cells rfl 1 (.int .i64 q.id) rfl
    have k3 := h.cells rfl 2 (.string q.d) rfl
    exact ⟨g, cap, rfl, hb, (h.lt g rfl).2, k1, k2, k3⟩
theorem rdR_at {W : World} {g : Nat} (q : RI) (h : g = W.heap.size) : RdR (W.alloc (.cells #[.int .i64 q.op, .int .i64 q.id, .string q.d] 23)) (some ⟨g, 0, none⟩) [q] := fun _ => by
  subst h
  refine ⟨_, rfl, by simp, fun i hi => ?_⟩
  obtain rfl : i = 0 := by simp at hi; omega
  obtain ⟨y0, y1, y2, -⟩ := (Blk.new_ W 23 #[.int .i64 q.op, .int .i64 q.id, .string q.d]).c3
  exact ⟨y0, y1, y2⟩
theorem dcut_size (d : ByteArray) : (d.extract 0 (min d.size 2001)).size ≤ 2001 := by rw [ByteArray.size_extract]; omega

/-- What stands ahead of what laws over one record ask: the first three operations' worlds. -/
theorem enc_size (op id : Int) (d : ByteArray) : (encV op id d).1.size ≤ 2014 := by
  rw [encV]
  split
  · rename_i h
    have := frame_len (r := ⟨op, id, d⟩) h
    show (⟨(frameL (RI.n ⟨op, id, d⟩)).toArray⟩ : ByteArray).size ≤ _
    rw [size_of]
    omega
  · show 0 ≤ _
    omega

theorem of_list (s : ByteArray) : (⟨s.data.toList.toArray⟩ : ByteArray) = s := ba_eq (by simp)
theorem enc_cases (op id : Int) (d : ByteArray) : (rightV op id d = false ∧ encV op id d = (ByteArray.empty, 170)) ∨
    (rightV op id d = true ∧ ∃ F : ByteArray, encV op id d = (F, 0) ∧ F.size = 14 + d.size ∧ d.size ≤ 2000 ∧ decR (frV F 0) 0 = .tuple #[.agg #[.int .i64 op, .int .i64 id, .string d], .int .i64 (F.size : Int), .bool true] ∧
      F.data.toList = frameL (RI.n ⟨op, id, d⟩) ∧ okRec (RI.n ⟨op, id, d⟩)) := by
  rcases bool_cases (rightV op id d) with h | h
  · exact .inl ⟨h, by rw [encV, if_neg (by rw [h]; decide)]⟩
  · obtain ⟨h1, h2, h3, h4⟩ := rightV_iff.1 h
    obtain ⟨h5, h6⟩ := okNum_iff.1 h3
    have hl := frame_len (r := ⟨op, id, d⟩) h
    have hok : okRec (RI.n ⟨op, id, d⟩) := by
      refine ⟨?_, ?_, ?_, ?_⟩
      · show 1 ≤ op.toNat; omega
      · show op.toNat ≤ 9; omega
      · show id.toNat ≤ _; omega
      · show d.data.toList.length ≤ 2000; rw [list_size]; exact h4
    have hs : (⟨(frameL (RI.n ⟨op, id, d⟩)).toArray⟩ : ByteArray).size = 14 + d.size := by rw [size_of, hl.1]
    refine .inr ⟨h, _, enc_ok (r := ⟨op, id, d⟩) h, hs, h4, ?_, by simp, hok⟩
    have hdf := dec_frame hok []
    rw [List.append_nil] at hdf
    have hf : frV ⟨(frameL (RI.n ⟨op, id, d⟩)).toArray⟩ 0 = some (RI.n ⟨op, id, d⟩) := by
      rw [show (0 : Int) = ((0 : Nat) : Int) from rfl, frV_nat _ 0 (Nat.zero_le _)]
      simpa using hdf
    rw [hf, decR_some, hs]
    show Value.tuple #[.agg #[.int .i64 ((op.toNat : Nat) : Int), .int .i64 ((id.toNat : Nat) : Int), .string ⟨d.data.toList.toArray⟩], .int .i64 (0 + ((14 + d.data.toList.length : Nat) : Int)), .bool true] = _
    rw [Int.toNat_of_nonneg (by omega), Int.toNat_of_nonneg (by omega), of_list, list_size, Int.zero_add]

/-- A frame of which one byte is another one. -/
theorem hurt_facts {F : ByteArray} {r : RecN} (hok : okRec r) (hF : F.data.toList = frameL r) (k : Nat) (hk : k < F.size) (h8 : k ≠ 8) (h9 : k ≠ 9) (x : UInt8) (hx : x ≠ F[k]) :
    frV (F.extract 0 k ++ ⟨#[x]⟩ ++ F.extract (k + 1) F.size) 0 = none := by
  rw [show (0 : Int) = ((0 : Nat) : Int) from rfl, frV_nat _ 0 (Nat.zero_le _)]
  have hsz := list_size F
  have hkl : k < F.data.toList.length := by omega
  have e1 : (F.extract 0 k).data.toList = F.data.toList.take k := by simp
  have e2 : (F.extract (k + 1) F.size).data.toList = F.data.toList.drop (k + 1) := by
    simp only [ByteArray.data_extract, Array.toList_extract, List.extract_eq_take_drop]
    rw [List.take_of_length_le]
    rw [List.length_drop]
    omega
  have e3 : (F.extract 0 k ++ ⟨#[x]⟩ ++ F.extract (k + 1) F.size).data.toList = F.data.toList.take k ++ x :: F.data.toList.drop (k + 1) := by
    rw [ByteArray.data_append, ByteArray.data_append, Array.toList_append, Array.toList_append, e1, e2, List.append_assoc]
    rfl
  rw [e3, List.drop_zero]
  have e4 : frameL r = F.data.toList.take k ++ F.data.toList[k] :: F.data.toList.drop (k + 1) := by
    rw [← hF, ← List.drop_eq_getElem_cons hkl, List.take_append_drop]
  have e5 : F.data.toList[k] = F[k] := by rw [Array.getElem_toList]; rfl
  have e6 : (F.data.toList.take k).length = k := by rw [List.length_take]; omega
  exact dec_hurt hok _ _ _ _ e4 (fun e => hx (by rw [← e, e5])) (by rw [e6]; exact h8) (by rw [e6]; exact h9)

theorem lay_cases (ys : List RI) : ((∀ x ∈ ys, x.ok = true) ∧ layV ys = (⟨(layL (ys.map RI.n)).toArray⟩, 0)) ∨ layV ys = (ByteArray.empty, 170) := by
  rcases bool_cases (ys.all RI.ok) with h | h
  · exact .inr (by rw [layV, if_neg (by rw [h]; decide)])
  · have := List.all_eq_true.1 h
    exact .inl ⟨this, layV_ok this⟩
theorem ok_rec {r : RI} (h : r.ok = true) : okRec r.n ∧ r.n.i = r := by
  obtain ⟨op, id, d⟩ := r
  obtain ⟨h1, h2, h3, h4⟩ := rightV_iff.1 (show rightV op id d = true from h)
  obtain ⟨h5, h6⟩ := okNum_iff.1 h3
  refine ⟨⟨?_, ?_, ?_, ?_⟩, ?_⟩
  · show 1 ≤ op.toNat; omega
  · show op.toNat ≤ 9; omega
  · show id.toNat ≤ _; omega
  · show d.data.toList.length ≤ 2000; rw [list_size]; exact h4
  · show RI.mk ((op.toNat : Nat) : Int) ((id.toNat : Nat) : Int) ⟨d.data.toList.toArray⟩ = _
    rw [Int.toNat_of_nonneg (by omega), Int.toNat_of_nonneg (by omega), of_list]
theorem rec_ok {r : RecN} (h : okRec r) : r.i.ok = true ∧ r.i.n = r := by
  obtain ⟨op, id, d⟩ := r
  obtain ⟨h1, h2, h3, h4⟩ := h
  have hs : (⟨d.toArray⟩ : ByteArray).size = d.length := size_of d
  dsimp only at h1 h2 h3 h4
  refine ⟨rightV_iff.2 ⟨?_, ?_, okNum_iff.2 ⟨?_, ?_⟩, ?_⟩, ?_⟩
  · show (1 : Int) ≤ (op : Int); omega
  · show (op : Int) ≤ 9; omega
  · show (0 : Int) ≤ (id : Int); omega
  · show (id : Int) ≤ _; omega
  · show (⟨d.toArray⟩ : ByteArray).size ≤ _; omega
  · show RecN.mk ((op : Int).toNat) ((id : Int).toNat) d.toArray.toList = _
    rw [Int.toNat_natCast, Int.toNat_natCast]
theorem cells_back {ys : List RI} (h : ∀ x ∈ ys, x.ok = true) : cellsR (ys.map RI.n) = cellsQ ys := by
  rw [cellsR_i, List.map_map]
  congr 1
  conv => rhs; rw [← List.map_id ys]
  exact List.map_congr_left fun x hx => (ok_rec (h x hx)).2
theorem all_ok {ys : List RI} (h : ∀ x ∈ ys, x.ok = true) : ∀ r ∈ ys.map RI.n, okRec r := by
  intro r hr
  obtain ⟨x, hx, rfl⟩ := List.mem_map.1 hr
  exact (ok_rec (h x hx)).1
theorem back_ok {ys : List RI} (h : ∀ x ∈ ys, x.ok = true) {T : ByteArray} (hT : decF T.data.toList = none) :
    scanOf ((⟨(layL (ys.map RI.n)).toArray⟩ : ByteArray) ++ T).data.toList = (ys.map RI.n, (⟨(layL (ys.map RI.n)).toArray⟩ : ByteArray).size) := by
  rw [ByteArray.data_append, Array.toList_append, size_of]
  exact scan_lay _ (all_ok h) _ hT
theorem rest_none0 {s : ByteArray} (h : s.size = 0) : decF s.data.toList = none := by
  have hl := list_size s
  have e : s.data.toList = [] := List.eq_nil_of_length_eq_zero (by omega)
  rw [e, dec_nil]
theorem rest_none1 {s : ByteArray} (h : 0 < s.size) (hb : s[0].toNat ≠ 225) : decF s.data.toList = none := by
  have hl := list_size s
  have e : s.data.toList = s.data.toList[0] :: s.data.toList.drop 1 := by rw [← List.drop_eq_getElem_cons (by omega), List.drop_zero]
  rw [e]
  refine dec_other fun e => hb ?_
  have : s.data.toList[0] = s[0] := by rw [Array.getElem_toList]; rfl
  rw [← this, e]
  rfl
theorem rest_none2 (s : ByteArray) : decF ((⟨#[0]⟩ : ByteArray) ++ s).data.toList = none := by
  rw [ByteArray.data_append, Array.toList_append]
  exact dec_other (by decide)
theorem lay_ge (l : List RecN) : 14 * l.length ≤ (layL l).length := by
  induction l with
  | nil => simp [layL]
  | cons r l ih =>
    have := frameL_length r
    rw [show layL (r :: l) = frameL r ++ layL l by simp [layL], List.length_append, List.length_cons]
    omega
theorem scan_back (s : ByteArray) : layV ((scanOf s.data.toList).1.map RecN.i) = (s.extract 0 (scanOf s.data.toList).2, 0) ∧ (s.extract 0 (scanOf s.data.toList).2).size = (scanOf s.data.toList).2 ∧ (scanOf s.data.toList).2 ≤ s.size ∧ 14 * (scanOf s.data.toList).1.length ≤ s.size := by
  obtain ⟨h1, h2, h3, h4⟩ := lay_scan (s.data.toList.length + 1) s.data.toList (Nat.lt_succ_self _)
  have hg := lay_ge (scanOf s.data.toList).1
  rw [list_size] at h3
  generalize scanOf s.data.toList = sc at *
  refine ⟨?_, by rw [ByteArray.size_extract]; omega, h3, by omega⟩
  have hok : ∀ x ∈ sc.1.map RecN.i, x.ok = true := by
    intro x hx
    obtain ⟨r, hr, rfl⟩ := List.mem_map.1 hx
    exact (rec_ok (h1 r hr)).1
  rw [layV_ok hok, List.map_map]
  have e : sc.1.map (RI.n ∘ RecN.i) = sc.1 := by
    conv => rhs; rw [← List.map_id sc.1]
    exact List.map_congr_left fun r hr => (rec_ok (h1 r hr)).2
  rw [e, ← h4]
  congr 1
  apply ba_eq
  simp

/-- The length of the first records' frames; what FrameCuts' loop keeps. -/
def lenK (ys : List RI) (k : Nat) : Nat := (layL ((ys.take k).map RI.n)).length
def WholeK (a : Nat) (ys : List RI) (k : Nat) : Prop := wholes a (ys.map RI.n) 0 = (ys.take k).map RI.n ++ wholes a ((ys.drop k).map RI.n) (lenK ys k)
theorem lenK_succ {ys : List RI} {k : Nat} (h : k < ys.length) : lenK ys (k + 1) = lenK ys k + (14 + ys[k].d.size) := by
  rw [lenK, List.take_succ_eq_append_getElem h, List.map_append, List.map_singleton, layL_snoc, List.length_append, frameL_length]
  show _ + (14 + (ys[k].d.data.toList).length) = _
  rw [list_size]
  rfl
theorem whole_zero (a : Nat) (ys : List RI) : WholeK a ys 0 := by simp [WholeK, lenK, layL]
theorem whole_step {a : Nat} {ys : List RI} {k : Nat} (h : WholeK a ys k) (hk : k < ys.length) (hle : lenK ys k + (14 + ys[k].d.size) ≤ a) : WholeK a ys (k + 1) := by
  unfold WholeK at h ⊢
  rw [h, List.drop_eq_getElem_cons hk, List.map_cons, wholes]
  have e : (ys[k].n).data.length = ys[k].d.size := list_size _
  rw [e, if_pos hle, lenK_succ hk, List.take_succ_eq_append_getElem hk, List.map_append, List.append_assoc]
  rfl
theorem whole_stop {a : Nat} {ys : List RI} {k : Nat} (h : WholeK a ys k) (hk : k < ys.length) (hle : ¬ lenK ys k + (14 + ys[k].d.size) ≤ a) : wholes a (ys.map RI.n) 0 = (ys.take k).map RI.n := by
  unfold WholeK at h
  rw [h, List.drop_eq_getElem_cons hk, List.map_cons, wholes]
  have e : (ys[k].n).data.length = ys[k].d.size := list_size _
  rw [e, if_neg hle, List.append_nil]
theorem whole_end {a : Nat} {ys : List RI} (h : WholeK a ys ys.length) : wholes a (ys.map RI.n) 0 = (ys.take ys.length).map RI.n := by
  unfold WholeK at h
  rw [h, List.drop_length]
  simp [wholes]
theorem cut_scan {ys : List RI} (h : ∀ x ∈ ys, x.ok = true) (a k : Nat) (hw : wholes a (ys.map RI.n) 0 = (ys.take k).map RI.n) :
    scanOf ((⟨(layL (ys.map RI.n)).toArray⟩ : ByteArray).extract 0 a).data.toList = ((ys.take k).map RI.n, lenK ys k) := by
  have e : ((⟨(layL (ys.map RI.n)).toArray⟩ : ByteArray).extract 0 a).data.toList = (layL (ys.map RI.n)).take a := by simp
  rw [e, scan_cut _ (all_ok h), hw]
  rfl
theorem lenK_le {ys : List RI} (h : ∀ x ∈ ys, x.ok = true) (k : Nat) (hk : ys.length ≤ 10) : lenK ys k ≤ 20140 := by
  have := lay_len (ys.take k) (fun x hx => h x (List.mem_of_mem_take hx))
  rw [List.length_take] at this
  unfold lenK
  omega
theorem RdR.all_take {ys : List RI} (h : ∀ x ∈ ys, x.ok = true) (k : Nat) : ∀ x ∈ ys.take k, x.ok = true := fun x hx => h x (List.mem_of_mem_take hx)

end Go.Proofs.YtlabmomehjfjdaaDoor
