/-
  Slices of bytes that grow by full copies (append to out[:len(out):len(out)] of a string), and what they are as a string; slices of strings that are read. Conditions: as the theorems' own hypotheses say.
-/
import Derived.Test.YtlkghcfjcdeokaaDoorBlk
import Derived.Lib.AppendStr
import Derived.Laws.Tables
namespace Go.Proofs.YtlkghcfjcdeokaaDoor
open Go.RowKit Go.Lib

theorem infoB8 : (Tryd.prog.info? 5).map (fun i => (i.zero, i.size, i.bytes)) = some (some (.int .u8 0), 1, 1) := by kernel_rfl

/-- A slice of bytes that reads as l, in a block from base on. -/
def Bs (w : World) (base : Nat) (A : Option Addr) (n c : Nat) (l : List UInt8) : Prop :=
  l.length = n ∧ n ≤ c ∧ c ≤ maxLen ∧ ((A = none ∧ c = 0) ∨ ∃ g cur, A = some ⟨g, 0, none⟩ ∧ base ≤ g ∧ w.heap[g]? = some (.cells cur 5 (0, 0)) ∧ c ≤ cur.size ∧ cur.toList.take n = strCells ⟨l.toArray⟩)

theorem strCells_mk (l : List UInt8) : strCells ⟨l.toArray⟩ = l.map fun b => Value.int .u8 (b.toNat : Int) := by simp [strCells]
theorem Bs.none_ (w : World) (base : Nat) : Bs w base none 0 0 [] := ⟨rfl, Nat.le_refl _, Nat.zero_le _, .inl ⟨rfl, rfl⟩⟩
theorem Bs.narrow {w : World} {base : Nat} {A : Option Addr} {n c : Nat} {l : List UInt8} (h : Bs w base A n c l) : Bs w base A n n l := by
  obtain ⟨h1, h2, h3, h4⟩ := h
  refine ⟨h1, Nat.le_refl _, by omega, ?_⟩
  rcases h4 with ⟨rfl, rfl⟩ | ⟨g, cur, rfl, h5, h6, h7, h8⟩
  · exact .inl ⟨rfl, by omega⟩
  · exact .inr ⟨g, cur, rfl, h5, h6, by omega, h8⟩
theorem Bs.kept {w w' : World} {base : Nat} {A : Option Addr} {n c : Nat} {l : List UInt8} (h : Bs w base A n c l) (hb : ∀ g, base ≤ g → g < w.heap.size → w'.heap[g]? = w.heap[g]?) : Bs w' base A n c l := by
  obtain ⟨h1, h2, h3, h4⟩ := h
  refine ⟨h1, h2, h3, ?_⟩
  rcases h4 with h4 | ⟨g, cur, rfl, h5, h6, h7, h8⟩
  · exact .inl h4
  · exact .inr ⟨g, cur, rfl, h5, (hb g h5 (Array.getElem?_eq_some_iff.1 h6).1).trans h6, h7, h8⟩
theorem Bs.below {w w' : World} {base : Nat} {A : Option Addr} {n c : Nat} {l : List UInt8} (h : Bs w base A n c l) (hb : Below w.heap.size w w') : Bs w' base A n c l := h.kept fun g _ hg => hb.block g hg
theorem Bs.base_ {w : World} {base base' : Nat} {A : Option Addr} {n c : Nat} {l : List UInt8} (h : Bs w base A n c l) (hb : base' ≤ base) : Bs w base' A n c l := by
  obtain ⟨h1, h2, h3, h4⟩ := h
  refine ⟨h1, h2, h3, ?_⟩
  rcases h4 with h4 | ⟨g, cur, rfl, h5, h6, h7, h8⟩
  · exact .inl h4
  · exact .inr ⟨g, cur, rfl, by omega, h6, h7, h8⟩
theorem Bs.cells {w : World} {base : Nat} {g n c : Nat} {l : List UInt8} (h : Bs w base (some ⟨g, 0, none⟩) n c l) : ∀ (j : Nat) (u : Value), (strCells ⟨l.toArray⟩)[j]? = some u → w.cell? ((⟨g, 0, none⟩ : Addr).add j) = some u := by
  obtain ⟨h1, h2, h3, h4⟩ := h
  rcases h4 with ⟨h4, -⟩ | ⟨g', cur, h4, h5, h6, h7, h8⟩
  · cases h4
  · injection h4 with h4
    injection h4 with h4
    subst h4
    intro j u hu
    rw [← h8] at hu
    have hj : j < n := by
      rcases Nat.lt_or_ge j n with hlt | hge
      · exact hlt
      · rw [List.getElem?_eq_none (by rw [List.length_take]; omega)] at hu; cases hu
    rw [List.getElem?_take, if_pos hj] at hu
    have ha : (⟨g, 0, none⟩ : Addr).add j = ⟨g, j, none⟩ := by unfold Addr.add; split <;> simp
    rw [ha, cell_of_row w g j cur _ _ h6]
    simpa using hu

/-- Such a slice as a string. -/
theorem conv_bs {w : World} {base : Nat} {A : Option Addr} {n c : Nat} {l : List UInt8} (h : Bs w base A n c l) : (convert 60 9 (.slice A n c)).run Tryd.prog w = .ok (.string ⟨l.toArray⟩) w := by
  have h' := h
  obtain ⟨rfl, h2, h3, h4⟩ := h
  rcases h4 with ⟨rfl, rfl⟩ | ⟨g, cur, rfl, h5, h6, h7, h8⟩
  · obtain rfl : l = [] := List.eq_nil_of_length_eq_zero (by omega)
    have e : (convert 60 9 (.slice none 0 0)).run Tryd.prog w = .ok (.string ⟨#[]⟩) w := by kernel_rfl
    exact e
  · refine run_convert_bytes_back (P := Tryd.prog) w 60 9 5 ⟨g, 0, none⟩ c l Tryd.underlying60 Tryd.underlying5 Tryd.underlying9 (fun j hj => ?_)
    refine h'.cells j _ ?_
    rw [strCells_mk, List.getElem?_map, List.getElem?_eq_getElem hj]
    rfl

theorem setRow_same {w : World} {g : Nat} {cur : Array Value} {t : TypeId} {fr : Nat × Nat} (h : w.heap[g]? = some (.cells cur t fr)) : w.setRow g cur = w := by
  have : (w.setRow g cur).heap = w.heap := by
    apply Array.ext_getElem?
    intro i
    unfold World.setRow
    rw [Array.getElem?_modify]
    by_cases hi : g = i
    · subst hi
      rw [if_pos rfl, h]
      rfl
    · rw [if_neg hi]
  have e : w.setRow g cur = { w with heap := (w.setRow g cur).heap } := rfl
  rw [e, this]

theorem bs_of_own {w : World} {base n : Nat} {V : Value} {l : List UInt8} (h : w.ownsRow base 5 1 V n (strCells ⟨l.toArray⟩)) : ∃ A c, V = .slice A n c ∧ Bs w base A n c l := by
  obtain ⟨h1, h2⟩ := h
  have hl : l.length = n := by rw [strCells_mk] at h1; simpa using h1
  rcases h2 with ⟨rfl, rfl⟩ | ⟨g, cap, cur, rfl, h3, h4, h5, h6, h7, h8⟩
  · exact ⟨none, 0, rfl, hl, Nat.le_refl _, Nat.zero_le _, .inl ⟨rfl, rfl⟩⟩
  · exact ⟨_, cap, rfl, hl, h5, h6, .inr ⟨g, cur, rfl, h3, h4, by omega, by rw [← h8, Nat.mul_one]⟩⟩
theorem strCells_append (l m : List UInt8) : strCells ⟨l.toArray⟩ ++ strCells ⟨m.toArray⟩ = strCells ⟨(l ++ m).toArray⟩ := by
  rw [strCells_mk, strCells_mk, strCells_mk, List.map_append]
theorem strCells_of (s : ByteArray) : strCells s = strCells ⟨s.data.toList.toArray⟩ := by simp

/-- append of a string to a slice without room. -/
theorem run_append_full {w : World} {base : Nat} {A : Option Addr} {n : Nat} {l : List UInt8} (h : Bs w base A n n l) (s : ByteArray) (ty : TypeId) (hs : n + s.size ≤ 140737488355328) (hbase : base ≤ w.heap.size) :
    ∃ A' c' w', (Builtin.append_ #[60, 9] ty #[.slice A n n, .string s]).run Tryd.prog w = .ok (.slice A' (n + s.size) c') w' ∧ Bs w' base A' (n + s.size) c' (l ++ s.data.toList) ∧ Below w.heap.size w w' := by
  obtain ⟨i0, hi0, hz0, hz1, hz2⟩ := info_parts infoB8
  have h' := h
  obtain ⟨h1, h2, h3, h4⟩ := h
  rcases h4 with ⟨rfl, rfl⟩ | ⟨g, cur, rfl, h5, h6, h7, h8⟩
  · obtain rfl : l = [] := List.eq_nil_of_length_eq_zero (by omega)
    obtain ⟨v', w', hr, k1, k2, k3⟩ := run_append_own_string (P := Tryd.prog) w w.heap.size 60 9 ty 5 i0 Tryd.underlying60 Tryd.underlying9 hi0 hz0 hz1 hz2 (.slice none 0 0) 0 [] ⟨by simp, .inl ⟨rfl, rfl⟩⟩ s (by unfold maxLen; omega) (by omega) (Nat.le_refl _)
    rw [List.nil_append, strCells_of] at k1
    obtain ⟨A', c', rfl, k4⟩ := bs_of_own k1
    exact ⟨A', c', w', hr, by simpa using k4.base_ hbase, ⟨k2.os, k2.tape, k2.output, k2.size, fun k hk => k2.block k hk (by simp [Value.ownBlock])⟩⟩
  · by_cases h0 : s.size = 0
    · have hr := run_append_room_string (P := Tryd.prog) w 60 9 ty 5 i0 Tryd.underlying60 Tryd.underlying9 hi0 hz1 g n n cur h6 s (by omega) (by omega)
      have hsn : strCells s = [] := List.eq_nil_of_length_eq_zero (by rw [strCells_length, h0])
      have hsl : s.data.toList = [] := List.eq_nil_of_length_eq_zero (by rw [Array.length_toList]; exact h0)
      rw [hsn, h0, List.append_nil, Nat.add_zero, List.take_append_drop, Array.toArray_toList, setRow_same h6] at hr
      refine ⟨_, _, w, by rw [h0, Nat.add_zero]; exact hr, ?_, Below.refl _ _⟩
      rw [hsl, List.append_nil, h0, Nat.add_zero]
      exact h'
    · have hr := run_append_grow_string (P := Tryd.prog) w 60 9 ty 5 i0 (.int .u8 0) Tryd.underlying60 Tryd.underlying9 hi0 hz0 ⟨g, 0, none⟩ n n (strCells ⟨l.toArray⟩) (by rw [strCells_length, hz1, Nat.mul_one]; show l.toArray.size = n; simpa using h1) h'.cells s (by omega) (by omega) (by rw [hz2]; exact growslice_fits (by omega) (by omega))
      have hg := grownCap_ge w (n + s.size) n 5
      have hm := grownCap_le_maxLen w (n + s.size) n 5 (by unfold maxLen; omega)
      generalize grownCap w (n + s.size) n 5 = c' at *
      refine ⟨_, c', _, hr, ⟨by rw [List.length_append, Array.length_toList]; exact congrArg (· + s.size) h1, hg, hm, .inr ⟨w.heap.size, _, rfl, hbase, World.alloc_heap_new w.drew _, ?_, ?_⟩⟩, (Below.refl _ w).drew.alloc (Nat.le_refl _) _⟩
      · rw [Array.size_append, Array.size_append, size_zeroCells, List.size_toArray, List.size_toArray, strCells_length, strCells_length]
        have e1 : (⟨l.toArray⟩ : ByteArray).size = n := by show l.toArray.size = n; simpa using h1
        have e2 : (Value.int .u8 0).cells.size = 1 := rfl
        rw [e1, e2]
        omega
      · rw [Array.toList_append, Array.toList_append, List.append_assoc]
        have e1 : (strCells (⟨l.toArray⟩ : ByteArray)).length = n := by rw [strCells_length]; show l.toArray.size = n; simpa using h1
        rw [← List.append_assoc]
        rw [List.take_append_of_le_length (by rw [List.length_append]; simp only [strCells_length] at e1 ⊢; omega), List.take_of_length_le (by rw [List.length_append]; simp only [strCells_length] at e1 ⊢; omega)]
        rw [strCells_of s, strCells_append]

theorem wpList_append_full {w : World} {ops : Array Oper} {rest : List Oper} {o : Oper} {a : Act} {Q : Exit → Act → World → Prop} (hgd : o.guard = none) (sl x : Operand)
    (ho : o.op = .call { callee := .builtin .append, args := #[sl, x], argTypes := #[60, 9] })
    (base : Nat) (A : Option Addr) (n : Nat) (l : List UInt8) (s : ByteArray) (hs : a.eval sl = .slice A n n) (hx : a.eval x = .string s) (hB : Bs w base A n n l) (hb : n + s.size ≤ 140737488355328) (hbase : base ≤ w.heap.size)
    (h : ∀ A' c' w', Bs w' base A' (n + s.size) c' (l ++ s.data.toList) → Below w.heap.size w w' → wpList Tryd.prog ops Q rest (a.put o.dst (.slice A' (n + s.size) c')) w') : wpList Tryd.prog ops Q (o :: rest) a w := by
  refine wpList_plain hgd fun K hK => ?_
  obtain ⟨A', c', w', hr, h2, h3⟩ := run_append_full hB s o.type hb hbase
  unfold Oper.wp execOp
  simp only [ho, resolve, invoke, builtin, Sem.run_bind, Sem.run_pure, Result.andThen_ok, List.map_toArray, List.map_cons, List.map_nil, hs, hx, hr]
  exact hK _ _ (h A' c' w' h2 h3)

/-- A slice of strings that is read. -/
def RdS (w : World) (A : Option Addr) (ss : List ByteArray) : Prop := 0 < ss.length → ∃ a, A = some a ∧ a.block < w.heap.size ∧ ∀ (i : Nat) (h : i < ss.length), w.cell? (a.add i) = some (.string ss[i])
theorem RdS.below {w w' : World} {A : Option Addr} {ss : List ByteArray} (h : RdS w A ss) (hb : Below w.heap.size w w') : RdS w' A ss := fun hp => by
  obtain ⟨a, h1, h2, h3⟩ := h hp
  refine ⟨a, h1, Nat.lt_of_lt_of_le h2 hb.size, fun i hi => (hb.cell (by rw [show (a.add i).block = a.block by unfold Addr.add; split <;> rfl]; exact h2)).trans (h3 i hi)⟩
theorem rdS_at {W : World} {g : Nat} (ss : List ByteArray) (h : g = W.heap.size) : RdS (W.alloc (.cells (ss.map Value.string).toArray 9)) (some ⟨g, 0, none⟩) ss := by
  subst h
  refine fun _ => ⟨_, rfl, by simp, fun i hi => ?_⟩
  have ha : (⟨W.heap.size, 0, none⟩ : Addr).add i = ⟨W.heap.size, i, none⟩ := by unfold Addr.add; split <;> simp
  rw [ha, (Blk.new_ W 9 (ss.map Value.string).toArray).cell i]
  simp [List.getElem?_eq_getElem hi]
/-- Many texts, one behind the other. -/
def catL (ss : List ByteArray) : List UInt8 := ss.flatMap fun s => s.data.toList
theorem catL_snoc (ss : List ByteArray) (s : ByteArray) : catL (ss ++ [s]) = catL ss ++ s.data.toList := by simp [catL]
theorem catL_append (a b : List ByteArray) : catL (a ++ b) = catL a ++ catL b := by simp [catL]
theorem catL_cons (s : ByteArray) (ss : List ByteArray) : catL (s :: ss) = s.data.toList ++ catL ss := by simp [catL]
theorem catL_take_le (ss : List ByteArray) (k : Nat) : (catL (ss.take k)).length ≤ (catL ss).length := by
  have e : catL ss = catL (ss.take k) ++ catL (ss.drop k) := by rw [← catL_append, List.take_append_drop]
  rw [e, List.length_append]
  omega

end Go.Proofs.YtlkghcfjcdeokaaDoor
