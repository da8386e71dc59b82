/-
  Package sdnv: some numbers' groups (all). Conditions: as the theorems' own hypotheses say.
-/
import Derived.Test.YtcahfdhfdigjaaaDoorSdD
import Derived.Laws.CopyOwn
import Derived.Shelf.Abstract
namespace Go.Proofs.YtcahfdhfdigjaaaDoor
open Go.RowKit Go.Shelf
attribute [local go_sem] Oper.semAt_some

theorem infoB : (Tryd.prog.info? 5).map (fun i => (i.zero, i.size, i.bytes)) = some (some (.int .u8 0), 1, 1) := by kernel_rfl
theorem groups_any (n : Int) (w : World) : Calls Tryd.prog 33 #[.int .i64 n] w fun e w' => e = .returned (.func (.func 39) #[] #[.pointer (some ⟨w.heap.size, 0, none⟩)]) ∧ w' = w.alloc (.cells #[.int .i64 n] 3) := by
  go_enter Tryd.func33, Tryd.ntmps33
  go_wp2_with fail
  go_ret
  exact ⟨rfl, rfl⟩

/-- A slice that reads as a list of numbers. -/
def RdI (w : World) (A : Option Addr) (xs : List Int) : Prop := 0 < xs.length → ∃ a, A = some a ∧ a.block < w.heap.size ∧ ∀ (i : Nat) (h : i < xs.length), w.cell? (a.add i) = some (.int .i64 xs[i])

/-- Bytes as cells. -/
def cellsB (l : List UInt8) : List Value := l.map fun b => .int .u8 (b.toNat : Int)
theorem cellsB_append (l m : List UInt8) : cellsB (l ++ m) = cellsB l ++ cellsB m := by simp [cellsB]
theorem cellsB_length (l : List UInt8) : (cellsB l).length = l.length := by simp [cellsB]
theorem cellsB_one (l : List UInt8) : ∀ v ∈ cellsB l, v.oneCell' = true := by
  intro v hv
  obtain ⟨b, _, rfl⟩ := List.mem_map.1 hv
  rfl

/-- The marks of loops that are done: their blocks lie from lo up to hi, and are empty. -/
def Marks (lo : Nat) : Nat → List Deferred → World → Prop
  | _, [], _ => True
  | hi, d :: ds, W => ∃ r, d = { target := .collected r, args := #[] } ∧ lo ≤ r ∧ r < hi ∧ W.heap[r]? = some (.deferred (some [])) ∧ Marks lo r ds W
theorem Marks.mono {lo : Nat} : ∀ {hi hi' : Nat} {ds : List Deferred} {W : World}, Marks lo hi ds W → hi ≤ hi' → Marks lo hi' ds W
  | _, _, [], _, _, _ => trivial
  | _, _, _ :: _, _, ⟨r, h1, h2, h3, h4, h5⟩, h => ⟨r, h1, h2, by omega, h4, h5⟩
theorem Marks.kept {lo : Nat} : ∀ {hi : Nat} {ds : List Deferred} {W W' : World}, Marks lo hi ds W → (∀ r, lo ≤ r → r < hi → W.heap[r]? = some (.deferred (some [])) → W'.heap[r]? = some (.deferred (some []))) → Marks lo hi ds W'
  | _, [], _, _, _, _ => trivial
  | _, _ :: _, _, _, ⟨r, h1, h2, h3, h4, h5⟩, h => ⟨r, h1, h2, h3, h r h2 h3 h4, h5.kept (fun r' a b c => h r' a (by omega) c)⟩
/-- A function leaves through the marks. -/
theorem leaves_marks {P : Program} {fn : Func} {tmps : Array Value} {R : Ending → World → Prop} {v : Value} (hres : ∀ W, (results fn tmps).run P W = .ok v W) (lo : Nat) : ∀ (ds : List Deferred) (hi : Nat) (W : World), Marks lo hi ds W → (∀ W', Below lo W W' → R (.returned v) W') → LeavesInM Fence.wide 5 P fn tmps R ds .returning W
  | [], _, W, _, hR => ⟨_, hres W, hR W (Below.refl _ _)⟩
  | d :: ds, hi, W, ⟨r, h1, h2, h3, h4, h5⟩, hR => ⟨by simp, .inl ⟨r, _, by rw [h1], run_takeDeferred h4, leaves_marks hres lo ds r _
      (h5.kept (fun r' a b c => (World.putObj_heap_other (by omega)).trans c))
      (fun W' hb => hR W' (Below.trans (b := W.putObj r (.deferred none)) ⟨rfl, rfl, rfl, by simp, fun k hk => World.putObj_heap_other (by omega)⟩ hb))⟩⟩

/-- Bytes are moved one place on within a row of the call's own. -/
theorem run_shift {P : Program} (T U ty : TypeId) (hu : P.underlying T = some (.slice U)) (hsz : (P.info? U).map (·.size) = some 1) (base g cap m fr : Nat) (X Y : List Value) (z : Value) (W : World) (hX : X.length = fr) (hm : fr + Y.length = m)
    (hown : W.ownsRow base U 1 (.slice (some ⟨g, 0, none⟩) (m + 1) cap) (m + 1) (X ++ (Y ++ [z]))) (hone : ∀ v ∈ Y, v.oneCell' = true) (dp : Option Addr) (dCap sCap : Nat) (hdp : 0 < Y.length → dp = some ⟨g, fr + 1, none⟩) :
    ∃ (q : Value) (W' : World), (Builtin.copy_ #[T, T] ty #[.slice dp Y.length dCap, .slice (some ⟨g, fr, none⟩) (Y.length + 1) sCap]).run P W = .ok (goInt Y.length) W' ∧ W'.ownsRow base U 1 (.slice (some ⟨g, 0, none⟩) (m + 1) cap) (m + 1) (X ++ (q :: Y)) ∧ W.grownBy W' (some g) := by
  by_cases h0 : Y.length = 0
  · obtain rfl : Y = [] := List.eq_nil_of_length_eq_zero h0
    exact ⟨z, W, run_copy_none W T T ty U dp (some ⟨g, fr, none⟩) 0 dCap (0 + 1) sCap hu hsz (by simp), by simpa using hown, World.grownBy.refl W _⟩
  · obtain ⟨h1, ⟨h2, -⟩ | ⟨g1, cap1, cur, h2, h3, h4, h5, h6, h7, h8⟩⟩ := hown
    · cases h2
    · injection h2 with h2 h9 h10
      injection h2 with h2
      injection h2 with h2
      subst h2 h10
      obtain ⟨y0, Y', hY⟩ : ∃ y0 Y', Y ++ [z] = y0 :: Y' := by
        cases Y with
        | nil => exact ⟨z, [], rfl⟩
        | cons y Y => exact ⟨y, Y ++ [z], rfl⟩
      rw [Nat.mul_one] at h7 h8
      have hcl : cur.toList.length = cap := by simpa using h7
      have hsrc : ∀ j v, Y[j]? = some v → W.cell? ((⟨g, fr, none⟩ : Addr).add j) = some v := fun j v hv => by
        have hj : j < Y.length := (List.getElem?_eq_some_iff.1 hv).1
        rw [show (⟨g, fr, none⟩ : Addr).add j = ⟨g, fr + j, none⟩ by simp [Addr.add], cell_of_row W g (fr + j) cur U (0, 0) h4]
        have : (cur.toList.take (m + 1))[fr + j]? = some v := by
          rw [h8, List.getElem?_append_right (by omega), show fr + j - X.length = j by omega, List.getElem?_append_left hj, hv]
        rw [List.getElem?_take_of_lt (by omega)] at this
        simpa using this
      have hr := run_copy_row (P := P) W T T ty U g (fr + 1) Y.length dCap ⟨g, fr, none⟩ (Y.length + 1) sCap cur U Y hu hsz h4 (Nat.min_eq_right (by omega)).symm hsrc (by rw [h7]; omega) hone
      rw [hdp (by omega)]
      refine ⟨y0, _, hr, ⟨by simp; omega, .inr ⟨g, cap, _, rfl, h3, setRow_heap W g cur _ U (0, 0) h4, h5, h6, ?_, ?_⟩⟩, ⟨rfl, rfl, rfl, by simp, fun k hk hn => setRow_other W g k _ (fun e => hn (by rw [e]))⟩⟩
      · have : (cur.toList.take (fr + 1)).length = fr + 1 := by rw [List.length_take]; omega
        simp
        omega
      · rw [Nat.mul_one, List.toList_toArray]
        have e1 : cur.toList.take (fr + 1) = X ++ [y0] := by
          have : (cur.toList.take (m + 1)).take (fr + 1) = X ++ [y0] := by
            rw [h8, hY, List.take_append, hX, show fr + 1 - fr = 1 by omega, List.take_of_length_le (by omega)]
            rfl
          rwa [List.take_take, Nat.min_eq_left (by omega)] at this
        rw [e1, List.take_append_of_le_length (by simp; omega), List.take_of_length_le (by simp; omega)]
        simp

theorem wpListIn_append_lies {l n : Nat} {P : Program} (w : World) {ops : Array Oper} {rest : List Oper} {o : Oper} {a : Act} {Q : Exit → Act → World → Prop} (hgd : o.guard = none) (s x : Operand) (t : TypeId)
    (ho : o.op = .call { callee := .builtin .append, args := #[s, x], argTypes := #[t, t] })
    (base : Nat) (e : TypeId) (i : TypeInfo) (z : Value) (size bytes : Nat) (ht : P.underlying t = some (.slice e)) (hi : P.info? e = some i) (hz : i.zero = some z)
    (hsize : i.size = size) (hby : i.bytes = bytes) (hzs : z.cells.size = size) (hsz : 0 < size)
    (v : Value) (k : Nat) (xs : List Value) (hs : a.eval s = v) (hown : w.ownsRow base e size v k xs)
    (ad : Addr) (m c : Nat) (news : List Value) (hx : a.eval x = .slice (some ad) m c) (hl : news.length = m * size) (hnews : ∀ j u, news[j]? = some u → w.cell? (ad.add j) = some u) (h1 : ∀ u ∈ news, u.oneCell' = true)
    (hm : 0 < m) (h63 : k + m ≤ maxLen) (hbytes : (k + m) * bytes ≤ 140737488355328) (hbase : base ≤ w.heap.size)
    (h : ∀ g cap w', w'.ownsRow base e size (.slice (some ⟨g, 0, none⟩) (k + m) cap) (k + m) (xs ++ news) → w.grownBy w' v.ownBlock → (v.ownBlock = some g ∨ g = w.heap.size) → g < w'.heap.size → wpListIn (Fence.wide.inRound l) n P ops Q rest (a.put o.dst (.slice (some ⟨g, 0, none⟩) (k + m) cap)) w') : wpListIn (Fence.wide.inRound l) n P ops Q (o :: rest) a w := by
  refine wpListIn_plain hgd fun K hK' => ?_
  obtain ⟨g, cap, w', hrun, r1, r2, r3, r4⟩ := run_append_lies (P := P) w t o.type base e i z size bytes ht hi hz hsize hby hzs hsz v k xs hown ad m c news hl hnews h1 hm h63 hbytes hbase w.heap.size rfl
  unfold Oper.wpIn
  refine ⟨fun _ _ => trivial, ?_⟩
  rw [Oper.semAt_plain _ _ _ (by rw [ho]; intro c hc'; cases hc')]
  simp [execOp, ho, resolve, invoke, builtin, hs, hx, hrun, Result.andThen]
  exact hK' _ _ (h g cap w' r1 r2 r3 r4)

theorem listL_len (l : List Nat) (h : ∀ n ∈ l, n ≤ 281474976710655) : (listL l).length ≤ 7 * l.length := by
  induction l with
  | nil => simp [listL]
  | cons n l ih =>
    have h1 := sdL_le7 (h n (by simp))
    have h2 := ih (fun m hm => h m (by simp [hm]))
    have e : listL (n :: l) = sdL n ++ listL l := by simp [listL]
    rw [e, List.length_append, List.length_cons]
    omega
theorem grL_len {n : Nat} (h : n ≤ 281474976710655) : (grL n).length ≤ 7 := by
  rw [← List.length_reverse, grL_sdL]; exact sdL_le7 h
theorem boxed_at {W : World} {B : Nat} {v : Value} {t : TypeId} (h : B = W.heap.size) : Boxed (W.alloc (.cells #[v] t)) B t v := by
  rw [h]; exact Boxed.new _ _ _

/-- Memory grows, and of what was there only the blocks that b names may turn. -/
structure KeptBut (b : Nat → Prop) (w w' : World) : Prop where
  os : w'.os = w.os
  tape : w'.tape = w.tape
  output : w'.output = w.output
  size : w.heap.size ≤ w'.heap.size
  block : ∀ k, k < w.heap.size → ¬ b k → w'.heap[k]? = w.heap[k]?
theorem KeptBut.trans {b : Nat → Prop} {x y z : World} (h : KeptBut b x y) (k : KeptBut b y z) : KeptBut b x z :=
  ⟨k.os.trans h.os, k.tape.trans h.tape, k.output.trans h.output, Nat.le_trans h.size k.size, fun i hi hn => (k.block i (Nat.lt_of_lt_of_le hi h.size) hn).trans (h.block i hi hn)⟩
theorem KeptBut.of_grown {b : Nat → Prop} {x y : World} {row : Option Nat} (h : x.grownBy y row) (hr : ∀ k, row = some k → b k) : KeptBut b x y :=
  ⟨h.os, h.tape, h.output, h.size, fun k hk hn => h.block k hk (fun e => hn (hr k e.symm))⟩
theorem KeptBut.drew {b : Nat → Prop} {x y : World} (h : KeptBut b x y) : KeptBut b x y.drew := ⟨h.os, h.tape, h.output, h.size, h.block⟩

/-- What holds at k rounds of the outer loop. -/
def AllI (d : Nat) (xs : List Int) (w : World) (k : Nat) (V : Value) (wr : World) : Prop :=
  Boxed wr d 58 V ∧ wr.ownsRow (d + 1) 5 1 V (listL ((xs.take k).map Int.toNat)).length (cellsB (listL ((xs.take k).map Int.toNat))) ∧ Below d w wr ∧ ∀ x ∈ xs.take k, okNum x = true
/-- What all hands back. -/
def allRes (xs : List Int) : Value := if xs.all okNum then .tuple #[.string ⟨(listL (xs.map Int.toNat)).toArray⟩, .nilIface] else .tuple #[.string ByteArray.empty, WrV 10]
theorem allRes_ok {xs : List Int} (h : ∀ x ∈ xs, okNum x = true) : allRes xs = .tuple #[.string ⟨(listL (xs.map Int.toNat)).toArray⟩, .nilIface] := by rw [allRes, if_pos (List.all_eq_true.2 h)]
theorem allRes_bad {xs : List Int} {x : Int} (h : x ∈ xs) (hx : okNum x = false) : allRes xs = .tuple #[.string ByteArray.empty, .iface 60 (.agg #[.int .i64 10])] := by
  rw [allRes, if_neg (fun e => by rw [List.all_eq_true.1 e x h] at hx; cases hx)]; rfl
/-- What holds at some rounds of the inner one. -/
def GrI (d s : Nat) (ds : List Deferred) (w : World) (X : List UInt8) (pre : List UInt8) (W : World) : Prop :=
  ∃ V, Boxed W d 58 V ∧ W.ownsRow (d + 1) 5 1 V (X ++ pre.reverse).length (cellsB (X ++ pre.reverse)) ∧ Boxed W s 3 (.int .i64 (X.length : Int)) ∧ V.ownBlock ≠ some s ∧ V.ownBlock ≠ some (s + 1) ∧ Below d w W ∧ Marks (d + 1) s ds W ∧ s + 1 < W.heap.size
theorem grI_kept {d s : Nat} {ds : List Deferred} {w : World} {X pre : List UInt8} {A B : World} {row : Option Nat} (h : GrI d s ds w X pre A) (hd : d < s) (hg : A.grownBy B row)
    (hr : ∀ r, row = some r → s < r ∧ (r = s + 1 ∨ ∃ o : Obj, A.heap[r]? = some o ∧ o.isCells = false)) : GrI d s ds w X pre B := by
  obtain ⟨V, h1, h2, h3, h4, h5, h6, h7, h8⟩ := h
  have hl := h1.lt
  have hV : V.ownBlock = none ∨ V.ownBlock ≠ row := by
    rcases h2.2 with ⟨rfl, -⟩ | ⟨g, cap, cur, rfl, hb, hh, -⟩
    · exact .inl rfl
    · refine .inr (fun e => ?_)
      obtain ⟨h9, h10⟩ := hr g e.symm
      rcases h10 with h10 | ⟨o, h10, h11⟩
      · subst h10; exact h5 rfl
      · rw [hh] at h10
        injection h10 with h10
        subst h10
        cases h11
  refine ⟨V, h1.kept hg (fun e => by have := (hr d e.symm).1; omega), h2.kept hg hV, h3.kept hg (fun e => by have := (hr s e.symm).1; omega), h4, h5, h6.grown hg (by omega) (fun r e => by have := (hr r e).1; omega), h7.kept (fun r a b c => ?_), Nat.lt_of_lt_of_le h8 hg.size⟩
  exact (hg.block r (Array.getElem?_eq_some_iff.1 c).1 (fun e => by have := (hr r e.symm).1; omega)).trans c

set_option maxRecDepth 100000 in
set_option maxHeartbeats 4000000 in
/-- The inner loop's round and what stands around it: the outer loop. -/
theorem all_any (A : Option Addr) (c n : Nat) (xs : List Int) (w : World) (hn : xs.length = n) (ha : RdI w A xs) (hl : n ≤ 10000) :
    Calls Tryd.prog 26 #[.slice A n c] w (Ret (allRes xs) w) := by
  subst hn
  obtain ⟨i0, hi0, hz0, hz1, hz2⟩ := info_parts infoB
  refine callsIn_wide.1 (callsIn_of_wp_marks (n := 5) Tryd.func26 rfl trivial ?_ rfl)
  simp only [Tryd.ntmps26, List.size_toArray, List.length_cons, List.length_nil, Nat.reduceAdd, Nat.reduceSub, Array.replicate_succ, Array.replicate_zero, List.push_toArray, List.append_toArray, List.nil_append, List.cons_append]
  refine wpIn_wide.2 ?_
  go_wp2_with fail
  obtain ⟨d, hd⟩ : ∃ d, w.heap.size = d := ⟨_, rfl⟩
  have p0 : Boxed (w.alloc (.cells #[.slice none 0 0] 58)) d 58 (.slice none 0 0) := by rw [← hd]; exact Boxed.new _ _ _
  have q0 : Below d w (w.alloc (.cells #[.slice none 0 0] 58)) := by rw [← hd]; exact ext_new _ _
  have HD := Lib.hid hd
  rw [hd]
  clear hd
  generalize w.alloc (.cells #[.slice none 0 0] 58) = W0 at *
  refine wp_loop (fun a' wr => ∃ (k : Nat) (V : Value) (ds : List Deferred) (u2 u3 u6 u7 u8 u12 u13 u14 u15 u16 u17 u18 u19 u20 u21 u22 u23 u24 u25 u26 u27 u28 u29 u30 u31 u32 u33 u34 u35 u36 u37 u38 u39 u40 u41 u42 u43 u44 u45 u46 u47 : Value), k ≤ xs.length ∧ AllI d xs w k V wr ∧ Marks (d + 1) wr.heap.size ds wr ∧ a' = { tmps := #[.slice A xs.length c, undef, u2, u3, .pointer (some ⟨d, 0, none⟩), undef, u6, u7, u8, .slice A xs.length c, .int .i64 (xs.length : Int), .int .i64 (k : Int), u12, u13, u14, u15, u16, u17, u18, u19, u20, u21, u22, u23, u24, u25, u26, u27, u28, u29, u30, u31, u32, u33, u34, u35, u36, u37, u38, u39, u40, u41, u42, u43, u44, u45, u46, u47], defers := ds }) (fun a' _ => xs.length - (intOf (a'.tmps.getD 11 undef)).toNat) ?_ ?_
  · exact ⟨0, _, [], _, _, _, _, _, _, _, _, _, _, _, _, _, _, _, _, _, _, _, _, _, _, _, _, _, _, _, _, _, _, _, _, _, _, _, _, _, _, _, _, _, Nat.zero_le _, ⟨p0, own_nil, q0, by simp⟩, trivial, rfl⟩
  rintro _ wr ⟨k, V, ds, u2, u3, u6, u7, u8, u12, u13, u14, u15, u16, u17, u18, u19, u20, u21, u22, u23, u24, u25, u26, u27, u28, u29, u30, u31, u32, u33, u34, u35, u36, u37, u38, u39, u40, u41, u42, u43, u44, u45, u46, u47, hk, ⟨hV, hown, hbe, hok⟩, hm, rfl⟩
  have cV := hV.cell
  by_cases hlt : k < xs.length
  · obtain ⟨a, rfl, hab, hca⟩ := ha (by omega)
    have hx := (hbe.cell (by rw [show (a.add k).block = a.block by unfold Addr.add; split <;> rfl]; rw [← HD.out]; exact hab)).trans (hca k hlt)
    have hq1 : (k : Int) < (xs.length : Int) := by omega
    by_cases hokx : okNum xs[k] = true
    case neg =>
      have hno : okNum xs[k] = false := by simpa using hokx
      have HB := Lib.hid (allRes_bad (List.getElem_mem hlt) hno)
      have HNO := Lib.hid hno
      clear hokx hno hown hok
      generalize xs[k] = xv at *
      have HM := Lib.hid hm
      clear hm
      go_wp2_with fail
      refine (Right_any xv _).mono ?_
      rintro e w1 ⟨rfl, rfl⟩
      rw [HNO.out]
      go_wp2_with fail
      exact leaves_marks (v := .tuple #[.string ⟨#[]⟩, .iface 60 (.agg #[.int .i64 10])]) (fun W => by simp [results, Tryd.results26]) (d + 1) ds _ wr HM.out (fun W' hb => ⟨by rw [HB.out]; rfl, by rw [HD.out]; exact hbe.trans (hb.mono (by omega))⟩)
    have hok1 : ∀ x ∈ xs.take (k + 1), okNum x = true := by
      intro x hx
      rw [List.take_succ_eq_append_getElem hlt, List.mem_append, List.mem_singleton] at hx
      rcases hx with hx | rfl
      · exact hok x hx
      · exact hokx
    have HOK := Lib.hid hok1
    clear hok1
    obtain ⟨x0, x1⟩ := okNum_iff.1 hokx
    obtain ⟨nv, hnv⟩ := Int.eq_ofNat_of_zero_le x0
    have htk : listL ((xs.take (k + 1)).map Int.toNat) = listL ((xs.take k).map Int.toNat) ++ sdL nv := by
      rw [List.take_succ_eq_append_getElem hlt, hnv]; simp [listL]
    rw [hnv] at hx hokx x1
    have HT := Lib.hid htk
    have HK := Lib.hid hokx
    clear htk hokx hnv x0
    have hown' := hown
    obtain ⟨X, hX⟩ : ∃ X, listL ((xs.take k).map Int.toNat) = X := ⟨_, rfl⟩
    rw [hX] at hown' HT
    clear hown
    have hVs : (∃ m cap g', V = .slice g' m cap ∧ m = X.length) := by
      rcases hown'.2 with ⟨rfl, h0⟩ | ⟨g, cap, cur, rfl, -⟩
      · exact ⟨0, 0, none, rfl, h0.symm⟩
      · exact ⟨_, _, _, rfl, rfl⟩
    obtain ⟨_, capV, gV, rfl, rfl⟩ := hVs
    go_wp2_with fail
    refine (Right_any (nv : Int) _).mono ?_
    rintro e w1 ⟨rfl, rfl⟩
    rw [HK.out]
    go_wp2_with fail
    refine (groups_any (nv : Int) _).mono ?_
    rintro e w1 ⟨rfl, rfl⟩
    go_wp2_with fail
    have hXl : X.length ≤ 7 * xs.length := by
      have h1 := listL_len ((xs.take k).map Int.toNat) (fun m hm => by
        obtain ⟨y, hy, rfl⟩ := List.mem_map.1 hm
        have := okNum_iff.1 (hok y hy)
        omega)
      rw [hX, List.length_map, List.length_take] at h1
      omega
    obtain ⟨s, hs⟩ : ∃ s, wr.heap.size = s := ⟨_, rfl⟩
    have hds : d < s := by rw [← hs]; exact hV.lt
    rw [hs]
    rw [hs] at hm
    generalize hW5 : (wr.alloc (.cells #[.int .i64 (X.length : Int)] 3)).alloc (.cells #[.int .i64 (nv : Int)] 3) = W5c
    have hW5s : W5c.heap.size = s + 2 := by rw [← hW5]; simp [hs]
    have p3 : Boxed W5c s 3 (.int .i64 (X.length : Int)) := by rw [← hW5]; exact (boxed_at hs.symm).alloc _
    have p4 : Boxed W5c (s + 1) 3 (.int .i64 (nv : Int)) := by rw [← hW5]; exact boxed_at (by simp [hs])
    have p1 : GrI d s ds w X [] W5c := ⟨.slice gV X.length capV, by rw [← hW5]; exact (hV.alloc _).alloc _, by rw [← hW5]; simpa using (hown'.alloc _).alloc _, p3, fun e => by have := (hown'.lt _ e).2; omega, fun e => by have := (hown'.lt _ e).2; omega,
      by rw [← hW5]; exact (hbe.alloc (by omega) _).alloc (by simp; omega) _, by rw [← hW5]; exact hm.kept (fun r a b c => (Below.heap_alloc _ _ _ (by simp; omega)).trans ((Below.heap_alloc _ _ _ (by omega)).trans c)), by omega⟩
    clear hW5 hown' hV cV hbe hm
    refine wpIn_wide.1 (wpIn_rangeM (n := 5) (gf := 39) (lb := #[.pointer (some ⟨s + 1, 0, none⟩)]) rfl (by omega) rfl trivial (enters_of Tryd.func39 (by kernel_rfl) rfl)
      (groups_seq nv (by omega) (s + 1) _) (fun _ => rfl) ?hSt (fun h k => k.trans h) ?hKb ?hMb
      (fun pre W => GrI d s ds w X pre W) (fun _ _ _ => False) ?hI (fun _ _ _ _ _ h _ _ => h) ?hIM (fun _ _ _ _ h _ => h) p1 ?hround ?hdone (fun _ _ _ _ h _ => h.elim))
    case hSt => intro o o'; exact (p4.alloc _).alloc _
    case hKb =>
      intro W l o o' hl _ _
      exact World.putObj_heap_other (by omega)
    case hMb =>
      rintro A B ⟨v, rfl⟩ l o hl ho _
      rw [Below.heap_setCell _ _ _ _ (by simp; omega)]
      exact ho
    case hI =>
      intro pre A B row h hgr hr
      exact grI_kept h hds hgr (fun r e => ⟨by have := (hr r e).1; omega, .inr (hr r e).2⟩)
    case hIM =>
      rintro pre A B h ⟨v, rfl⟩
      exact grI_kept h hds (grownBy_setCell' A _ v) (fun r e => by cases e; exact ⟨by omega, .inl rfl⟩)
    case hround =>
      rintro l pre x W hIW ⟨t, ht⟩
      have hpl : pre.length ≤ 7 := by
        have h1 := grL_len (n := nv) (by omega)
        rw [ht, List.length_append, List.length_cons] at h1
        omega
      gi_wp2
      refine ⟨KeepsFrom.refl _ _, (by first | trivial | rfl), hIW, ?_⟩
      rintro Wb ⟨V', b1, b2, b3, ne1, ne2, b6, b7, b8⟩ hWb
      obtain ⟨m, hm⟩ : ∃ m, (X ++ pre.reverse).length = m := ⟨_, rfl⟩
      rw [hm] at b2
      have hm2 : X.length + pre.length = m := by rw [← hm]; simp
      have hVs : (∃ cap g', V' = .slice g' m cap) := by
        rcases b2.2 with ⟨rfl, h0⟩ | ⟨g, cap, cur, rfl, -⟩
        · exact ⟨0, none, by rw [h0]⟩
        · exact ⟨_, _, rfl⟩
      obtain ⟨capV', gV', rfl⟩ := hVs
      have cV' := b1.cell
      have cF := b3.cell
      gi_wp2_with (gi_at_builtin; refine wpListIn_append_lies _ rfl _ _ _ rfl (d + 1) 5 i0 (.int .u8 0) 1 1 Tryd.underlying58 hi0 hz0 hz1 hz2 rfl (by omega) (.slice gV' m capV') m _ rfl (b2.alloc _) ⟨Wb.heap.size, 0, none⟩ 1 1 [.int .u8 0] rfl rfl (new_one _ _ _) (fun u hu => by rw [List.mem_singleton.1 hu]; rfl) (by omega) (by unfold maxLen; omega) (by omega) (by simp; omega) ?_; intro g' cap w3 hown3 hgrow hat hlt3; have hbx := (b1.alloc (.cells #[.int .u8 0] 5)).kept hgrow (fun e => by have := (b2.lt _ e.symm).1; omega); have cbx := hbx.cell; have fbx := hbx.frozen)
      obtain ⟨bad, hbad⟩ : ∃ bad : Nat → Prop, bad = fun k => k = d ∨ (Value.slice gV' m capV').ownBlock = some k ∨ k = g' := ⟨_, rfl⟩
      have hmc : m + 1 ≤ cap := by
        rcases hown3.2 with ⟨h0, -⟩ | ⟨g, cap1, cur, h0, -, -, h1, -⟩
        · cases h0
        · injection h0 with _ _ h0; omega
      have hown4 : (w3.setCell ⟨d, 0, none⟩ (.slice (some ⟨g', 0, none⟩) (m + 1) cap)).ownsRow (d + 1) 5 1 (.slice (some ⟨g', 0, none⟩) (m + 1) cap) (m + 1) (cellsB (X ++ pre.reverse) ++ [.int .u8 0]) := own_besides hown3 ((Besides.refl d w3).set_ 0 _) (by omega)
      have b4 : Boxed (w3.setCell ⟨d, 0, none⟩ (.slice (some ⟨g', 0, none⟩) (m + 1) cap)) d 58 (.slice (some ⟨g', 0, none⟩) (m + 1) cap) := hbx.set _
      have k4 : KeptBut bad Wb (w3.setCell ⟨d, 0, none⟩ (.slice (some ⟨g', 0, none⟩) (m + 1) cap)) :=
        ((KeptBut.of_grown (World.grownBy_alloc Wb _ none) (fun k e => by cases e)).trans (KeptBut.of_grown hgrow (fun k e => by rw [hbad]; exact .inr (.inl e)))).trans (KeptBut.of_grown (grownBy_setCell' _ d _) (fun k e => by cases e; rw [hbad]; exact .inl rfl))
      rw [World.size_alloc] at hat
      have hat' : (Value.slice gV' m capV').ownBlock = some g' ∨ g' = Wb.heap.size + 1 := hat
      clear hat
      have hgs : g' ≠ s ∧ g' ≠ s + 1 := by
        rcases hat' with h | h
        · exact ⟨fun e => ne1 (by rw [h, e]), fun e => ne2 (by rw [h, e])⟩
        · omega
      have hns : ¬ bad s := by
        rw [hbad]
        rintro (h | h | h)
        · omega
        · exact ne1 h
        · exact hgs.1 h.symm
      have b5 : Boxed (w3.setCell ⟨d, 0, none⟩ (.slice (some ⟨g', 0, none⟩) (m + 1) cap)) s 3 (.int .i64 (X.length : Int)) := (k4.block s (by omega) hns).trans b3
      generalize w3.setCell ⟨d, 0, none⟩ (.slice (some ⟨g', 0, none⟩) (m + 1) cap) = W4 at *
      clear hbx cbx fbx hown3 hgrow hlt3
      obtain ⟨fr, hfr⟩ : ∃ fr, X.length = fr := ⟨_, rfl⟩
      have HFR := Lib.hid hfr
      rw [hfr] at b5 hm2
      have hq2 : (fr : Int) + 1 ≤ (m : Int) + 1 := by omega
      have hq3 : (m : Int) + 1 ≤ (cap : Int) := by omega
      have hq4 : (fr : Int) ≤ (m : Int) + 1 := by omega
      have hwr : IntKind.i64.wrap ((fr : Int) + 1) = (fr : Int) + 1 := IntWalk.i64_in _ (by omega)
      have hq5 : (0 : Int) ≤ (fr : Int) + 1 := by omega
      have hq6 : ((fr : Int) + 1).toNat = fr + 1 := by omega
      obtain ⟨p, hp⟩ : ∃ p, pre.length = p := ⟨_, rfl⟩
      rw [hp] at hm2
      rw [cellsB_append, List.append_assoc] at hown4
      have hsh := fun dp dCap sCap => run_shift (P := Tryd.prog) 58 5 3 Tryd.underlying58 (by kernel_rfl) (d + 1) g' cap m fr (cellsB X) (cellsB pre.reverse) (.int .u8 0) W4.drew (by rw [cellsB_length, hfr]) (by rw [cellsB_length, List.length_reverse, hp]; exact hm2) hown4.drew (cellsB_one _) dp dCap sCap
      rw [cellsB_length, List.length_reverse, hp] at hsh
      have hgd : d + 1 ≤ g' := (hown4.lt g' rfl).1
      have hbg : bad g' := by rw [hbad]; exact .inr (.inr rfl)
      have hcell : ∀ (k : Nat) (o : Obj), Wb.heap[k]? = some o → bad k → o.isCells = true := by
        intro k o hk hb
        have hkl : k < Wb.heap.size := (Array.getElem?_eq_some_iff.1 hk).1
        have own : (Value.slice gV' m capV').ownBlock = some k → o.isCells = true := fun h => by
          rcases b2.2 with ⟨h0, -⟩ | ⟨g, cap1, cur, h0, -, hh, -⟩
          · rw [h0] at h; cases h
          · rw [h0] at h
            injection h with h
            have h : g = k := h
            rw [h, hk] at hh
            injection hh with hh
            rw [hh]; rfl
        rw [hbad] at hb
        rcases hb with h | h | h
        · have := b1.symm.trans (h ▸ hk)
          injection this with this
          rw [← this]; rfl
        · exact own h
        · rcases hat' with h1 | h1
          · exact own (by rw [h1, h])
          · omega
      have hnot : ∀ k, k < d → ¬ bad k := by
        intro k hk hb
        rw [hbad] at hb
        rcases hb with h | h | h
        · omega
        · have := (b2.lt k h).1; omega
        · omega
      have hns1 : ¬ bad (s + 1) := by
        rw [hbad]
        rintro (h | h | h)
        · omega
        · exact ne2 h
        · exact hgs.2 h.symm
      have hset : ∀ q : Value, (cellsB X ++ q :: cellsB pre.reverse).set fr (.int .u8 (x.toNat : Int)) = cellsB (X ++ (pre ++ [x]).reverse) := fun q => by
        rw [List.set_append_right _ _ (by rw [cellsB_length, hfr]; exact Nat.le_refl _), cellsB_length, hfr, Nat.sub_self, List.set_cons_zero, List.reverse_append, cellsB_append]
        rfl
      have hlen : (X ++ (pre ++ [x]).reverse).length = m + 1 := by rw [List.length_append, List.length_reverse, List.length_append, hfr, hp]; simp; omega
      have HSET := Lib.hid hset
      have HLEN := Lib.hid hlen
      clear hset hlen
      by_cases hcap : cap = fr + 1
      · obtain ⟨q, W5, hr0, hown5, hg5⟩ := hsh (some ⟨g', 0, none⟩) 0 1 (fun h => by omega)
        have hr : (Builtin.copy_ #[58, 58] 3 #[.slice (some ⟨g', 0, none⟩) (m - fr) 0, .slice (some ⟨g', fr, none⟩) (m + 1 - fr) 1]).run Tryd.prog W4.drew = .ok (goInt p) W5 := by
          rw [show m + 1 - fr = p + 1 by omega, show m - fr = p by omega]
          exact hr0
        clear hsh hr0 hown4
        have b4' : Boxed W4.drew d 58 (.slice (some ⟨g', 0, none⟩) (m + 1) cap) := b4
        have b5' : Boxed W4.drew s 3 (.int .i64 (fr : Int)) := b5
        have hz1 := b4'.kept hg5 (fun e => by injection e with e; omega)
        have hz2 := b5'.kept hg5 (fun e => by injection e with e; exact hgs.1 e.symm)
        have hc5 := hown5.cellAt fr (by omega)
        have hf5 := hown5.frozenAt fr
        rw [List.getElem?_append_right (by rw [cellsB_length, hfr]; exact Nat.le_refl _), cellsB_length, hfr, Nat.sub_self, List.getElem?_cons_zero] at hc5
        have cz1 := hz1.cell
        have cz2 := hz2.cell
        obtain ⟨o1, o2⟩ := hown5.stored fr (.int .u8 (x.toNat : Int))
        rw [HSET.out] at o1
        have k6 := (k4.drew.trans (KeptBut.of_grown hg5 (fun k e => by injection e with e; rw [← e]; exact hbg))).trans (KeptBut.of_grown o2 (fun k e => by injection e with e; rw [← e]; exact hbg))
        have hG : GrI d s ds w X (pre ++ [x]) (W5.setCell ⟨g', fr, none⟩ (.int .u8 (x.toNat : Int))) :=
          ⟨.slice (some ⟨g', 0, none⟩) (m + 1) cap, hz1.kept o2 (fun e => by injection e with e; omega), by rw [HLEN.out]; exact o1, by rw [HFR.out]; exact hz2.kept o2 (fun e => by injection e with e; exact hgs.1 e.symm), fun e => by injection e with e; exact hgs.1 e, fun e => by injection e with e; exact hgs.2 e,
            b6.trans ⟨k6.os, k6.tape, k6.output, k6.size, fun k hk => k6.block k (by omega) (hnot k hk)⟩, b7.kept (fun r a b c => (k6.block r (by omega) (fun hb => by have := hcell r _ c hb; cases this)).trans c), Nat.lt_of_lt_of_le b8 k6.size⟩
        have hKf : KeepsFrom W5c.heap.size Wb (W5.setCell ⟨g', fr, none⟩ (.int .u8 (x.toNat : Int))) := KeepsOthers.from ⟨k6.size, fun k o hk ho => (k6.block k (Array.getElem?_eq_some_iff.1 hk).1 (fun hb => by rw [hcell k o hk hb] at ho; cases ho)).trans hk⟩ _
        have hKp := k6.block (s + 1) b8 hns1
        clear o1 o2 k6
        refine round_held (S := (fun w' => Boxed w' d 58 (.slice (some ⟨g', 0, none⟩) (m + 1) cap) ∧ Boxed w' s 3 (.int .i64 (fr : Int)))) (by kernel_rfl) (fun ⟨_, _, h⟩ => h) (by kernel_rfl) ⟨b4, b5⟩ (fun hHeld => ?_)
        refine wpAnyH_take (i := 0) (v := ?_) rfl (by kernel_rfl) (by kernel_rfl) (by kernel_rfl) (fun _ _ _ h => h) (Or.inl ⟨by kernel_rfl, ?_⟩) (by assumption) ?_
        rotate_left
        · intro wx hSx
          obtain ⟨hs1, hs2⟩ := hSx
          have hx0 := hs1.cell
          have hx1 := hs2.cell
          go_simp
          try with_reducible rfl
        try simp only [Act.put]
        try simp only [List.setIfInBounds_toArray]
        try simp only [List.set_cons_succ]
        try simp only [List.set_cons_zero]
        refine wpAnyH_take (i := 1) (v := ?_) rfl (by kernel_rfl) (by kernel_rfl) (by kernel_rfl) (fun _ _ _ h => h) (Or.inl ⟨by kernel_rfl, ?_⟩) (by assumption) ?_
        rotate_left
        · intro wx hSx
          obtain ⟨hs1, hs2⟩ := hSx
          have hx0 := hs1.cell
          have hx1 := hs2.cell
          go_simp
          try with_reducible rfl
        try simp only [Act.put]
        try simp only [List.setIfInBounds_toArray]
        try simp only [List.set_cons_succ]
        try simp only [List.set_cons_zero]
        refine wpAnyH_take (i := 2) (v := ?_) rfl (by kernel_rfl) (by kernel_rfl) (by kernel_rfl) (fun _ _ _ h => h) (Or.inl ⟨by kernel_rfl, ?_⟩) (by assumption) ?_
        rotate_left
        · intro wx hSx
          obtain ⟨hs1, hs2⟩ := hSx
          go_simp
          try with_reducible rfl
        try simp only [Act.put]
        try simp only [List.setIfInBounds_toArray]
        try simp only [List.set_cons_succ]
        try simp only [List.set_cons_zero]
        refine wpAnyH_take (i := 3) (v := ?_) rfl (by kernel_rfl) (by kernel_rfl) (by kernel_rfl) (fun _ _ _ h => h) (Or.inl ⟨by kernel_rfl, ?_⟩) (by assumption) ?_
        rotate_left
        · intro wx hSx
          obtain ⟨hs1, hs2⟩ := hSx
          go_simp
          try with_reducible rfl
        try simp only [Act.put]
        try simp only [List.setIfInBounds_toArray]
        try simp only [List.set_cons_succ]
        try simp only [List.set_cons_zero]
        refine wpAnyH_take (i := 4) (v := ?_) rfl (by kernel_rfl) (by kernel_rfl) (by kernel_rfl) (fun _ _ _ h => h) (Or.inl ⟨by kernel_rfl, ?_⟩) (by assumption) ?_
        rotate_left
        · intro wx hSx
          obtain ⟨hs1, hs2⟩ := hSx
          have hx0 := hs1.cell
          have hx1 := hs2.cell
          go_simp
          try with_reducible rfl
        try simp only [Act.put]
        try simp only [List.setIfInBounds_toArray]
        try simp only [List.set_cons_succ]
        try simp only [List.set_cons_zero]
        refine wpAnyH_take (i := 5) (v := ?_) rfl (by kernel_rfl) (by kernel_rfl) (by kernel_rfl) (fun _ _ _ h => h) (Or.inl ⟨by kernel_rfl, ?_⟩) (by assumption) ?_
        rotate_left
        · intro wx hSx
          obtain ⟨hs1, hs2⟩ := hSx
          have hx0 := hs1.cell
          have hx1 := hs2.cell
          go_simp
          try with_reducible rfl
        try simp only [Act.put]
        try simp only [List.setIfInBounds_toArray]
        try simp only [List.set_cons_succ]
        try simp only [List.set_cons_zero]
        refine wpAnyH_take (i := 6) (v := ?_) rfl (by kernel_rfl) (by kernel_rfl) (by kernel_rfl) (fun _ _ _ h => h) (Or.inl ⟨by kernel_rfl, ?_⟩) (by assumption) ?_
        rotate_left
        · intro wx hSx
          obtain ⟨hs1, hs2⟩ := hSx
          go_simp
          try with_reducible rfl
        try simp only [Act.put]
        try simp only [List.setIfInBounds_toArray]
        try simp only [List.set_cons_succ]
        try simp only [List.set_cons_zero]
        refine wpAnyH_ready (rs := [7]) (by kernel_rfl) (by simp) ?_
        refine AllReadyH.cons rfl (fun K hK => ?_) AllReadyH.nil
        go_simp
        refine hK.out _ _ ⟨hz1, hz2⟩ (fun hHeld => ?_)
        clear hK K
        try simp only [Act.put]
        try simp only [List.setIfInBounds_toArray]
        try simp only [List.set_cons_succ]
        try simp only [List.set_cons_zero]
        refine wpAnyH_done (by kernel_rfl) ?_ _
        gi_wp2
        exact ⟨hKf, hKp, hG⟩
      · obtain ⟨q, W5, hr0, hown5, hg5⟩ := hsh (some ⟨g', fr + 1, none⟩) (cap - (fr + 1)) (cap - fr) (fun _ => rfl)
        have hcap2 : ¬ cap = fr := by omega
        have hr : (Builtin.copy_ #[58, 58] 3 #[.slice (some ⟨g', fr + 1, none⟩) (m - fr) (cap - (fr + 1)), .slice (some ⟨g', fr, none⟩) (m + 1 - fr) (cap - fr)]).run Tryd.prog W4.drew = .ok (goInt p) W5 := by
          rw [show m + 1 - fr = p + 1 by omega, show m - fr = p by omega]
          exact hr0
        clear hsh hr0 hown4
        have b4' : Boxed W4.drew d 58 (.slice (some ⟨g', 0, none⟩) (m + 1) cap) := b4
        have b5' : Boxed W4.drew s 3 (.int .i64 (fr : Int)) := b5
        have hz1 := b4'.kept hg5 (fun e => by injection e with e; omega)
        have hz2 := b5'.kept hg5 (fun e => by injection e with e; exact hgs.1 e.symm)
        have hc5 := hown5.cellAt fr (by omega)
        have hf5 := hown5.frozenAt fr
        rw [List.getElem?_append_right (by rw [cellsB_length, hfr]; exact Nat.le_refl _), cellsB_length, hfr, Nat.sub_self, List.getElem?_cons_zero] at hc5
        have cz1 := hz1.cell
        have cz2 := hz2.cell
        obtain ⟨o1, o2⟩ := hown5.stored fr (.int .u8 (x.toNat : Int))
        rw [HSET.out] at o1
        have k6 := (k4.drew.trans (KeptBut.of_grown hg5 (fun k e => by injection e with e; rw [← e]; exact hbg))).trans (KeptBut.of_grown o2 (fun k e => by injection e with e; rw [← e]; exact hbg))
        have hG : GrI d s ds w X (pre ++ [x]) (W5.setCell ⟨g', fr, none⟩ (.int .u8 (x.toNat : Int))) :=
          ⟨.slice (some ⟨g', 0, none⟩) (m + 1) cap, hz1.kept o2 (fun e => by injection e with e; omega), by rw [HLEN.out]; exact o1, by rw [HFR.out]; exact hz2.kept o2 (fun e => by injection e with e; exact hgs.1 e.symm), fun e => by injection e with e; exact hgs.1 e, fun e => by injection e with e; exact hgs.2 e,
            b6.trans ⟨k6.os, k6.tape, k6.output, k6.size, fun k hk => k6.block k (by omega) (hnot k hk)⟩, b7.kept (fun r a b c => (k6.block r (by omega) (fun hb => by have := hcell r _ c hb; cases this)).trans c), Nat.lt_of_lt_of_le b8 k6.size⟩
        have hKf : KeepsFrom W5c.heap.size Wb (W5.setCell ⟨g', fr, none⟩ (.int .u8 (x.toNat : Int))) := KeepsOthers.from ⟨k6.size, fun k o hk ho => (k6.block k (Array.getElem?_eq_some_iff.1 hk).1 (fun hb => by rw [hcell k o hk hb] at ho; cases ho)).trans hk⟩ _
        have hKp := k6.block (s + 1) b8 hns1
        clear o1 o2 k6
        refine round_held (S := (fun w' => Boxed w' d 58 (.slice (some ⟨g', 0, none⟩) (m + 1) cap) ∧ Boxed w' s 3 (.int .i64 (fr : Int)))) (by kernel_rfl) (fun ⟨_, _, h⟩ => h) (by kernel_rfl) ⟨b4, b5⟩ (fun hHeld => ?_)
        refine wpAnyH_take (i := 0) (v := ?_) rfl (by kernel_rfl) (by kernel_rfl) (by kernel_rfl) (fun _ _ _ h => h) (Or.inl ⟨by kernel_rfl, ?_⟩) (by assumption) ?_
        rotate_left
        · intro wx hSx
          obtain ⟨hs1, hs2⟩ := hSx
          have hx0 := hs1.cell
          have hx1 := hs2.cell
          go_simp
          try with_reducible rfl
        try simp only [Act.put]
        try simp only [List.setIfInBounds_toArray]
        try simp only [List.set_cons_succ]
        try simp only [List.set_cons_zero]
        refine wpAnyH_take (i := 1) (v := ?_) rfl (by kernel_rfl) (by kernel_rfl) (by kernel_rfl) (fun _ _ _ h => h) (Or.inl ⟨by kernel_rfl, ?_⟩) (by assumption) ?_
        rotate_left
        · intro wx hSx
          obtain ⟨hs1, hs2⟩ := hSx
          have hx0 := hs1.cell
          have hx1 := hs2.cell
          go_simp
          try with_reducible rfl
        try simp only [Act.put]
        try simp only [List.setIfInBounds_toArray]
        try simp only [List.set_cons_succ]
        try simp only [List.set_cons_zero]
        refine wpAnyH_take (i := 2) (v := ?_) rfl (by kernel_rfl) (by kernel_rfl) (by kernel_rfl) (fun _ _ _ h => h) (Or.inl ⟨by kernel_rfl, ?_⟩) (by assumption) ?_
        rotate_left
        · intro wx hSx
          obtain ⟨hs1, hs2⟩ := hSx
          go_simp
          try with_reducible rfl
        try simp only [Act.put]
        try simp only [List.setIfInBounds_toArray]
        try simp only [List.set_cons_succ]
        try simp only [List.set_cons_zero]
        refine wpAnyH_take (i := 3) (v := ?_) rfl (by kernel_rfl) (by kernel_rfl) (by kernel_rfl) (fun _ _ _ h => h) (Or.inl ⟨by kernel_rfl, ?_⟩) (by assumption) ?_
        rotate_left
        · intro wx hSx
          obtain ⟨hs1, hs2⟩ := hSx
          go_simp
          try with_reducible rfl
        try simp only [Act.put]
        try simp only [List.setIfInBounds_toArray]
        try simp only [List.set_cons_succ]
        try simp only [List.set_cons_zero]
        refine wpAnyH_take (i := 4) (v := ?_) rfl (by kernel_rfl) (by kernel_rfl) (by kernel_rfl) (fun _ _ _ h => h) (Or.inl ⟨by kernel_rfl, ?_⟩) (by assumption) ?_
        rotate_left
        · intro wx hSx
          obtain ⟨hs1, hs2⟩ := hSx
          have hx0 := hs1.cell
          have hx1 := hs2.cell
          go_simp
          try with_reducible rfl
        try simp only [Act.put]
        try simp only [List.setIfInBounds_toArray]
        try simp only [List.set_cons_succ]
        try simp only [List.set_cons_zero]
        refine wpAnyH_take (i := 5) (v := ?_) rfl (by kernel_rfl) (by kernel_rfl) (by kernel_rfl) (fun _ _ _ h => h) (Or.inl ⟨by kernel_rfl, ?_⟩) (by assumption) ?_
        rotate_left
        · intro wx hSx
          obtain ⟨hs1, hs2⟩ := hSx
          have hx0 := hs1.cell
          have hx1 := hs2.cell
          go_simp
          try with_reducible rfl
        try simp only [Act.put]
        try simp only [List.setIfInBounds_toArray]
        try simp only [List.set_cons_succ]
        try simp only [List.set_cons_zero]
        refine wpAnyH_take (i := 6) (v := ?_) rfl (by kernel_rfl) (by kernel_rfl) (by kernel_rfl) (fun _ _ _ h => h) (Or.inl ⟨by kernel_rfl, ?_⟩) (by assumption) ?_
        rotate_left
        · intro wx hSx
          obtain ⟨hs1, hs2⟩ := hSx
          go_simp
          try with_reducible rfl
        try simp only [Act.put]
        try simp only [List.setIfInBounds_toArray]
        try simp only [List.set_cons_succ]
        try simp only [List.set_cons_zero]
        refine wpAnyH_ready (rs := [7]) (by kernel_rfl) (by simp) ?_
        refine AllReadyH.cons rfl (fun K hK => ?_) AllReadyH.nil
        go_simp
        refine hK.out _ _ ⟨hz1, hz2⟩ (fun hHeld => ?_)
        clear hK K
        try simp only [Act.put]
        try simp only [List.setIfInBounds_toArray]
        try simp only [List.set_cons_succ]
        try simp only [List.set_cons_zero]
        refine wpAnyH_done (by kernel_rfl) ?_ _
        gi_wp2
        exact ⟨hKf, hKp, hG⟩
    case hdone =>
      rintro xs' W rfl ⟨V', b1, b2, b3, ne1, ne2, b6, b7, b8⟩ hD
      rw [grL_sdL, ← HT.out] at b2
      rw [hW5s] at hD ⊢
      have hWs : s + 2 < W.heap.size := (Array.getElem?_eq_some_iff.1 hD).1
      go_wp2_with fail
      refine ⟨⟨k + 1, V', { target := .collected (s + 2), args := #[] } :: ds, _, _, _, _, _, _, _, _, _, _, _, _, _, _, _, _, _, _, _, _, _, _, _, _, _, _, _, _, _, _, _, _, _, _, _, _, _, _, _, _, _, by omega, ⟨b1, b2, b6, HOK.out⟩, ⟨s + 2, rfl, by omega, hWs, hD, b7.mono (by omega)⟩, rfl⟩, ?_⟩
      simp [intOf]
      omega
  · obtain rfl : k = xs.length := by omega
    rw [List.take_length] at hown hok
    have HR := Lib.hid (allRes_ok hok)
    clear hok
    have hq1 : ¬ ((xs.length : Int) < (xs.length : Int)) := by omega
    have HL := Lib.hid hm
    clear hm
    rcases hown.2 with ⟨rfl, h0⟩ | ⟨g, cap, cur, rfl, hg1, hg2, hg3, hg4, hg5, hg6⟩
    · have hnil : (listL (xs.map Int.toNat)) = [] := List.eq_nil_of_length_eq_zero h0
      have HN := Lib.hid hnil
      clear hnil hown
      have hcv : (convert 58 9 (.slice none 0 0)).run Tryd.prog wr = .ok (.string ⟨#[]⟩) wr := by kernel_rfl
      go_wp2_with fail
      exact leaves_marks (v := .tuple #[.string ⟨#[]⟩, .nilIface]) (fun W => by simp [results, Tryd.results26]) (d + 1) ds _ wr HL.out (fun W' hb => ⟨by rw [HR.out, HN.out], by rw [HD.out]; exact hbe.trans (hb.mono (by omega))⟩)
    · have hcv : (convert 58 9 (.slice (some ⟨g, 0, none⟩) (listL (xs.map Int.toNat)).length (listL (xs.map Int.toNat)).length)).run Tryd.prog wr = .ok (.string ⟨(listL (xs.map Int.toNat)).toArray⟩) wr :=
        run_convert_bytes_back (P := Tryd.prog) wr 58 9 5 ⟨g, 0, none⟩ _ (listL (xs.map Int.toNat)) Tryd.underlying58 Tryd.underlying5 Tryd.underlying9 (fun j hj => by
          have := hown.cellAt j (by omega)
          rw [show (⟨g, 0, none⟩ : Addr).add j = ⟨g, j, none⟩ by unfold Addr.add; split <;> simp_all]
          simpa [cellsB, hj] using this)
      generalize hLL : listL (xs.map Int.toNat) = LL at *
      have HLL := Lib.hid hLL
      clear hLL hown hg6
      go_wp2_with fail
      exact leaves_marks (v := .tuple #[.string ⟨LL.toArray⟩, .nilIface]) (fun W => by simp [results, Tryd.results26]) (d + 1) ds _ wr HL.out (fun W' hb => ⟨by rw [HR.out], by rw [HD.out]; exact hbe.trans (hb.mono (by omega))⟩)

end Go.Proofs.YtcahfdhfdigjaaaDoor
