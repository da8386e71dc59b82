/-
  A queue's bytes laid over its disk's sectors, in memory (laid), and more of the kind. Conditions: as the theorems' own hypotheses say.
-/
import Derived.Test.YtmebjdbkngehiaaGreatDoorQhG
import Derived.Lib.LazyBuf
import Derived.Lib.SlBuf
import Derived.Laws.IdiomCopy
import Derived.Laws.IdiomStrings
namespace Go.Proofs.YtmebjdbkngehiaaGreatDoor
open Go.RowKit Go.Shelf
set_option maxHeartbeats 4000000
variable {w w' : World} {b ab : Nat} {l : List UInt8}
structure BRow (w : World) (ab : Nat) (l : List UInt8) : Prop where
 lt : ab < w.heap.size
 cell : ∀ j (h : j < l.length), w.cell? ⟨ab, j, none⟩ = some (cellB l[j]) ∧ w.frozen? ⟨ab, j, none⟩ = false
theorem froz_of_block {i : Nat} (h : w'.heap[b]? = w.heap[b]?) : w'.frozen? ⟨b, i, none⟩ = w.frozen? ⟨b, i, none⟩ := by
 unfold World.frozen?
 rw [h]
theorem BRow.kept (h : BRow w ab l) (hb : w'.heap[ab]? = w.heap[ab]?) (hs : w.heap.size ≤ w'.heap.size) : BRow w' ab l :=
 ⟨Nat.lt_of_lt_of_le h.lt hs, fun j hj => ⟨(World.cell?_of_block hb).trans (h.cell j hj).1, (froz_of_block hb).trans (h.cell j hj).2⟩⟩
theorem BRow.below (h : BRow w ab l) (hb : Below w.heap.size w w') : BRow w' ab l := h.kept (hb.block ab h.lt) hb.size
theorem BRow.set (h : BRow w ab l) (o : Nat) (x : UInt8) : BRow (w.setCell ⟨ab, o, none⟩ (cellB x)) ab (l.set o x) := by
 refine ⟨by rw [World.size_setCell]; exact h.lt, fun j hj => ?_⟩
 rw [List.length_set] at hj
 obtain ⟨h1, h2⟩ := h.cell j hj
 refine ⟨?_, by rw [← h2]; exact World.frozen?_setCells ab [cellB x] o w _⟩
 rw [List.getElem_set]
 by_cases e : o = j
 ·subst e
  rw [if_pos rfl]
  have := World.cell?_setCells_in ab [cellB x] o w (fun k hk => by
   obtain rfl : k = 0 := by simpa using hk
   rw [Nat.add_zero, h1]; rfl) 0 (by simp)
  exact this
 ·rw [if_neg e]
  have := World.cell?_setCells_out ab [cellB x] o w ⟨ab, j, none⟩ (fun _ _ => by simp; omega)
  exact this.trans h1
theorem setCells_size2 (b : Nat) : ∀ (vs : List Value) (o : Nat) (w : World), (w.setCells b o vs).heap.size = w.heap.size
 | [], _, _ => rfl
 | v :: r, o, w => by rw [World.setCells, setCells_size2 b r]; simp
theorem below_set_many {B : Nat} {a : World} (hb : B ≤ b) : ∀ (vs : List Value) (o : Nat) (w : World), Below B a w → Below B a (w.setCells b o vs)
 | [], _, _, h => h
 | v :: r, o, w, h => below_set_many hb r (o + 1) _ (h.setCell (by exact hb) v)
theorem BRow.put (h : BRow w ab l) (o : Nat) (s : List UInt8) (ho : o + s.length ≤ l.length) : BRow (w.setCells ab o (cellsB s)) ab (putAt l o s) := by
 have hsz : (w.setCells ab o (cellsB s)).heap.size = w.heap.size := setCells_size2 _ _ _ _
 refine ⟨by rw [hsz]; exact h.lt, fun j hj => ?_⟩
 rw [putAt_length ho] at hj
 obtain ⟨h1, h2⟩ := h.cell j hj
 refine ⟨?_, by rw [← h2]; exact World.frozen?_setCells ab _ o w _⟩
 have hg := putAt_get ho j
 by_cases e : o ≤ j ∧ j < o + s.length
 ·rw [if_pos e, List.getElem?_eq_getElem (by rw [putAt_length ho]; exact hj), List.getElem?_eq_getElem (by omega)] at hg
  injection hg with hg
  rw [hg]
  have := World.cell?_setCells_in ab (cellsB s) o w (fun k hk => by
   rw [cellsB_length] at hk
   rw [(h.cell (o + k) (by omega)).1]; rfl) (j - o) (by rw [cellsB_length]; omega)
  rw [show o + (j - o) = j by omega] at this
  rw [this]
  simp [cellsB]
 ·rw [if_neg e, List.getElem?_eq_getElem (by rw [putAt_length ho]; exact hj), List.getElem?_eq_getElem hj] at hg
  injection hg with hg
  rw [hg]
  have := World.cell?_setCells_out ab (cellsB s) o w ⟨ab, j, none⟩ (fun _ _ => by rw [cellsB_length]; simp; omega)
  exact this.trans h1
theorem brow_new (w : World) (s : ByteArray) (cap : Nat) : BRow (w.alloc (.cells (bytesRow s cap) 5 ((bytesRow s cap).size, (bytesRow s cap).size + 1))) w.heap.size s.data.toList := by
 have hh := World.alloc_heap_new w (.cells (bytesRow s cap) 5 ((bytesRow s cap).size, (bytesRow s cap).size + 1))
 refine ⟨by rw [World.size_alloc]; omega, fun j hj => ?_⟩
 have hj2 : j < s.data.size := by simpa using hj
 refine ⟨?_, ?_⟩
 ·rw [cell_of_row _ _ j _ _ _ hh, bytesRow, Array.getElem?_append_left (by simpa using hj2), Array.getElem?_map, Array.getElem?_eq_getElem hj2]
  simp [cellB]
 ·unfold World.frozen?
  rw [hh]
  have : j < (bytesRow s cap).size := by rw [bytesRow, Array.size_append, Array.size_map]; omega
  simp
  omega
structure ChunksAt (w : World) (base : Nat) (V : Value) (ab : Nat) (ss : List (List UInt8)) : Prop where
 own : w.ownsRow (ab + 1) 36 1 V ss.length ((List.range ss.length).map (chunkV ab))
 row : BRow w ab ss.flatten
 base : base ≤ ab
 sec : ∀ s ∈ ss, s.length = 64
theorem ChunksAt.secs {F : Nat → Prop} {base : Nat} {V : Value} {ss : List (List UInt8)} (h : ChunksAt w base V ab ss) (hF : ∀ k, F k → k < base) : ∃ A c, V = .slice A ss.length c ∧ SecsAt F w A ss := by
 obtain ⟨A, c, e, hr⟩ := row_own h.own
 refine ⟨A, c, e, fun h0 => ?_⟩
 obtain ⟨a, ha, hlt, hc⟩ := hr (by simpa using h0)
 subst ha
 have hba : base ≤ a := by have := (h.own.lt a (by rw [e]; rfl)).1; have := h.base; omega
 refine ⟨a, rfl, hlt, fun q => by have := hF a q; omega, fun i hi => ?_⟩
 have h64 := h.sec _ (List.getElem_mem hi)
 have hci := hc i (by simpa using hi)
 simp only [List.getElem_map, List.getElem_range] at hci
 refine ⟨ab, i * 64, 64, by rw [hci, h64]; rfl, h.row.lt, fun q => by have := hF ab q; have := h.base; omega, fun j hj => ?_⟩
 have hf := flat_at h.sec (List.getElem?_eq_getElem hi) j hj
 obtain ⟨hlt2, hf2⟩ := List.getElem?_eq_some_iff.1 hf
 rw [(h.row.cell _ hlt2).1, hf2]
theorem ext_drop (l : List UInt8) (i n : Nat) : (⟨l.toArray⟩ : ByteArray).extract i (i + n) = ⟨((l.drop i).take n).toArray⟩ := by
 apply ByteArray.ext
 rw [ByteArray.data_extract]
 show l.toArray.extract i (i + n) = ((l.drop i).take n).toArray
 rw [List.extract_toArray, List.extract_eq_take_drop, Nat.add_sub_cancel_left]
theorem list_size2 (l : List UInt8) : (⟨l.toArray⟩ : ByteArray).size = l.length := by show l.toArray.size = _; simp
theorem bytes_up {d : DN} (hd : d.down = false) (hf : d.Fit) {a n : Nat} (h : a + n ≤ 64 * d.L.length) : d.bytes (a : Int) (n : Int) = (⟨((d.L.flatten.drop a).take n).toArray⟩, 0) := by
 have hl := flat_length hf.sec
 rw [DN.bytes, if_neg (by rw [hd]; decide), cutV_ok (okWithin_iff.2 (by rw [list_size2]; omega))]
 rw [show ((a : Int)).toNat = a by omega, show ((a : Int) + (n : Int)).toNat = a + n by omega, ext_drop]
set_option maxRecDepth 100000 in
theorem laid_any {c : QC} {v : QV} {p g : Nat} {q : QN} {aA aT aN aW aS : Addr} (a : Nat) (s : ByteArray) (h : QAt w c v p g q) (hI : GInv w aA aT aN aW aS) (hd : q.d.down = false) (hs : 0 < s.size) (ha : a + s.size ≤ 64 * q.d.L.length) :
  Calls Tryz.prog 137 #[.pointer (some ⟨c.b, 0, none⟩), .int .i64 (a : Int), .string s] w fun e w' => ∃ V ab, e = .returned (.tuple #[.int .i64 (firstN a : Int), V]) ∧ ChunksAt w' w.heap.size V ab (secsN q.d.L.flatten a s.data.toList) ∧ Below w.heap.size w w' := by
 have hL := h.disk.len
 have hcount : firstN a + countN a s.size ≤ q.d.L.length := by unfold firstN countN; omega
 have hB := DBytes_any ((64 * firstN a : Nat) : Int) ((64 * countN a s.size : Nat) : Int) aN aW aS h.disk hI.d h.pos (by omega) (by omega)
 rw [bytes_up hd h.disk.fit (by omega)] at hB
 have x5 := h.blk.c7.1.2.2.2.2.2.1
 have e1 : (a : Int) / 64 = (firstN a : Int) := by unfold firstN; omega
 have e2 : ((a : Int) + (s.size : Int) - 1) / 64 - (firstN a : Int) + 1 = (countN a s.size : Int) := by unfold firstN countN; omega
 go_enter Tryz.func137, Tryz.ntmps137
 have e3 : (a : Int) - (firstN a : Int) * 64 = ((a - 64 * firstN a : Nat) : Int) := by unfold firstN; omega
 have hOL : ((q.d.L.flatten.drop (64 * firstN a)).take (64 * countN a s.size)).length = 64 * countN a s.size := by
  have hl := flat_length h.disk.fit.sec
  rw [List.length_take, List.length_drop]; omega
 rw [show ((64 * firstN a : Nat) : Int) = (firstN a : Int) * 64 by omega, show ((64 * countN a s.size : Nat) : Int) = (countN a s.size : Int) * 64 by omega] at hB
 go_wp2_with fail
 refine hB.mono ?_
 rintro e w1 ⟨rfl, hb1⟩
 have HOL := Lib.hid hOL
 clear hOL
 obtain ⟨ol, hol⟩ : ∃ ol, (q.d.L.flatten.drop (64 * firstN a)).take (64 * countN a s.size) = ol := ⟨_, rfl⟩
 rw [hol] at HOL ⊢
 have HO2 := Lib.hid hol
 have hcv := run_bytes_of_string (P := Tryz.prog) w1 9 36 5 ⟨ol.toArray⟩ Tryz.underlying9 Tryz.underlying36 Tryz.underlying5
 have hrow := brow_new w1.drew ⟨ol.toArray⟩ (grownCap w1 (⟨ol.toArray⟩ : ByteArray).size 0 5)
 have hb2 := ext_alloc hb1.drew (.cells (bytesRow ⟨ol.toArray⟩ (grownCap w1 (⟨ol.toArray⟩ : ByteArray).size 0 5)) 5 ((bytesRow ⟨ol.toArray⟩ (grownCap w1 (⟨ol.toArray⟩ : ByteArray).size 0 5)).size, (bytesRow ⟨ol.toArray⟩ (grownCap w1 (⟨ol.toArray⟩ : ByteArray).size 0 5)).size + 1))
 have hcap := grownCap_ge w1 (⟨ol.toArray⟩ : ByteArray).size 0 5
 have hcap2 := grownCap_le_maxLen w1 (⟨ol.toArray⟩ : ByteArray).size 0 5 (by rw [list_size2, HOL.out]; unfold maxLen; omega)
 have hw1 := hb1.size
 change BRow _ w1.heap.size _ at hrow
 rw [list_size2, HOL.out] at hcv hrow hb2 hcap hcap2
 generalize grownCap w1 (64 * countN a s.size) 0 5 = cap at *
 generalize w1.drew.alloc (.cells (bytesRow ⟨ol.toArray⟩ cap) 5 ((bytesRow ⟨ol.toArray⟩ cap).size, (bytesRow ⟨ol.toArray⟩ cap).size + 1)) = W1 at *
 obtain ⟨ab, hab⟩ : ∃ ab, w1.heap.size = ab := ⟨_, rfl⟩
 rw [hab] at hcv hrow hw1
 obtain ⟨f, hf⟩ : ∃ f, firstN a = f := ⟨_, rfl⟩
 obtain ⟨n, hn⟩ : ∃ n, countN a s.size = n := ⟨_, rfl⟩
 obtain ⟨o, ho⟩ : ∃ o, a - 64 * firstN a = o := ⟨_, rfl⟩
 have hos : o + s.size ≤ 64 * n := by rw [← ho, ← hn]; unfold firstN countN; omega
 rw [ho] at e3
 rw [hf] at e1 e2 e3 hcount ⊢
 rw [hn] at e2 hcv hcount hcap ⊢
 have i0 : (0 : Int) ≤ (o : Int) := by omega
 have i1 : (o : Int) ≤ ((64 * n : Nat) : Int) := by omega
 have hsl : s.data.toList.length = s.size := list_size s
 have hr := run_copy_string (P := Tryz.prog) W1 36 9 3 5 ab o (64 * n - o) (cap - o) s Tryz.underlying36 (fun w => by kernel_rfl) (by omega)
  (fun j hj => by rw [(hrow.cell (o + j) (by rw [HOL.out, hn]; omega)).1]; rfl) (fun j hj => (hrow.cell (o + j) (by rw [HOL.out, hn]; omega)).2)
 have hrow2 := hrow.put o s.data.toList (by rw [HOL.out, hn, hsl]; exact hos)
 have hb3 := below_set_many hw1 (cellsB s.data.toList) o W1 hb2
 change (Builtin.copy_ #[36, 9] 3 #[.slice (some ⟨ab, o, none⟩) (64 * n - o) (cap - o), .string s]).run Tryz.prog W1 = .ok (goInt s.size) (W1.setCells ab o (cellsB s.data.toList)) at hr
 generalize W1.setCells ab o (cellsB s.data.toList) = W2 at *
 clear hb1 hab hol hB x5 hrow hb2
 have hss : (secsN q.d.L.flatten a s.data.toList).length = n ∧ (secsN q.d.L.flatten a s.data.toList).flatten = putAt ol o s.data.toList ∧ ∀ t ∈ secsN q.d.L.flatten a s.data.toList, t.length = 64 := by
  have hpl : (putAt ol o s.data.toList).length = 64 * countN a s.size := by rw [putAt_length (by rw [HOL.out, hn, hsl]; exact hos), HOL.out]
  have e : secsN q.d.L.flatten a s.data.toList = chunkN (countN a s.size) (putAt ol o s.data.toList) := by rw [secsN, hsl, HO2.out, ho]
  rw [e]
  exact ⟨by rw [chunkN_length, hn], chunkN_flat _ _ hpl, chunkN_sec _ _ hpl⟩
 have HSS := Lib.hid hss
 have HR2 := Lib.hid hrow2
 clear hss hrow2
 have hcm : 64 * n = n * 64 := Nat.mul_comm ..
 rw [hcm] at hr hcap hcv i1
 go_wp2_with (at_builtin; refine Lib.wpList_copy_run _ rfl _ _ _ _ rfl _ _ rfl rfl hr ?_)
 refine (chunk_any ab (n * 64) cap W2).mono ?_
 rintro e w3 ⟨rfl, hw3⟩
 have p1 : Blk w3 W2.heap.size 36 #[.slice (some ⟨ab, 0, none⟩) (n * 64) cap] := by rw [← hw3]; exact (Blk.new_ W2 _ _).alloc _
 have p2 : Blk w3 (W2.heap.size + 1) 3 #[.int .i64 64] := by rw [← hw3]; exact Blk.at_ (by simp)
 have p3 : Below W2.heap.size W2 w3 := by rw [← hw3]; exact ext_alloc (ext_new W2 _) _
 clear hw3 hr
 go_wp2_with fail
 refine (collect_any ab n cap W2.heap.size (W2.heap.size + 1) (by omega) hcap w3 p1 p2).mono ?_
 rintro e w4 ⟨V, rfl, hown, hb4⟩
 have p4 := p3.trans (hb4.mono p3.size)
 go_wp2_with fail
 go_ret2
 have hlt := HR2.out.lt
 refine ⟨V, ab, by rw [hf]; rfl, ⟨?_, ?_, hw1, HSS.out.2.2⟩, hb3.trans (p4.mono hb3.size)⟩
 ·rw [HSS.out.1]; exact own_base hown (by have := p3.size; omega)
 ·rw [HSS.out.2.1]; exact HR2.out.below p4
end Go.Proofs.YtmebjdbkngehiaaGreatDoor
namespace Go.Proofs.YtmebjdbkngehiaaGreatDoor
open Go.RowKit
set_option maxHeartbeats 4000000
variable {w w' : World} {n base ab p g : Nat} {v : QV} {F : Nat → Prop} {V : Value} {ss l : List (List UInt8)} {s : List UInt8} {c : QC} {A : Option Addr} {q : QN}
theorem quiet_pure {f : FuncId} {args : Array Value} {v : Value} (h : Calls Tryz.prog f args (w.drewN n) (Pure v (w.drewN n))) : Calls Tryz.prog f args (w.drewN n) fun e w'' => e = .returned v ∧ ∃ m, w'' = w.drewN m :=
 h.mono fun _ _ ⟨he, hm⟩ => ⟨he, n, hm.symm⟩
theorem ChunksAt.foot (h : ChunksAt w base V ab ss) (hF : ∀ k, F k → k < base) (hf : Foot F w w') : ChunksAt w' base V ab ss :=
 ⟨own_keep h.own fun k hk => hf.block k (own_lt h.own hk) (fun q => by have := hF k q; have := (h.own.lt k hk.symm).1; have := h.base; omega), h.row.kept (hf.block ab h.row.lt (fun q => by have := hF ab q; have := h.base; omega)) hf.size, h.base, h.sec⟩
theorem ChunksAt.set {ss' : List (List UInt8)} (h : ChunksAt w base V ab ss) (o : Nat) (x : UInt8) (hl : ss'.length = ss.length) (hfl : ss'.flatten = ss.flatten.set o x) (h64 : ∀ s ∈ ss', s.length = 64) : ChunksAt (w.setCell ⟨ab, o, none⟩ (cellB x)) base V ab ss' :=
 ⟨by rw [hl]; exact own_set h.own (fun e => by have := (h.own.lt ab e.symm).1; omega) o _, by rw [hfl]; exact h.row.set o x, h.base, h64⟩
theorem zero_flatten (o : Nat) (s : List UInt8) (l : List (List UInt8)) (ho : o < s.length) : (zeroAt o (s :: l)).flatten = ((s :: l).flatten).set o 0 := by
 show (s.set o 0 :: l).flatten = _
 rw [List.flatten_cons, List.flatten_cons, List.set_append_left _ _ ho]
theorem zero_back (o : Nat) (s : List UInt8) (l : List (List UInt8)) (ho : o < s.length) (h : o < (s :: l).flatten.length) : (s :: l).flatten = ((zeroAt o (s :: l)).flatten).set o ((s :: l).flatten[o]) := by
 rw [zero_flatten o s l ho, List.set_set, List.set_getElem_self]
theorem ChunksAt.head (h : ChunksAt w base V ab (s :: l)) :
  ∃ g c, V = .slice (some ⟨g, 0, none⟩) (l.length + 1) c ∧ w.cell? ⟨g, 0, none⟩ = some (.slice (some ⟨ab, 0, none⟩) 64 64) ∧ ab < g ∧ g < w.heap.size := by
 obtain ⟨A, c, e, hr⟩ := row_own h.own
 obtain ⟨a, ha, hlt, hc⟩ := hr (by simp)
 subst ha
 have hci := hc 0 (by simp)
 simp only [List.getElem_map, List.getElem_range, chunkV, Nat.zero_mul] at hci
 exact ⟨a, c, e, hci, by have := (h.own.lt a (by rw [e]; rfl)).1; omega, hlt⟩
theorem ChunksAt.head' {c : Nat} (h : ChunksAt w base (.slice A n c) ab (s :: l)) : ∃ g, A = some ⟨g, 0, none⟩ ∧ n = l.length + 1 ∧ w.cell? ⟨g, 0, none⟩ = some (.slice (some ⟨ab, 0, none⟩) 64 64) ∧ ab < g ∧ g < w.heap.size := by
 obtain ⟨g, c2, e, h1, h2, h3⟩ := h.head
 injection e with e1 e2 _
 exact ⟨g, e1, e2, h1, h2, h3⟩
theorem ChunksAt.secs' {c : Nat} (h : ChunksAt w base (.slice A n c) ab ss) (hF : ∀ k, F k → k < base) : SecsAt F w A ss := by
 obtain ⟨A2, c2, e, hs⟩ := h.secs hF
 injection e with e1 _ _
 rw [e1]; exact hs
theorem secs_one (h : ChunksAt w base V ab (s :: l)) (hF : ∀ k, F k → k < base) :
  SecsAt F (w.alloc (.cells #[.slice (some ⟨ab, 0, none⟩) 64 64] 36)) (some ⟨w.heap.size, 0, none⟩) [s] := by
 intro _
 have h64 := h.sec s (by simp)
 have hbs := h.base
 have hlt := h.row.lt
 refine ⟨w.heap.size, rfl, by simp, fun q => by have := hF _ q; omega, fun i hi => ?_⟩
 obtain rfl : i = 0 := by simpa using hi
 refine ⟨ab, 0, 64, by rw [(Blk.new_ w 36 #[.slice (some ⟨ab, 0, none⟩) 64 64]).cell 0]; simp [h64], by simp; omega, fun q => by have := hF _ q; omega, fun j hj => ?_⟩
 have hj' : j < (s :: l).flatten.length := by
  rw [List.flatten_cons, List.length_append]
  have : j < s.length := hj
  omega
 have := (h.row.cell j hj').1
 rw [Nat.zero_add, World.cell?_of_block (Below.heap_alloc w _ ab hlt), this]
 congr 2
 simp only [List.flatten_cons]
 rw [List.getElem_append_left (by exact hj)]
 rfl
theorem QAt.keptF (h : QAt w c v p g q) (hb : ∀ k, QF2 c v p g k → w'.heap[k]? = w.heap[k]?) : QAt w' c v p g q :=
 ⟨h.st.kept fun k hk => hb k (.inl hk), h.cells, ⟨h.disk.disk.kept (hb p (.inr (.inl rfl))), h.disk.secs.kept (hb g (.inr (.inr rfl))), h.disk.ne, h.disk.fit, h.disk.len, h.disk.left, h.disk.n⟩, h.pos⟩
theorem QAt.lt (h : QAt w c v p g q) {k : Nat} (hk : QF2 c v p g k) : k < w.heap.size := by
 rcases hk with hk | rfl | rfl
 ·exact h.st.lt hk
 ·exact h.disk.disk.lt
 ·exact h.disk.secs.lt
theorem QKept.trans' {w1 w2 : World} {c1 : QC} {q2 : QN} (h : QKept w1 c1 v p g q2 w2) (hb : c1.b = c.b) (F1 : Foot (QF2 c v p g) w w1) : QKept w c v p g q2 w2 := QKept.trans hb F1 h
set_option maxRecDepth 100000 in
theorem append_any {aA aT aN aW aS : Addr} (f : List UInt8) (h : QAt w c v p g q) (hG : Glb (QF2 c v p g) aA aT aN aW aS w) (hd : q.d.down = false) (hroom : beginN q.d.L.length q.other + q.tail + f.length + 1 ≤ 64 * q.d.L.length) (hn : q.d.n + q.d.L.length + 1 ≤ 1000000) :
  Calls Tryz.prog 101 #[.pointer (some ⟨c.b, 0, none⟩), .string ⟨f.toArray⟩] w fun e w' => e = .returned (.tuple #[]) ∧ QKept w c v p g (q.appW (beginN q.d.L.length q.other + q.tail) f) w' := by
 have hL := h.disk.len
 obtain ⟨a, ha⟩ : ∃ a, beginN q.d.L.length q.other + q.tail = a := ⟨_, rfl⟩
 have hBg := fun k => begin_any q.other (h.below (below_drewN' (Below.refl w.heap.size w) k))
 have HLA := Lib.hid (fun W (hb : Below w.heap.size w W) => laid_any a ⟨(f ++ [0]).toArray⟩ (h.below hb) (hG.here.below hb) hd (by show 0 < (f ++ [0]).toArray.size; simp) (by show a + (f ++ [0]).toArray.size ≤ _; rw [List.size_toArray, List.length_append, List.length_singleton]; omega))
 have hbt : (beginN q.d.L.length q.other : Int) + (q.tail : Int) = (a : Int) := by omega
 have x3 := h.blk.c7.1.2.2.2.1
 have x4 := h.blk.c7.1.2.2.2.2.1
 have hsz : (⟨f.toArray⟩ : ByteArray) ++ ⟨#[0]⟩ = ⟨(f ++ [0]).toArray⟩ := by
  apply ByteArray.ext
  rw [ByteArray.data_append]
  simp
 go_enter Tryz.func101, Tryz.ntmps101
 go_wp2_with fail
 go_quiet ((go_at_call 94; exact quiet_pure (hBg _)))
 have hb1 := below_drewN' (Below.refl w.heap.size w) nq
 obtain ⟨w1, hw1⟩ : ∃ w1, w.drewN nq = w1 := ⟨_, rfl⟩
 rw [hw1] at hb1 ⊢
 have hLA := HLA.out _ hb1
 have h1 := h.below hb1
 go_wp2_with fail
 refine hLA.mono ?_
 rintro e w2 ⟨V, ab, rfl, hC, hb2⟩
 have hb12 := ext_trans hb1 hb2
 obtain ⟨s0, l0, hss⟩ : ∃ s0 l0, secsN q.d.L.flatten a (f ++ [0]) = s0 :: l0 := by
  have := secs_len (L := q.d.L) a (f ++ [0])
  cases hq : secsN q.d.L.flatten a (f ++ [0]) with
  | nil => rw [hq] at this; unfold countN at this; simp at this
  | cons s0 l0 => exact ⟨s0, l0, rfl⟩
 have hcl : l0.length + 1 ≤ q.d.L.length := by
  have := secs_len (L := q.d.L) a (f ++ [0])
  rw [hss] at this
  unfold countN at this
  rw [List.length_append, List.length_singleton, List.length_cons] at this
  omega
 rw [hss] at hC
 obtain ⟨A, n, cp, rfl⟩ : ∃ A n cp, V = .slice A n cp := by
  obtain ⟨A, c, e⟩ := own_form hC.own
  exact ⟨_, _, _, e⟩
 obtain ⟨g0, rfl, rfl, k0, kab, kg⟩ := hC.head'
 have hF : ∀ k, QF2 c v p g k → k < w1.heap.size := fun k hk => by have := h.lt hk; have := hb1.size; omega
 obtain ⟨o, ho⟩ : ∃ o, a - 64 * firstN a = o := ⟨_, rfl⟩
 have ho64 : o < 64 := by rw [← ho]; unfold firstN; omega
 have e3 : (a : Int) - (firstN a : Int) * 64 = (o : Int) := by rw [← ho]; unfold firstN; omega
 have hs64 := hC.sec s0 (by simp)
 have hfl : o < (s0 :: l0).flatten.length := by rw [List.flatten_cons, List.length_append]; omega
 obtain ⟨r1, r2⟩ := hC.row.cell o hfl
 obtain ⟨x, hx⟩ : ∃ x, (s0 :: l0).flatten[o] = x := ⟨_, rfl⟩
 have hback := zero_back o s0 l0 (by omega) hfl
 rw [hx] at r1 hback
 have hC3 := hC.set o 0 (ss' := zeroAt o (s0 :: l0)) rfl (zero_flatten o s0 l0 (by omega)) (fun t ht => by
  rcases List.mem_cons.1 ht with rfl | ht
  ·rw [List.length_set]; exact hs64
  ·exact hC.sec t (by simp [ht]))
 have hb3 : Below w.heap.size w (w2.setCell ⟨ab, o, none⟩ (cellB 0)) := hb12.setCell (p := ⟨ab, o, none⟩) (by have := hC.base; have := hb1.size; exact Nat.le_trans hb1.size hC.base) _
 have hfN : firstN a ≤ 256 := by unfold firstN; omega
 have hfN' : firstN a ≤ 1000 := by omega
 have hW3 := qwrite_any (firstN a) (l0.length + 1) cp _ (zeroAt o (s0 :: l0)) (h.below hb3) (hG.foot (Foot.of_below hb3)) (hC3.secs' hF) rfl (by omega) (by omega) (by omega)
 have HSEC := Lib.hid hC.sec
 have HB := Lib.hid hC.base
 have i0 : (0 : Int) ≤ (o : Int) := by omega
 have i1 : (o : Int) < 64 := by omega
 unfold cellB at r1
 have i2 : (0 : Int) < ((l0.length : Int) + 1) := by omega
 have hz0 : cellB 0 = .int .u8 0 := rfl
 rw [hz0] at hC3 hb3 hW3
 have hlt3 : ab < w2.heap.size := hC.row.lt
 clear hb1 hb2 hb12 hLA h1 hC
 obtain ⟨w3, hw3⟩ : ∃ w3, w2.setCell ⟨ab, o, none⟩ (.int .u8 0) = w3 := ⟨_, rfl⟩
 rw [hw3] at hC3 hb3 hW3
 have hz3 : ab < w3.heap.size := hC3.row.lt
 go_wp2_with fail
 refine hW3.mono ?_
 rintro e w4 ⟨rfl, c4, hc4, hq4, hf4⟩
 have hC4 := hC3.foot hF hf4
 have hC5 := hC4.set o x (ss' := s0 :: l0) rfl hback HSEC.out
 have hq5 := hq4.keptF (w' := w4.setCell ⟨ab, o, none⟩ (cellB x)) fun k hk => Below.heap_setCell _ _ _ _ (fun e => by
  have e : k = ab := e
  have := hF k ((qf_b hc4 v p g k).1 hk)
  have := HB.out
  omega)
 have hb5 : Foot (QF2 c v p g) w (w4.setCell ⟨ab, o, none⟩ (cellB x)) := ((Foot.of_below hb3).trans hf4 fun k hk => .inl hk).set (.inr (by have := HB.out; rw [← hw1] at this; exact this)) o (cellB x)
 obtain ⟨x9, f4, y4⟩ : ∃ x9 : Int, w4.cell? ⟨ab, o, none⟩ = some (.int .u8 x9) ∧ w4.frozen? ⟨ab, o, none⟩ = false := by
  have hr4 := hC4.row.cell o (by
   have := hfl
   rw [hback, List.length_set] at this
   exact this)
  exact ⟨_, hr4.1, hr4.2⟩
 obtain ⟨g5, hg5, -, k5, -, -⟩ := ChunksAt.head' (s := s0.set o 0) (l := l0) hC4
 injection hg5 with hg5
 injection hg5 with hg5
 subst hg5
 have hS6 := secs_one hC5 hF
 rw [World.size_setCell] at hS6
 have hq6 := hq5.below (ext_new _ (.cells #[.slice (some ⟨ab, 0, none⟩) 64 64] 36))
 have hf6 := hb5.ext (ext_new _ (.cells #[.slice (some ⟨ab, 0, none⟩) 64 64] 36))
 have hln := (wrs_len (zeroAt o (s0 :: l0)) h.disk.fit (firstN a)).2.2.1
 have hW6 := qwrite_any (firstN a) 1 1 _ [s0] hq6 (hG.later hf6 fun k hk => .inl ((qf_b hc4 v p g k).1 hk)) (fun h0 => by
  obtain ⟨a', h1, h2, h3, h4⟩ := hS6 h0
  refine ⟨a', h1, h2, fun q => h3 ((qf_b hc4 v p g a').1 q), fun i hi => ?_⟩
  obtain ⟨b, o', cc, k1, k2, k3, k4⟩ := h4 i hi
  exact ⟨b, o', cc, k1, k2, fun q => k3 ((qf_b hc4 v p g b).1 q), k4⟩) rfl (by
   have : (zeroAt o (s0 :: l0)).length = l0.length + 1 := rfl
   omega) (by omega) hfN'
 unfold cellB at hW6 hf6
 rw [hc4] at hW6
 have kne : ¬ g0 = ab := by omega
 have kne2 : ¬ ab = g0 := by omega
 have HW6 := Lib.hid hW6
 have HF6 := Lib.hid hf6
 have HSS := Lib.hid hss
 have HO := Lib.hid ho
 have HA := Lib.hid ha
 clear hC4 hC5 hq5 hb5 hq6 hq4 hS6 hback hfl hx hss hs64 hW6 hf6 hF hG h hC3 hf4 hb3 hln hroom ho hsz hcl hw3 hw1 hd hn ha hbt x3 x4 hL e3 r1 r2 k0 hW3 hBg HLA
 go_wp2_with fail
 with_reducible refine HW6.out.mono ?_
 rintro e w7 ⟨rfl, hK⟩
 have hfin := hK.trans' hc4 HF6.out
 go_wp2_with fail
 go_end0
 refine ⟨rfl, ?_⟩
 rw [HA.out]
 unfold QN.appW
 rw [HSS.out, HO.out]
 exact hfin
end Go.Proofs.YtmebjdbkngehiaaGreatDoor
namespace Go.Proofs.YtmebjdbkngehiaaGreatDoor
open Go.RowKit Go.Shelf
set_option maxHeartbeats 4000000
variable {q q2 : QN} {w w7 : World} {ab p g : Nat} {c : QC} {l : List UInt8} {v : QV} {aA aT aN aW aS : Addr}
def QN.compQ (q : QN) (f : List UInt8) : QN := if (q.compW f).down = true then q.compW f else { (q.compW f).wr 0 (headN (q.compW f).d (!q.other)) with other := !q.other, tail := f.length }
theorem compW_up (h : q.down = false) (hd : q.d.down = false) (f : List UInt8) (h1 : (q.compW f).down = false) : (q.compW f).d.down = false := by
 rw [compW_eq h] at h1 ⊢
 exact puts_up _ _ _ hd (by simpa using h1)
theorem compQ_like (h : q.down = false) (f : List UInt8) : (q.compQ f).d = (compD q.d q.other f).1 ∧ (q.compQ f).s = q.s ∧ (q.compQ f).down = !(compD q.d q.other f).2 ∧ ((compD q.d q.other f).2 = true → q.compQ f = { q with d := (compD q.d q.other f).1, other := !q.other, tail := f.length }) := by
 obtain ⟨e1, e2⟩ := comp_like h f
 rw [e1, e2]
 have hc := compW_eq h f
 unfold QN.compQ
 by_cases hd : (q.compW f).down = true
 ·rw [if_pos hd, if_pos hd, hd]
  refine ⟨rfl, ?_, rfl, fun e => ?_⟩
  ·rw [hc]
  ·simp at e
 ·rw [if_neg hd, if_neg hd]
  have hd2 : (q.compW f).down = false := by simpa using hd
  rw [wr_up hd2, hd2]
  refine ⟨rfl, ?_, by simp, fun e => ?_⟩
  ·rw [hc]
  ·have e2 : ((q.compW f).d.write 0 (headN (q.compW f).d (!q.other))).2 = 0 := by simpa using e
   have hs : (q.compW f).s = q.s := by rw [hc]
   show QN.mk _ (q.compW f).s (!q.other) f.length (!decide (((q.compW f).d.write ((0 : Nat) : Int) (headN (q.compW f).d (!q.other))).2 = 0)) = QN.mk _ q.s (!q.other) f.length q.down
   rw [hs, h]
   have e3 : ((q.compW f).d.write ((0 : Nat) : Int) (headN (q.compW f).d (!q.other))).2 = 0 := e2
   rw [e3]
   rfl
theorem secs_row {F : Nat → Prop} {c : Nat} (h : BRow w ab l) (h1 : ¬ F ab) (h2 : ¬ F w.heap.size) :
  SecsAt F (w.alloc (.cells #[.slice (some ⟨ab, 0, none⟩) l.length c] 36)) (some ⟨w.heap.size, 0, none⟩) [l] := by
 intro _
 have hlt := h.lt
 refine ⟨w.heap.size, rfl, by simp, h2, fun i hi => ?_⟩
 obtain rfl : i = 0 := by simpa using hi
 refine ⟨ab, 0, c, by rw [(Blk.new_ w 36 #[.slice (some ⟨ab, 0, none⟩) l.length c]).cell 0]; simp, by simp; omega, h1, fun j hj => ?_⟩
 have hj' : j < l.length := hj
 rw [Nat.zero_add, World.cell?_of_block (Below.heap_alloc w _ ab hlt), (h.cell j hj').1]
 rfl
theorem wr_other (q : QN) (k : Nat) (s : List UInt8) : (q.wr k s).other = q.other := by unfold QN.wr; split <;> rfl
theorem head_write {W : World} {c3 : QC} {cap : Nat} {q1 : QN} (hb : c3.b = c.b) (hq : QAt W c3 v p g q1) (hf : Foot (QF2 c v p g) w W) (hG : Glb (QF2 c v p g) aA aT aN aW aS w) (hr : BRow W ab l) (h64 : l.length = 64) (hab : ∀ k, QF2 c v p g k → k < ab) (hn : q1.d.n + 1 ≤ 1000000) (z : Nat) (hz : z = W.heap.size) :
  Calls Tryz.prog 138 #[.pointer (some ⟨c.b, 0, none⟩), .int .i64 0, .slice (some ⟨z, 0, none⟩) 1 1] (W.alloc (.cells #[.slice (some ⟨ab, 0, none⟩) 64 cap] 36)) fun e w' => e = .returned (.tuple #[]) ∧ QKept w c v p g (q1.wr 0 l) w' := by
 subst hz
 have hlt := hr.lt
 have hS := secs_row (F := QF2 c3 v p g) (c := cap) hr (fun q => by have := hab _ ((qf_b hb v p g _).1 q); omega) (fun q => by have := hab _ ((qf_b hb v p g _).1 q); omega)
 rw [h64] at hS
 have hf6 := hf.ext (ext_new _ (.cells #[.slice (some ⟨ab, 0, none⟩) 64 cap] 36))
 have := qwrite_any 0 1 1 _ [l] (hq.below (ext_new _ (.cells #[.slice (some ⟨ab, 0, none⟩) 64 cap] 36))) (hG.later hf6 fun k hk => .inl ((qf_b hb v p g k).1 hk)) hS rfl hn (by omega) (by omega)
 rw [hb] at this
 refine this.mono ?_
 rintro e w7 ⟨rfl, hK⟩
 exact ⟨rfl, hK.trans' hb hf6⟩
theorem area_end (h : QKept w c v p g q2 w7) (o : Bool) (t : Nat) :
  QKept w c v p g { q2 with other := o, tail := t } ((w7.setCell ⟨c.b, 3, none⟩ (.bool o)).setCell ⟨c.b, 4, none⟩ (.int .i64 (t : Int))) := by
 obtain ⟨c7, hc7, hq7, hf7⟩ := h
 have e1 := hq7.setOther o
 have e2 := e1.setTail t
 rw [show (⟨c7.b, .bool o, c7.x4, c7.x5, c7.x6⟩ : QC).b = c7.b from rfl] at e2
 rw [hc7] at e2
 exact ⟨_, by rfl, e2, (hf7.set (.inl (.inl (.inl rfl))) _ _).set (.inl (.inl (.inl rfl))) _ _⟩
theorem area_cells (h : QKept w c v p g q2 w7) : w7.cell? ⟨c.b, 3, none⟩ = some (.bool q2.other) ∧ w7.cell? ⟨c.b, 4, none⟩ = some (.int .i64 (q2.tail : Int)) ∧ w7.frozen? ⟨c.b, 3, none⟩ = false ∧ w7.frozen? ⟨c.b, 4, none⟩ = false := by
 obtain ⟨c7, hc7, hq7, hf7⟩ := h
 have z := hq7.blk.c7
 rw [hc7] at z
 exact ⟨z.1.2.2.2.1, z.1.2.2.2.2.1, z.2.2.2.2.1, z.2.2.2.2.2.1⟩
set_option maxRecDepth 100000 in
theorem compact_any (f : List UInt8) (h : QAt w c v p g q) (hG : Glb (QF2 c v p g) aA aT aN aW aS w) (hu : q.down = false) (hd : q.d.down = false) (h9 : 9 ≤ q.d.L.length) (hroom : f.length + 1 ≤ szN q.d.L.length) (hn : q.d.n + q.d.L.length + 1 ≤ 1000000) :
  Calls Tryz.prog 100 #[.pointer (some ⟨c.b, 0, none⟩), .string ⟨f.toArray⟩] w fun e w' => e = .returned (.tuple #[]) ∧ QKept w c v p g (q.compQ f) w' := by
 have hL := h.disk.len
 have hsz := sz_lt h9 (!q.other)
 obtain ⟨a, ha⟩ : ∃ a, beginN q.d.L.length (!q.other) = a := ⟨_, rfl⟩
 have hBg := begin_any (!q.other) h
 have hLA := laid_any a ⟨(f ++ [0]).toArray⟩ h hG.here hd (by show 0 < (f ++ [0]).toArray.size; simp) (by show a + (f ++ [0]).toArray.size ≤ _; rw [List.size_toArray, List.length_append, List.length_singleton]; omega)
 rw [ha] at hBg
 have x3 := h.blk.c7.1.2.2.2.1
 have hst : (⟨f.toArray⟩ : ByteArray) ++ ⟨#[0]⟩ = ⟨(f ++ [0]).toArray⟩ := by
  apply ByteArray.ext
  rw [ByteArray.data_append]
  simp
 have HLA := Lib.hid hLA
 clear hLA
 go_enter Tryz.func100, Tryz.ntmps100
 go_wp2_with fail
 refine hBg.mono ?_
 rintro e w1 ⟨rfl, rfl⟩
 go_wp2_with fail
 refine HLA.out.mono ?_
 rintro e w2 ⟨V, ab, rfl, hC, hb2⟩
 have hcl : (secsN q.d.L.flatten a (f ++ [0])).length ≤ q.d.L.length := by
  have := secs_len (L := q.d.L) a (f ++ [0])
  unfold countN at this
  rw [List.length_append, List.length_singleton] at this
  omega
 have hcw : q.compW f = q.wrs (firstN a) (secsN q.d.L.flatten a (f ++ [0])) := by unfold QN.compW; rw [ha]
 have hwl := wrs_len (secsN q.d.L.flatten a (f ++ [0])) h.disk.fit (firstN a)
 have hup := compW_up hu hd f
 rw [hcw] at hup
 have HCQ := Lib.hid (show q.compQ f = if (q.wrs (firstN a) (secsN q.d.L.flatten a (f ++ [0]))).down = true then q.wrs (firstN a) (secsN q.d.L.flatten a (f ++ [0])) else { (q.wrs (firstN a) (secsN q.d.L.flatten a (f ++ [0]))).wr 0 (headN (q.wrs (firstN a) (secsN q.d.L.flatten a (f ++ [0]))).d (!q.other)) with other := !q.other, tail := f.length } from by unfold QN.compQ; rw [hcw])
 generalize secsN q.d.L.flatten a (f ++ [0]) = ss at *
 obtain ⟨A, n, cp, rfl⟩ : ∃ A n cp, V = .slice A n cp := by
  obtain ⟨A, c, e⟩ := own_form hC.own
  exact ⟨_, _, _, e⟩
 have hnl : ss.length = n := by
  obtain ⟨A', c', e, -⟩ := hC.secs (F := fun _ => False) (fun _ q => q.elim)
  injection e with _ e _
  exact e.symm
 have hF : ∀ k, QF2 c v p g k → k < w.heap.size := fun k hk => h.lt hk
 have hfN : firstN a ≤ 1000 := by unfold firstN; omega
 have hW3 := qwrite_any (firstN a) n cp _ ss (h.below hb2) (hG.foot (Foot.of_below hb2)) (hC.secs' hF) hnl (by omega) (by omega) hfN
 have HF := Lib.hid hF
 have HG := Lib.hid hG
 have HFB := Lib.hid (Foot.of_below (F := QF2 c v p g) hb2)
 have h9' : 9 ≤ (q.wrs (firstN a) ss).d.L.length := by rw [hwl.1]; exact h9
 have hnq : (q.wrs (firstN a) ss).d.n + 1 ≤ 1000000 := by omega
 have hoth : (q.wrs (firstN a) ss).other = q.other := hwl.2.2.2.2.1
 have HHO := Lib.hid hoth
 clear hF hG hC hcw hwl hst hcl hsz hroom hn HLA hBg hoth
 generalize q.wrs (firstN a) ss = q1 at *
 go_wp2_with fail
 with_reducible refine hW3.mono ?_
 rintro e w3 ⟨rfl, c3, hc3, hq3, hf3⟩
 have hf03 : Foot (QF2 c v p g) w w3 := HFB.out.trans hf3 fun k hk => .inl hk
 have hI3 := (HG.out _ hf03)
 have hRd := Read_any 0 hq3.disk hI3.d.s
 have y5 := hq3.blk.c7.1.2.2.2.2.2.1
 have y6 := hq3.blk.c7.1.2.2.2.2.2.2
 rw [hc3] at y5 y6
 go_wp2_with fail
 refine hRd.mono ?_
 rintro e w4 ⟨rfl, hb4⟩
 have hq4 := hq3.below hb4
 have hf04 := hf03.ext hb4
 have y6 := hq4.blk.c7.1.2.2.2.2.2.2
 have z3 := hq4.blk.c7.1.2.2.2.1
 rw [hc3] at y6 z3
 rw [HHO.out] at z3
 by_cases hdn : q1.down = true
 ·rw [hdn] at y6
  have HEND := Lib.hid (show QKept w c v p g (q.compQ f) w4 from ⟨c3, hc3, by rw [HCQ.out, if_pos hdn]; exact hq4, hf04⟩)
  clear hq3 hq4 hf03 hf04 hI3 hRd hW3 h hdn
  go_wp2_with fail
  refine bodyPost_ret (results_none (by kernel_rfl) _ _ _) rfl ?_
  exact ⟨rfl, HEND.out⟩
 ·have hdn2 : q1.down = false := by simpa using hdn
  have hdd := hup hdn2
  rw [hdn2] at y6
  rw [if_neg hdn] at HCQ
  obtain ⟨x, hx⟩ : ∃ x, q1.d.L.headD [] = x := ⟨_, rfl⟩
  have hx64 : x.length = 64 := by
   rw [← hx]
   have := hq4.disk.fit.sec
   cases hL1 : q1.d.L with
   | nil => rw [hL1] at h9'; simp at h9'
   | cons s l => exact this s (by rw [hL1]; simp)
  have hrd0 : q1.d.read 0 = (x, 0) := by
   unfold DN.read
   have h0 : q1.d.has 0 = true := DN.has_iff.2 ⟨0, rfl, by omega⟩
   rw [if_neg (by rw [hdd]; decide), if_pos h0, ← hx]
   cases q1.d.L <;> rfl
  rw [hrd0]
  have hne : (⟨x.toArray⟩ : ByteArray).toList.isEmpty = false := by
   rw [Lib.toList_data]
   cases x with
   | nil => simp at hx64
   | cons x0 xs => simp
  have hcv := run_bytes_of_string (P := Tryz.prog) w4 9 36 5 ⟨x.toArray⟩ Tryz.underlying9 Tryz.underlying36 Tryz.underlying5
  have hrow := brow_new w4.drew ⟨x.toArray⟩ (grownCap w4 (⟨x.toArray⟩ : ByteArray).size 0 5)
  have hb5 := (ext_refl w4).drew.alloc (Nat.le_refl _) (.cells (bytesRow ⟨x.toArray⟩ (grownCap w4 (⟨x.toArray⟩ : ByteArray).size 0 5)) 5 ((bytesRow ⟨x.toArray⟩ (grownCap w4 (⟨x.toArray⟩ : ByteArray).size 0 5)).size, (bytesRow ⟨x.toArray⟩ (grownCap w4 (⟨x.toArray⟩ : ByteArray).size 0 5)).size + 1))
  change BRow _ w4.heap.size _ at hrow
  have hx5 : (⟨x.toArray⟩ : ByteArray).data.toList = x := by simp
  rw [hx5] at hrow
  rw [list_size2, hx64] at hcv hrow hb5
  generalize grownCap w4 64 0 5 = cap at *
  generalize w4.drew.alloc (.cells (bytesRow ⟨x.toArray⟩ cap) 5 ((bytesRow ⟨x.toArray⟩ cap).size, (bytesRow ⟨x.toArray⟩ cap).size + 1)) = w5 at *
  obtain ⟨ab2, hab⟩ : ∃ ab2, w4.heap.size = ab2 := ⟨_, rfl⟩
  have hq5 := hq4.below hb5
  have hf05 := hf04.ext hb5
  rw [hab] at hcv hrow
  obtain ⟨x0, xs, rfl⟩ : ∃ x0 xs, x = x0 :: xs := by
   cases x with
   | nil => simp at hx64
   | cons x0 xs => exact ⟨_, _, rfl⟩
  have r0 := hrow.cell 0 (by simp)
  obtain ⟨r1, r2⟩ := r0
  simp only [List.getElem_cons_zero] at r1
  unfold cellB at r1
  have z5 := hq5.blk.c7.1.2.2.2.1
  rw [hc3, HHO.out] at z5
  have HQ5 := Lib.hid hq5
  have HF5 := Lib.hid hf05
  have HROW := Lib.hid hrow
  have HX := Lib.hid hx
  have HL5 := Lib.hid (show ∀ k, QF2 c v p g k → k < ab2 from fun k hk => by have := HF.out k hk; have := hf04.size; omega)
  have HWS := Lib.hid (show w.heap.size ≤ ab2 from by rw [← hab]; exact hf04.size)
  clear hq4 hq5 hf04 hf05 hrow hx hrd0 hx5 hb5 hb4 hq3 hf3 hf03 hI3 hRd hW3 h hab hdd hup
  have hkq : ∀ (W : World), (∀ k, k ≠ ab2 → W.heap[k]? = w5.heap[k]?) → QAt W c3 v p g q1 := fun W hk => HQ5.out.keptF fun k hq => hk k (fun e => by have := HL5.out k ((qf_b hc3 v p g k).1 hq); omega)
  have hw1 := head_write (cap := cap) hc3 (hkq _ fun k hk => Below.heap_setCell _ _ _ _ (by simpa using hk)) (HF5.out.set (.inr HWS.out) 0 (cellB 0)) HG.out (HROW.out.set 0 0) (by simpa using hx64) HL5.out hnq w5.heap.size (by rw [World.size_setCell])
  have hw2 := head_write (cap := cap) hc3 (hkq _ fun k hk => (Below.heap_setCell _ _ _ _ (by simpa using hk)).trans (Below.heap_setCell _ _ _ _ (by simpa using hk))) ((HF5.out.set (.inr HWS.out) 0 (cellB 0)).set (.inr HWS.out) 0 (cellB 1)) HG.out ((HROW.out.set 0 0).set 0 1) (by simpa using hx64) HL5.out hnq w5.heap.size (by rw [World.size_setCell, World.size_setCell])
  simp only [List.set_cons_zero] at hw1 hw2
  rw [show cellB 0 = .int .u8 0 from rfl] at hw1 hw2
  rw [show cellB 1 = .int .u8 1 from rfl] at hw2
  have hh1 : headN q1.d false = 0 :: xs := by unfold headN; rw [HX.out]; rfl
  have hh2 : headN q1.d true = 1 :: xs := by unfold headN; rw [HX.out]; rfl
  have HW1 := Lib.hid hw1
  have HW2 := Lib.hid hw2
  have HH1 := Lib.hid hh1
  have HH2 := Lib.hid hh2
  clear hkq hw1 hw2 hh1 hh2
  have hlen : (⟨f.toArray⟩ : ByteArray).size = f.length := list_size2 f
  cases hoo : q.other with
  | true =>
   rw [hoo] at z5 HCQ
   rw [Bool.not_true, HH1.out] at HCQ
   go_wp2_with fail
   with_reducible refine HW1.out.mono ?_
   rintro e w7 ⟨rfl, hK⟩
   obtain ⟨a3, a4, f3, f4⟩ := area_cells hK
   rw [wr_other, HHO.out, hoo] at a3
   have HEND := Lib.hid (area_end hK false f.length)
   clear hK
   go_wp2_with fail
   go_end0
   exact ⟨rfl, by rw [HCQ.out]; exact HEND.out⟩
  | false =>
   rw [hoo] at z5 HCQ
   rw [Bool.not_false, HH2.out] at HCQ
   go_wp2_with fail
   with_reducible refine HW2.out.mono ?_
   rintro e w7 ⟨rfl, hK⟩
   obtain ⟨a3, a4, f3, f4⟩ := area_cells hK
   rw [wr_other, HHO.out, hoo] at a3
   have HEND := Lib.hid (area_end hK true f.length)
   clear hK
   go_wp2_with fail
   go_end0
   exact ⟨rfl, by rw [HCQ.out]; exact HEND.out⟩
end Go.Proofs.YtmebjdbkngehiaaGreatDoor
