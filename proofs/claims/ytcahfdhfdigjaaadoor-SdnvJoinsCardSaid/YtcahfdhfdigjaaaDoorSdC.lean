/-
  Package sdnv: Decode and All. Conditions: errors.errorType holds the handle of the type error ('SInv').
-/
import Derived.Test.YtcahfdhfdigjaaaDoorSdB
import Derived.Maps.AppendAt
import Derived.Deep.AppendLies
import Derived.Deep.DeepMust
namespace Go.Proofs.YtcahfdhfdigjaaaDoor
open Go.RowKit

/-- What stands at a place of a text. -/
def nextL (s : ByteArray) (a : Int) : SdR := if a < 0 then .bad 11 else sdecL (s.data.toList.drop a.toNat)
theorem nextL_nat (s : ByteArray) (p : Nat) : nextL s (p : Int) = sdecL (s.data.toList.drop p) := by rw [nextL, if_neg (by omega), Int.toNat_natCast]

/-- How what stands there is found. -/
theorem nextL_cases (s : ByteArray) (a : Int) :
    (nextL s a = .bad 11 ∧ endV s a = (0, false))
    ∨ ∃ p k : Nat, a = (p : Int) ∧ endV s (p : Int) = (((p + k : Nat) : Int), true) ∧ p + k < s.size ∧
      ((∃ hp : p < s.size, nextL s a = .bad 20 ∧ s[p].toNat = 128)
      ∨ (∃ hp : p < s.size, ¬ s[p].toNat = 128 ∧ ((281474976710655 < v7 ((s.data.toList.drop p).take (k + 1)) ∧ nextL s a = .bad 10) ∨ (v7 ((s.data.toList.drop p).take (k + 1)) ≤ 281474976710655 ∧ nextL s a = .ok (v7 ((s.data.toList.drop p).take (k + 1))) (k + 1))))) := by
  by_cases h : a < 0
  · exact .inl ⟨by rw [nextL, if_pos h], endV_neg s a h⟩
  · obtain ⟨p, rfl⟩ := Int.eq_ofNat_of_zero_le (show 0 ≤ a by omega)
    rw [nextL_nat, endV, if_neg h, Int.toNat_natCast, sdecL]
    cases he : endN (s.data.toList.drop p) with
    | none => exact .inl ⟨rfl, rfl⟩
    | some k =>
      obtain ⟨m, b, t, e1, e2, -, -⟩ := endN_some he
      have hl : (s.data.toList.drop p).length = m.length + 1 + t.length := by rw [e1]; simp; omega
      rw [List.length_drop, list_size] at hl
      have hp : p < s.size := by omega
      refine .inr ⟨p, k, rfl, by rw [endV, if_neg h, Int.toNat_natCast, he]; simp, by omega, ?_⟩
      dsimp only
      rw [list_at s p hp, List.head?_cons, ← list_at s p hp]
      by_cases h1 : s[p].toNat = 128
      · refine .inl ⟨hp, ?_, h1⟩
        rw [if_pos]
        exact congrArg some (UInt8.toNat_inj.1 h1)
      · refine .inr ⟨hp, h1, ?_⟩
        rw [if_neg (fun e => h1 (by injection e with e; rw [e]; rfl))]
        by_cases h2 : 281474976710655 < v7 ((s.data.toList.drop p).take (k + 1))
        · exact .inl ⟨h2, by rw [if_pos h2]⟩
        · exact .inr ⟨by omega, by rw [if_neg h2]⟩

theorem next_bad {s : ByteArray} {a : Int} {x : Int} (hx : nextL s a = .bad x) (out : Value) (g : Nat) (w : World) (hB : Blk w g 52 #[.string s, .int .i64 a, out]) (hs : s.size ≤ 9223372036854775806) (ha : a ≤ 9223372036854775807) :
    Calls Tryd.prog 28 #[.pointer (some ⟨g, 0, none⟩)] w (fun e w' => e = .returned (.tuple #[.int .i64 0, WrV x]) ∧ Besides g w w' ∧ ∃ q : Int, Blk w' g 52 #[.string s, .int .i64 q, out]) := by
  rcases nextL_cases s a with ⟨h1, h2⟩ | ⟨p, k, rfl, h1, h2, ⟨hp, h3, h4⟩ | ⟨hp, h3, ⟨h4, h5⟩ | ⟨h4, h5⟩⟩⟩
  · rw [h1] at hx
    injection hx with hx
    subst hx
    exact (next_short s a out g w hB (by omega) ha h2).mono (fun e w' h => ⟨h.1, Besides.of_below h.2, _, hB.below h.2⟩)
  · rw [h3] at hx
    injection hx with hx
    subst hx
    exact (next_form s p k out g w hB (by omega) h1 hp h4).mono (fun e w' h => ⟨h.1, Besides.of_below h.2, _, hB.below h.2⟩)
  · rw [h5] at hx
    injection hx with hx
    subst hx
    exact (next_num s p k out g w hB hs h1 h2 h3).mono (fun e w' h => ⟨by rw [h.1, nextR, if_neg (by omega)], h.2.1, h.2.2.1⟩)
  · rw [h5] at hx; cases hx
theorem next_ok {s : ByteArray} {a : Int} {n k : Nat} (hx : nextL s a = .ok n k) (out : Value) (g : Nat) (w : World) (hB : Blk w g 52 #[.string s, .int .i64 a, out]) (hs : s.size ≤ 9223372036854775806) :
    Calls Tryd.prog 28 #[.pointer (some ⟨g, 0, none⟩)] w (fun e w' => e = .returned (.tuple #[.int .i64 (n : Int), .nilIface]) ∧ Besides g w w' ∧ Blk w' g 52 #[.string s, .int .i64 (a + (k : Int)), out]) := by
  rcases nextL_cases s a with ⟨h1, h2⟩ | ⟨p, k', rfl, h1, h2, ⟨hp, h3, h4⟩ | ⟨hp, h3, ⟨h4, h5⟩ | ⟨h4, h5⟩⟩⟩
  · rw [h1] at hx; cases hx
  · rw [h3] at hx; cases hx
  · rw [h5] at hx; cases hx
  · rw [h5] at hx
    injection hx with hx1 hx2
    subst hx1 hx2
    exact (next_num s p k' out g w hB hs h1 h2 h3).mono (fun e w' h => ⟨by rw [h.1, nextR, if_pos h4], h.2.1, by have := h.2.2.2 h4; rwa [Int.natCast_add] at this⟩)

/-- What Decode tells. -/
def sdV (s : ByteArray) (a : Int) : (Int × Int) × Int := match nextL s a with | .bad e => ((0, 0), e) | .ok n k => (((n : Int), a + (k : Int)), 0)
/-- As Decode's results. -/
def sdR (t : (Int × Int) × Int) : Value := .tuple #[.int .i64 t.1.1, .int .i64 t.1.2, .int .i64 t.2]

theorem bad_ne {s : ByteArray} {a x : Int} (hx : nextL s a = .bad x) : (x == 0) = false := by
  rcases nextL_cases s a with ⟨h1, h2⟩ | ⟨p, k, rfl, h1, h2, ⟨hp, h3, h4⟩ | ⟨hp, h3, ⟨h4, h5⟩ | ⟨h4, h5⟩⟩⟩
  · rw [h1] at hx; injection hx with hx; subst hx; rfl
  · rw [h3] at hx; injection hx with hx; subst hx; rfl
  · rw [h5] at hx; injection hx with hx; subst hx; rfl
  · rw [h5] at hx; cases hx

set_option maxRecDepth 100000 in
theorem Decode_any (s : ByteArray) (a : Int) (w : World) (hI : SInv w) (hs : s.size ≤ 9223372036854775806) (ha : a ≤ 9223372036854775807) :
    Calls Tryd.prog 14 #[.string s, .int .i64 a] w (Ret (sdR (sdV s a)) w) := by
  have hlt : 0 < w.heap.size := cell_lt hI
  cases hx : nextL s a with
  | bad x =>
    have hne := bad_ne hx
    have hne' : (x != 0) = true := by rw [bne, hne]; rfl
    rw [sdV, hx]
    unfold sdR
    have HN := fun w' hB => next_bad hx (.slice none 0 0) w.heap.size w' hB hs ha
    clear hx
    unfold WrV at HN
    go_enter Tryd.func14, Tryd.ntmps14
    go_wp2_with fail
    refine (HN _ (Blk.new_ w _ _)).mono ?_
    rintro e w1 ⟨rfl, hb1, -⟩
    have hI1 := (hI.below (ext_new w (.cells #[.string s, .int .i64 a, .slice none 0 0] 52))).besides hb1 (by omega)
    have hw1 := (ext_new w (.cells #[.string s, .int .i64 a, .slice none 0 0] 52)).trans (hb1.below (B := w.heap.size) (Nat.le_refl _) (by simp))
    have T := toldi_wr 0 x w1 hI1
    unfold WrV at T
    go_wp2_with fail
    refine T.mono ?_
    rintro e w2 ⟨rfl, hb2⟩
    go_wp2_with fail
    exact bodyPost_ret (v := .tuple #[.int .i64 0, .int .i64 0, .int .i64 x]) (by simp [results, Tryd.results14]) rfl ⟨rfl, ext_trans hw1 hb2⟩
  | ok n k =>
    rw [sdV, hx]
    unfold sdR
    have HN := fun w' hB => next_ok hx (.slice none 0 0) w.heap.size w' hB hs
    clear hx
    dsimp only
    generalize hq : a + (k : Int) = q at HN ⊢
    clear hq
    go_enter Tryd.func14, Tryd.ntmps14
    go_wp2_with fail
    refine (HN _ (Blk.new_ w _ _)).mono ?_
    rintro e w1 ⟨rfl, hb1, hB1⟩
    have hw1 := (ext_new w (.cells #[.string s, .int .i64 a, .slice none 0 0] 52)).trans (hb1.below (B := w.heap.size) (Nat.le_refl _) (by simp))
    have T := toldi_nil (n : Int) w1
    go_wp2_with fail
    refine T.mono ?_
    rintro e w2 ⟨rfl, hb2⟩
    have hx1 := (hB1.below hb2).cell 1
    simp only [List.getElem?_toArray, List.getElem?_cons_zero, List.getElem?_cons_succ] at hx1
    go_wp2_with fail
    go_quiet (fail)
    go_wp2_with fail
    exact bodyPost_ret (v := .tuple #[.int .i64 n, .int .i64 q, .int .i64 0]) (by simp [results, Tryd.results14]) rfl ⟨rfl, below_drewN' (ext_trans hw1 hb2) _⟩

theorem own_besides {g0 : Nat} {w w' : World} {base : Nat} {e : TypeId} {size : Nat} {v : Value} {n : Nat} {xs : List Value} (h : w.ownsRow base e size v n xs) (hb : Besides g0 w w') (hg0 : g0 < base) : w'.ownsRow base e size v n xs := by
  refine ⟨h.1, ?_⟩
  rcases h.2 with h0 | ⟨g, cap, cur, rfl, hg, hh, r⟩
  · exact .inl h0
  · exact .inr ⟨g, cap, cur, rfl, hg, (hb.block g ((Array.getElem?_eq_some_iff.1 hh).1) (by omega)).trans hh, r⟩
theorem own_below {w w' : World} {base : Nat} {e : TypeId} {size : Nat} {v : Value} {n : Nat} {xs : List Value} (h : w.ownsRow base e size v n xs) (hb : Below w.heap.size w w') : w'.ownsRow base e size v n xs := by
  refine ⟨h.1, ?_⟩
  rcases h.2 with h0 | ⟨g, cap, cur, rfl, hg, hh, r⟩
  · exact .inl h0
  · exact .inr ⟨g, cap, cur, rfl, hg, (hb.block g ((Array.getElem?_eq_some_iff.1 hh).1)).trans hh, r⟩
theorem own_base {w : World} {base base' : Nat} {e : TypeId} {size : Nat} {v : Value} {n : Nat} {xs : List Value} (h : w.ownsRow base e size v n xs) (hb : base' ≤ base) : w.ownsRow base' e size v n xs := by
  refine ⟨h.1, ?_⟩
  rcases h.2 with h0 | ⟨g, cap, cur, rfl, hg, hh, r⟩
  · exact .inl h0
  · exact .inr ⟨g, cap, cur, rfl, Nat.le_trans hb hg, hh, r⟩
theorem own_nil {w : World} {base : Nat} {e : TypeId} {size : Nat} : w.ownsRow base e size (.slice none 0 0) 0 [] := ⟨by simp, .inl ⟨rfl, rfl⟩⟩
theorem below_append {B : Nat} {w w1 w2 : World} {base : Nat} {e : TypeId} {size n : Nat} {v : Value} {xs : List Value} (h : Below B w w1) (hown : w1.ownsRow base e size v n xs) (hB : B ≤ base) (hw : B ≤ w.heap.size) (hg : w1.grownBy w2 v.ownBlock) : Below B w w2 :=
  h.grown hg (Nat.le_trans hw h.size) (fun k e => by have := (hown.lt k e).1; omega)
theorem new_one (w : World) (x : Value) (t : TypeId) : ∀ j u, ([x] : List Value)[j]? = some u → (w.alloc (.cells #[x] t)).cell? ((⟨w.heap.size, 0, none⟩ : Addr).add j) = some u := by
  intro j u h
  cases j with
  | zero =>
    simp only [List.getElem?_cons_zero, Option.some.injEq] at h
    subst h
    simp [Addr.add]
  | succ j => simp at h
theorem infoI : (Tryd.prog.info? 3).map (fun i => (i.zero, i.size, i.bytes)) = some (some (.int .i64 0), 1, 8) := by kernel_rfl
/-- Numbers as cells. -/
def cellsI (l : List Nat) : List Value := l.map fun (n : Nat) => Value.int .i64 (n : Int)
theorem cellsI_snoc (l : List Nat) (n : Nat) : cellsI (l ++ [n]) = cellsI l ++ [.int .i64 (n : Int)] := by simp [cellsI]

/-- All the numbers of a text, and what is told. -/
def allV (s : ByteArray) : List Nat × Int := match allOf s.data.toList with | .bad e => ([], e) | .ok l => (l, 0)
/-- How All ends. -/
def AllRes (l : List Nat) (x : Int) (w : World) (e : Ending) (w' : World) : Prop := ∃ V, e = .returned (.tuple #[V, .int .i64 x]) ∧ w'.ownsRow w.heap.size 3 1 V l.length (cellsI l) ∧ Below w.heap.size w w'

/-- All, but for what has been gone through. -/
def AllR.over (xs : List Nat) : AllR → AllR
  | .bad e => .bad e
  | .ok l => .ok (xs ++ l)
theorem over_push (xs : List Nat) (n : Nat) (r : AllR) : (r.push n).over xs = r.over (xs ++ [n]) := by cases r <;> simp [AllR.push, AllR.over]

set_option maxRecDepth 100000 in
set_option maxHeartbeats 2000000 in
theorem All_any (s : ByteArray) (w : World) (hI : SInv w) (hs : s.size ≤ 1000000) :
    Calls Tryd.prog 15 #[.string s] w (AllRes (allV s).1 (allV s).2 w) := by
  obtain ⟨i0, hi0, hz0, hz1, hz2⟩ := info_parts infoI
  have hlt : 0 < w.heap.size := cell_lt hI
  go_enter Tryd.func15, Tryd.ntmps15
  go_wp2_with fail
  obtain ⟨d, hd⟩ : ∃ d, w.heap.size = d := ⟨_, rfl⟩
  have p0 : Blk (w.alloc (.cells #[.string s, .int .i64 0, .slice none 0 0] 52)) d 52 #[.string s, .int .i64 0, .slice none 0 0] := by rw [← hd]; exact Blk.new_ _ _ _
  have q0 : Below d w (w.alloc (.cells #[.string s, .int .i64 0, .slice none 0 0] 52)) := by rw [← hd]; exact ext_new _ _
  have s0 : d < (w.alloc (.cells #[.string s, .int .i64 0, .slice none 0 0] 52)).heap.size := by simp [hd]
  have HD := Lib.hid hd
  rw [hd] at hlt
  rw [hd]
  clear hd
  generalize (w.alloc (.cells #[.string s, .int .i64 0, .slice none 0 0] 52)) = W at *
  go_loopw [17] (fun _ wr => ∃ (p : Nat) (xs : List Nat) (out : Value), p ≤ s.size ∧ xs.length ≤ p ∧ allOf s.data.toList = (allOf (s.data.toList.drop p)).over xs ∧ Blk wr d 52 #[.string s, .int .i64 (p : Int), out] ∧ wr.ownsRow (d + 1) 3 1 out xs.length (cellsI xs) ∧ Below d w wr) (fun _ wr => s.size - (intOf ((wr.cell? ⟨d, 1, none⟩).getD .nilIface)).toNat)
  case atStart => exact ⟨0, [], .slice none 0 0, by omega, by simp, by simp [AllR.over]; cases allOf s.data.toList <;> rfl, p0, own_nil, q0⟩
  case round =>
    obtain ⟨p, xs, out, hp, hxs, hall, hB, hown, hbe⟩ := hrel
    have HA := Lib.hid hall
    clear hall
    have hx1 := hB.cell 1
    have hx2 := hB.cell 2
    simp only [List.getElem?_toArray, List.getElem?_cons_zero, List.getElem?_cons_succ] at hx1 hx2
    by_cases hlt2 : p < s.size
    · have hq1 : (p : Int) < (s.size : Int) := by omega
      have hne : s.data.toList.drop p ≠ [] := fun e => by
        have := congrArg List.length e
        rw [List.length_drop, list_size, List.length_nil] at this
        omega
      have hst := allOf_step hne
      rw [← nextL_nat] at hst
      cases hx : nextL s (p : Int) with
      | bad x =>
        rw [hx] at hst
        have HN := next_bad hx out d wr hB (by omega) (by omega)
        have hv : allV s = ([], x) := by unfold allV; rw [HA.out, hst]; rfl
        have HV := Lib.hid hv
        clear hx hst hne hv
        unfold WrV at HN
        go_wp2_with fail
        refine HN.mono ?_
        rintro e w1 ⟨rfl, hb1, q, hB1⟩
        have hlw : d < wr.heap.size := cell_lt hx1
        have hI1 : SInv w1 := ((hI.below (HD.out ▸ hbe)).besides hb1 (by omega))
        have hw1 : Below d w w1 := hbe.trans (hb1.below (Nat.le_refl _) (Nat.le_of_lt hlw))
        have hy2 := hB1.cell 2
        simp only [List.getElem?_toArray, List.getElem?_cons_zero, List.getElem?_cons_succ] at hy2
        have T := toldl_wr out x w1 hI1
        unfold WrV at T
        clear hx1 hx2
        go_wp2_with fail
        refine T.mono ?_
        rintro e w2 ⟨rfl, hb2⟩
        have hw2 : Below d w w2 := hw1.trans (hb2.mono (Nat.le_trans (Nat.le_of_lt hlw) hb1.size))
        go_wp2_with fail
        exact bodyPost_ret (results_tmp2 rfl _ _ _) rfl ⟨.slice none 0 0, by rw [HV.out]; rfl, by rw [HV.out]; exact own_nil, by rw [HD.out]; exact hw2⟩
      | ok n k =>
        rw [hx] at hst
        have HN := next_ok hx out d wr hB (by omega)
        have hsd := sdL_sdec (l := s.data.toList.drop p) (n := n) (k := k) (by rw [← nextL_nat]; exact hx)
        obtain ⟨hn1, -, hk1, hk2⟩ := hsd
        rw [List.length_drop, list_size] at hk1
        have hal : allOf s.data.toList = (allOf (s.data.toList.drop (p + k))).over (xs ++ [n]) := by
          rw [HA.out, hst]
          dsimp only
          rw [over_push, List.drop_drop]
        have HL := Lib.hid hal
        clear hx hst hne hal
        go_wp2_with fail
        refine HN.mono ?_
        rintro e w1 ⟨rfl, hb1, hB1⟩
        have hlw : d < wr.heap.size := cell_lt hx1
        have hw1 : Below d w w1 := hbe.trans (hb1.below (Nat.le_refl _) (Nat.le_of_lt hlw))
        have hown1 := own_besides hown hb1 (by omega)
        have hlw1 : d < w1.heap.size := Nat.lt_of_lt_of_le hlw hb1.size
        have hy2 := hB1.cell 2
        have hf2 := hB1.frozen 2
        simp only [List.getElem?_toArray, List.getElem?_cons_zero, List.getElem?_cons_succ] at hy2
        clear hx1 hx2 hb1 hbe hown
        generalize hnv : (n : Int) = nv at *
        have HNV := Lib.hid hnv
        clear hnv
        go_wp2_with (at_builtin; refine wpList_append_lies _ rfl _ _ _ rfl (d + 1) 3 i0 (.int .i64 0) 1 8 Tryd.underlying31 hi0 hz0 hz1 hz2 rfl (by omega) _ xs.length _ rfl (hown1.alloc _) ⟨w1.heap.size, 0, none⟩ 1 1 [.int .i64 nv] rfl rfl (new_one _ _ _) (fun u hu => by rw [List.mem_singleton.1 hu]; rfl) (by omega) (by unfold maxLen; omega) (by omega) (by simp; omega) _ rfl ?_; intro g' cap w3 hown3 hgrow hat hlt3; have hB3 := (hB1.alloc (.cells #[.int .i64 nv] 3)).kept (hgrow.block d (by simp; omega) (fun e => by have := (hown1.lt _ e.symm).1; omega)); have hy3 := hB3.cell 2; have hf3 := hB3.frozen 2; simp only [List.getElem?_toArray, List.getElem?_cons_zero, List.getElem?_cons_succ] at hy3)
        have hw3 : Below d w w3 := below_append (hw1.alloc (by omega) _) (hown1.alloc _) (by omega) (by have := HD.out; omega) hgrow
        have hB4 := hB3.set_ 2 (.slice (some ⟨g', 0, none⟩) (xs.length + 1) cap)
        simp only [List.setIfInBounds_toArray, List.set_cons_succ, List.set_cons_zero] at hB4
        have hown4 : (w3.setCell ⟨d, 2, none⟩ (.slice (some ⟨g', 0, none⟩) (xs.length + 1) cap)).ownsRow (d + 1) 3 1 (.slice (some ⟨g', 0, none⟩) (xs.length + 1) cap) (xs.length + 1) (cellsI xs ++ [.int .i64 nv]) := own_besides hown3 ((Besides.refl d w3).set_ 2 _) (by omega)
        have hw4 : Below d w (w3.setCell ⟨d, 2, none⟩ (.slice (some ⟨g', 0, none⟩) (xs.length + 1) cap)) := hw3.setCell (by simp) _
        generalize w3.setCell ⟨d, 2, none⟩ (.slice (some ⟨g', 0, none⟩) (xs.length + 1) cap) = w4 at *
        have hz1 := hB4.cell 1
        simp only [List.getElem?_toArray, List.getElem?_cons_zero, List.getElem?_cons_succ] at hz1
        have hrel : ∃ (p' : Nat) (xs' : List Nat) (out' : Value), p' ≤ s.size ∧ xs'.length ≤ p' ∧ allOf s.data.toList = (allOf (s.data.toList.drop p')).over xs' ∧ Blk w4 d 52 #[.string s, .int .i64 (p' : Int), out'] ∧ w4.ownsRow (d + 1) 3 1 out' xs'.length (cellsI xs') ∧ Below d w w4 :=
          ⟨p + k, xs ++ [n], _, by omega, by simp; omega, HL.out, by rw [Int.natCast_add]; exact hB4, by rw [List.length_append, cellsI_snoc, HNV.out]; exact hown4, hw4⟩
        refine ⟨hrel, ?_⟩
        rw [hz1, hB.cell 1]
        simp [intOf]
        omega
    · have hq1 : ¬ (p : Int) < (s.size : Int) := by omega
      have hv : allV s = (xs, 0) := by
        unfold allV
        rw [HA.out, List.drop_of_length_le (by rw [list_size]; omega), allOf_nil]
        simp [AllR.over]
      have HV := Lib.hid hv
      clear hv
      go_wp2_with fail
      exact bodyPost_ret (results_tmp2 rfl _ _ _) rfl ⟨out, by rw [HV.out]; rfl, by rw [HV.out, HD.out]; exact own_base hown (by omega), by rw [HD.out]; exact hbe⟩

end Go.Proofs.YtcahfdhfdigjaaaDoor
