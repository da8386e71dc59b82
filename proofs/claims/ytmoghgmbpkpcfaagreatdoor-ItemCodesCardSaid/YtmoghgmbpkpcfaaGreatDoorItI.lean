/-
  Package item: are two items the same (Same)? Conditions: as the theorems' own hypotheses say.
-/
import Derived.Test.YtmoghgmbpkpcfaaGreatDoorMgF
namespace Go.Proofs.YtmoghgmbpkpcfaaGreatDoor
open Go.RowKit Go.Shelf

theorem same_false {l m : List TV} {k : Nat} (h1 : k < l.length) (h2 : k < m.length) (h : (l[k].item.same m[k].item) = false) : IN.sameL (TV.items l) (TV.items m) = false := by
  rw [Bool.eq_false_iff]
  intro q
  have e := (sameL_iff _ (fun x _ y => x.same_iff y) _).1 q
  rw [items_map, items_map] at e
  have e2 : (l.map TV.item)[k]? = (m.map TV.item)[k]? := by rw [e]
  rw [List.getElem?_map, List.getElem?_map, List.getElem?_eq_getElem h1, List.getElem?_eq_getElem h2] at e2
  injection e2 with e2
  rw [(IN.same_iff _ _).2 e2] at h
  cases h
theorem same_true {l m : List TV} (h1 : l.length = m.length) (h : ∀ (k : Nat) (a : k < l.length) (b : k < m.length), (l[k].item.same m[k].item) = true) : IN.sameL (TV.items l) (TV.items m) = true := by
  rw [sameL_iff _ (fun x _ y => x.same_iff y), items_map, items_map]
  apply List.ext_getElem
  · rw [List.length_map, List.length_map, h1]
  · intro i a b
    rw [List.length_map] at a b
    rw [List.getElem_map, List.getElem_map]
    exact (IN.same_iff _ _).1 (h i a b)

/-- Same at two items, as a contract. -/
def SameAt (x y : TV) : Prop := ∀ w : World, ItAt w.heap.size w x → ItAt w.heap.size w y → Calls Tryz.prog 15 #[x.val, y.val] w (Ret (.bool (x.item.same y.item)) w)

set_option maxRecDepth 100000 in
set_option maxHeartbeats 2000000 in
theorem equal_any (l m : List TV) (a a' : Option Addr) (c c' : Nat) (w : World) (hl : l.length ≤ 1000000) (hm : m.length ≤ 1000000) (h1 : RowT w w.heap.size a l) (h2 : RowT w w.heap.size a' m)
    (hk1 : ∀ x ∈ l, ItAt w.heap.size w x) (hk2 : ∀ x ∈ m, ItAt w.heap.size w x) (hs : ∀ x ∈ l, ∀ y ∈ m, SameAt x y) :
    Calls Tryz.prog 29 #[.slice a l.length c, .slice a' m.length c', .func (.func 15) #[] #[]] w (Ret (.bool (IN.sameL (TV.items l) (TV.items m))) w) := by
  by_cases hlm : l.length = m.length
  · have H1 := Lib.hid h1
    have H2 := Lib.hid h2
    have HK1 := Lib.hid hk1
    have HK2 := Lib.hid hk2
    have HS := Lib.hid hs
    have HT := fun q => same_true hlm q
    have HF := fun k a b q => same_false (l := l) (m := m) (k := k) a b q
    have HLM := Lib.hid hlm
    have HT := Lib.hid HT
    have HF := Lib.hid HF
    rw [← hlm]
    clear h1 h2 hk1 hk2 hs hlm
    go_enter Tryz.func29, Tryz.ntmps29
    go_wp2_with fail
    go_loopw [17] (fun i wr => ∃ k : Nat, k ≤ l.length ∧ i = .int .i64 (k : Int) ∧ (∀ (j : Nat) (_ : j < k) (b : j < l.length) (d : j < m.length), (l[j].item.same m[j].item) = true) ∧ Below w.heap.size w wr) (fun i _ => l.length - (intOf i).toNat)
    case atStart => exact ⟨0, by omega, rfl, fun j hj => by omega, ext_refl _⟩
    case round =>
      obtain ⟨k, hk, rfl, hall, hbe⟩ := hrel
      have HA := Lib.hid hall
      clear hall
      by_cases hlt : k < l.length
      · have hlt2 : k < m.length := by have := HLM.out; omega
        obtain ⟨ad, rfl, ab, ac⟩ := H1.out (by omega)
        obtain ⟨ad', rfl, ab', ac'⟩ := H2.out (by omega)
        obtain ⟨g1, g2, g3, g4⟩ := ac k hlt
        obtain ⟨g1', g2', g3', g4'⟩ := ac' k hlt2
        have la : (ad.add (k * 4)).block < w.heap.size := by rw [ad_blk]; exact ab
        have la' : (ad'.add (k * 4)).block < w.heap.size := by rw [ad_blk]; exact ab'
        have x1 := (hbe.cell la).trans g1
        have x2 := (hbe.cell (by exact la)).trans g2
        have x3 := (hbe.cell (by exact la)).trans g3
        have x4 := (hbe.cell (by exact la)).trans g4
        have y1 := (hbe.cell la').trans g1'
        have y2 := (hbe.cell (by exact la')).trans g2'
        have y3 := (hbe.cell (by exact la')).trans g3'
        have y4 := (hbe.cell (by exact la')).trans g4'
        have hSS := HS.out l[k] (List.getElem_mem hlt) m[k] (List.getElem_mem hlt2)
        have hi1 := HK1.out l[k] (List.getElem_mem hlt)
        have hi2 := HK2.out m[k] (List.getElem_mem hlt2)
        have HFk := HF.out k hlt hlt2
        have i1 : (0 : Int) ≤ (k : Int) := by omega
        have i2 : (k : Int) < (l.length : Int) := by omega
        unfold SameAt TV.val TV.row at hSS
        unfold TV.row at x4 y4
        have HA2 : ∀ q : l[k].item.same m[k].item = true, ∀ (j : Nat) (_ : j < k + 1) (b : j < l.length) (d : j < m.length), (l[j].item.same m[j].item) = true := fun q j hj b d => by
          by_cases e : j = k
          · subst e; exact q
          · exact HA.out j (by omega) b d
        clear g1 g2 g3 g4 g1' g2' g3' g4' ac ac'
        generalize l[k] = X at *
        generalize m[k] = Y at *
        have HA3 := Lib.hid HA2
        have HF3 := Lib.hid HFk
        have HS3 := Lib.hid hSS
        have lw := Nat.lt_of_lt_of_le la' hbe.size
        have hA := ext_new wr (.cells #[.int .i64 X.kind, .int .i64 X.num, .string X.txt, .slice X.at_ X.kids.length X.cap] 24)
        have y1' := (hA.cell lw).trans y1
        have y2' := (hA.cell (by exact lw)).trans y2
        have y3' := (hA.cell (by exact lw)).trans y3
        have y4' := (hA.cell (by exact lw)).trans y4
        have hw2 : Below w.heap.size w ((wr.alloc (.cells #[.int .i64 X.kind, .int .i64 X.num, .string X.txt, .slice X.at_ X.kids.length X.cap] 24)).alloc (.cells #[.int .i64 Y.kind, .int .i64 Y.num, .string Y.txt, .slice Y.at_ Y.kids.length Y.cap] 24)) := (hbe.alloc hbe.size _).alloc (by have := hbe.size; simp; omega) _
        clear HA2 HFk hSS hA
        generalize hqb : X.item.same Y.item = q at *
        cases q with
        | true =>
          go_wp2_with fail
          refine (HS3.out _ (hi1.later hw2 hw2.size) (hi2.later hw2 hw2.size)).mono ?_
          rintro e w6 ⟨rfl, hb6⟩
          go_wp2_with fail
          go_roundw
          case rel => exact ⟨k + 1, by omega, by go_num, HA3.out (by first | trivial | rfl), hw2.trans (hb6.mono hw2.size)⟩
          case measure => simp [intOf]; omega
        | false =>
          rw [HF3.out rfl]
          go_wp2_with fail
          refine (HS3.out _ (hi1.later hw2 hw2.size) (hi2.later hw2 hw2.size)).mono ?_
          rintro e w6 ⟨rfl, hb6⟩
          go_wp2_with fail
          go_ret
          exact ⟨rfl, hw2.trans (hb6.mono hw2.size)⟩
      · obtain rfl : k = l.length := by omega
        have ht := HT.out fun j b d => HA.out j b b d
        have i2 : ¬ (l.length : Int) < (l.length : Int) := by omega
        go_wp2_with fail
        go_ret
        exact ⟨rfl, hbe⟩
  · have hne : IN.sameL (TV.items l) (TV.items m) = false := sameL_length (by rw [items_length, items_length]; exact hlm)
    rw [hne]
    have h3 : ¬ (l.length : Int) = (m.length : Int) := by omega
    have h4 : ((l.length : Int) != (m.length : Int)) = true := bne_iff_ne.2 h3
    clear h1 h2 hk1 hk2 hs hne
    go_enter Tryz.func29, Tryz.ntmps29
    go_wp2_with fail
    go_ret
    exact ⟨rfl, ext_refl _⟩

/-- A height that bounds an item's lists. -/
theorem fits_mem {h : Nat} {x y : TV} (hx : Fits h x) (hy : y ∈ x.kids) : Fits h y := by
  obtain ⟨h', rfl⟩ := hx.pos
  exact (hx.kid.2.2 y hy).mono

set_option maxRecDepth 100000 in
set_option maxHeartbeats 2000000 in
theorem same_any (x : TV) : ∀ (hh : Nat) (_ : Fits hh x) (y : TV) (gg : Nat) (_ : Fits gg y), SameAt x y := by
  induction x using TV.ind with
  | h k n s a c l ih =>
    intro hh hx y gg hy w hax hay
    obtain ⟨hh', rfl⟩ := hx.pos
    obtain ⟨l62, -, lk⟩ := hx.kid
    obtain ⟨k', n', s', a', c', m⟩ := y
    obtain ⟨gg', rfl⟩ := hy.pos
    obtain ⟨m62, -, mk⟩ := hy.kid
    have l62 : l.length ≤ 62 := l62
    have m62 : m.length ≤ 62 := m62
    have hb : Below w.heap.size w ((w.alloc (.cells #[.int .i64 k, .int .i64 n, .string s, .slice a l.length c] 24)).alloc (.cells #[.int .i64 k', .int .i64 n', .string s', .slice a' m.length c'] 24)) := ext_alloc (ext_new w _) _
    have hE := fun W (q : Below w.heap.size w W) => equal_any l m a a' c c' W (by omega) (by omega) (hax.row.below q q.size) (hay.row.below q q.size) (fun x hx => (hax.kid x hx).later q q.size) (fun x hx => (hay.kid x hx).later q q.size)
      (fun x hx y hy => ih x hx hh' (lk x hx) y gg' (mk y hy))
    have hE := hE _ hb
    rw [TV.item, TV.item, IN.same]
    show Calls _ _ #[.agg #[.int .i64 k, .int .i64 n, .string s, .slice a l.length c], .agg #[.int .i64 k', .int .i64 n', .string s', .slice a' m.length c']] w _
    generalize IN.sameL (TV.items l) (TV.items m) = q at *
    clear ih hax hay hx hy lk mk
    by_cases e1 : k = k'
    · subst e1
      by_cases e2 : n = n'
      · subst e2
        by_cases e3 : s = s'
        · subst e3
          go_enter Tryz.func15, Tryz.ntmps15
          go_wp2_with fail
          refine hE.mono ?_
          rintro e w6 ⟨rfl, hb6⟩
          go_wp2_with fail
          go_ret
          exact ⟨by simp, hb.trans (hb6.mono hb.size)⟩
        · rw [decide_eq_false e3, Bool.and_false, Bool.false_and]
          have e4 : ¬ s.toList = s'.toList := fun e => e3 (ByteArray.ext (Array.toList_inj.1 (by rw [← toL, ← toL, e])))
          have e5 : (s.toList == s'.toList) = false := by simpa using e4
          go_enter Tryz.func15, Tryz.ntmps15
          go_wp2_with fail
          go_ret
          exact ⟨rfl, hb⟩
      · rw [decide_eq_false e2, Bool.and_false, Bool.false_and, Bool.false_and]
        have e5 : (n == n') = false := by simpa using e2
        go_enter Tryz.func15, Tryz.ntmps15
        go_wp2_with fail
        go_ret
        exact ⟨rfl, hb⟩
    · rw [decide_eq_false e1, Bool.false_and, Bool.false_and, Bool.false_and]
      have e5 : (k == k') = false := by simpa using e1
      go_enter Tryz.func15, Tryz.ntmps15
      go_wp2_with fail
      go_ret
      exact ⟨rfl, hb⟩

end Go.Proofs.YtmoghgmbpkpcfaaGreatDoor
