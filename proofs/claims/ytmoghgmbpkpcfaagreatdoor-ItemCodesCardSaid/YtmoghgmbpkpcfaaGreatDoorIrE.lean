/-
  Package postriderref04 (the document's answer for items): Same. Conditions: as the theorems' own hypotheses say.
-/
import Derived.Test.YtmoghgmbpkpcfaaGreatDoorIrC
namespace Go.Proofs.YtmoghgmbpkpcfaaGreatDoor
open Go.RowKit Go.Shelf

theorem sameL_drop {l m : List IN} {k : Nat} (h1 : k < l.length) (h2 : k < m.length) : IN.sameL (l.drop k) (m.drop k) = (l[k].same m[k] && IN.sameL (l.drop (k + 1)) (m.drop (k + 1))) := by
  rw [List.drop_eq_getElem_cons h1, List.drop_eq_getElem_cons h2, IN.sameL]
theorem same_mk (k n k' n' : Int) (s s' : ByteArray) (l m : List IN) : (IN.mk k n s l).same (.mk k' n' s' m) = (decide (k = k') && decide (n = n') && decide (s = s') && IN.sameL l m) := by rw [IN.same]
set_option maxRecDepth 100000 in
set_option maxHeartbeats 4000000 in
theorem rsame_no (k n k' n' : Int) (s s' : ByteArray) (a a' : Option Addr) (c c' : Nat) (l m : List TV) (w : World) (h : k ≠ k' ∨ n ≠ n' ∨ s ≠ s' ∨ l.length ≠ m.length) :
    Calls Tryz.prog 16 #[.agg #[.int .i64 k, .int .i64 n, .string s, .slice a l.length c], .agg #[.int .i64 k', .int .i64 n', .string s', .slice a' m.length c']] w (Ret (.bool false) w) := by
  have hX := (Blk.new_ w 24 #[.int .i64 k, .int .i64 n, .string s, .slice a l.length c]).alloc (.cells #[.int .i64 k', .int .i64 n', .string s', .slice a' m.length c'] 24)
  have hY := Blk.new_ (w.alloc (.cells #[.int .i64 k, .int .i64 n, .string s, .slice a l.length c] 24)) 24 #[.int .i64 k', .int .i64 n', .string s', .slice a' m.length c']
  have q0 := ext_alloc (ext_new w (.cells #[.int .i64 k, .int .i64 n, .string s, .slice a l.length c] 24)) (.cells #[.int .i64 k', .int .i64 n', .string s', .slice a' m.length c'] 24)
  simp only [World.size_alloc] at hY q0
  obtain ⟨x0, x1, x2, x3, -⟩ := hX.c4
  obtain ⟨x4, x5, x6, x7, -⟩ := hY.c4
  by_cases h1 : k = k'
  · subst h1
    by_cases h2 : n = n'
    · subst h2
      by_cases h3 : s = s'
      · subst h3
        have h4 : l.length ≠ m.length := by
          rcases h with h | h | h | h
          · exact absurd rfl h
          · exact absurd rfl h
          · exact absurd rfl h
          · exact h
        have h5 : ¬ ((l.length : Int) = (m.length : Int)) := by omega
        clear h
        go_enter Tryz.func16, Tryz.ntmps16
        go_wp2_with fail
        go_ret
        exact ⟨rfl, q0⟩
      · clear h
        have e4 : ¬ s.toList = s'.toList := fun e => h3 (ByteArray.ext (Array.toList_inj.1 (by rw [← toL, ← toL, e])))
        have e5 : (s.toList == s'.toList) = false := by simpa using e4
        go_enter Tryz.func16, Tryz.ntmps16
        go_wp2_with fail
        go_ret
        exact ⟨rfl, q0⟩
    · clear h
      go_enter Tryz.func16, Tryz.ntmps16
      go_wp2_with fail
      go_ret
      exact ⟨rfl, q0⟩
  · clear h
    go_enter Tryz.func16, Tryz.ntmps16
    go_wp2_with fail
    go_ret
    exact ⟨rfl, q0⟩

def RSameAt (x : TV) : Prop := ∀ (y : TV) (w : World), ItAt w.heap.size w x → ItAt w.heap.size w y → Calls Tryz.prog 16 #[x.val, y.val] w (Ret (.bool (x.item.same y.item)) w)
set_option maxRecDepth 100000 in
set_option maxHeartbeats 4000000 in
theorem rsame_go (k n : Int) (s : ByteArray) (a a' : Option Addr) (c c' : Nat) (l m : List TV) (w : World) (hl : l.length ≤ 62) (hlm : m.length = l.length) (hr : RowT w w.heap.size a l) (hk : ∀ x ∈ l, ItAt w.heap.size w x) (hr' : RowT w w.heap.size a' m) (hk' : ∀ x ∈ m, ItAt w.heap.size w x) (ih : ∀ x ∈ l, RSameAt x) :
    Calls Tryz.prog 16 #[.agg #[.int .i64 k, .int .i64 n, .string s, .slice a l.length c], .agg #[.int .i64 k, .int .i64 n, .string s, .slice a' l.length c']] w (Ret (.bool (IN.sameL (TV.items l) (TV.items m))) w) := by
  have hX := (Blk.new_ w 24 #[.int .i64 k, .int .i64 n, .string s, .slice a l.length c]).alloc (.cells #[.int .i64 k, .int .i64 n, .string s, .slice a' l.length c'] 24)
  have hY := Blk.new_ (w.alloc (.cells #[.int .i64 k, .int .i64 n, .string s, .slice a l.length c] 24)) 24 #[.int .i64 k, .int .i64 n, .string s, .slice a' l.length c']
  have q0 := ext_alloc (ext_new w (.cells #[.int .i64 k, .int .i64 n, .string s, .slice a l.length c] 24)) (.cells #[.int .i64 k, .int .i64 n, .string s, .slice a' l.length c'] 24)
  simp only [World.size_alloc] at hY q0
  obtain ⟨x0, x1, x2, x3, -⟩ := hX.c4
  obtain ⟨x4, x5, x6, x7, -⟩ := hY.c4
  generalize hits : TV.items l = its
  generalize hjts : TV.items m = jts
  have hil : its.length = l.length := by rw [← hits, items_length]
  have hjl : jts.length = l.length := by rw [← hjts, items_length, hlm]
  have HIT := Lib.hid hits
  have HJT := Lib.hid hjts
  have HIL := Lib.hid hil
  have HJL := Lib.hid hjl
  have HK := Lib.hid hk
  have HK2 := Lib.hid hk'
  have HR := Lib.hid hr
  have HR2 := Lib.hid hr'
  have IH := Lib.hid ih
  have HLM := Lib.hid hlm
  clear hits hjts hil hjl hk hk' hr hr' ih hlm
  go_enter Tryz.func16, Tryz.ntmps16
  go_wp2_with fail
  go_loopw [5] (fun i wr => ∃ k0 : Nat, k0 ≤ l.length ∧ i = .int .i64 (k0 : Int) ∧ IN.sameL its jts = IN.sameL (its.drop k0) (jts.drop k0) ∧ Blk wr w.heap.size 24 #[.int .i64 k, .int .i64 n, .string s, .slice a l.length c] ∧ Blk wr (w.heap.size + 1) 24 #[.int .i64 k, .int .i64 n, .string s, .slice a' l.length c'] ∧ Below w.heap.size w wr) (fun i _ => l.length - (intOf i).toNat)
  case atStart => exact ⟨0, Nat.zero_le _, rfl, by rw [List.drop_zero, List.drop_zero], hX, hY, q0⟩
  case round =>
    clear x0 x1 x2 x3 x4 x5 x6 x7
    obtain ⟨k0, hk0, rfl, hs, hX, hY, hb⟩ := hrel
    have HS := Lib.hid hs
    clear hs
    by_cases hlt : k0 < l.length
    · have hlt2 : k0 < m.length := by rw [HLM.out]; exact hlt
      obtain ⟨ad, had, hblk, hcells⟩ := HR.out (by omega)
      obtain ⟨ad2, had2, hblk2, hcells2⟩ := HR2.out (by omega)
      have HX := Lib.hid (fun (V : World) (hV : Below wr.heap.size wr V) => (show V.cell? (ad.add (k0 * 4)) = some (.int .i64 l[k0].kind) ∧ V.cell? ⟨(ad.add (k0 * 4)).block, (ad.add (k0 * 4)).off + 1, none⟩ = some (.int .i64 l[k0].num) ∧ V.cell? ⟨(ad.add (k0 * 4)).block, (ad.add (k0 * 4)).off + 2, none⟩ = some (.string l[k0].txt) ∧ V.cell? ⟨(ad.add (k0 * 4)).block, (ad.add (k0 * 4)).off + 3, none⟩ = some l[k0].row from by
        obtain ⟨z0, z1, z2, z3⟩ := hcells k0 hlt
        have hB := hb.trans (hV.mono hb.size)
        have hlb : (ad.add (k0 * 4)).block < w.heap.size := by rw [ad_blk]; exact hblk
        exact ⟨(hB.cell hlb).trans z0, (hB.cell (by exact hlb)).trans z1, (hB.cell (by exact hlb)).trans z2, (hB.cell (by exact hlb)).trans z3⟩))
      have HY := Lib.hid (fun (V : World) (hV : Below wr.heap.size wr V) => (show V.cell? (ad2.add (k0 * 4)) = some (.int .i64 m[k0].kind) ∧ V.cell? ⟨(ad2.add (k0 * 4)).block, (ad2.add (k0 * 4)).off + 1, none⟩ = some (.int .i64 m[k0].num) ∧ V.cell? ⟨(ad2.add (k0 * 4)).block, (ad2.add (k0 * 4)).off + 2, none⟩ = some (.string m[k0].txt) ∧ V.cell? ⟨(ad2.add (k0 * 4)).block, (ad2.add (k0 * 4)).off + 3, none⟩ = some m[k0].row from by
        obtain ⟨z0, z1, z2, z3⟩ := hcells2 k0 hlt2
        have hB := hb.trans (hV.mono hb.size)
        have hlb : (ad2.add (k0 * 4)).block < w.heap.size := by rw [ad_blk]; exact hblk2
        exact ⟨(hB.cell hlb).trans z0, (hB.cell (by exact hlb)).trans z1, (hB.cell (by exact hlb)).trans z2, (hB.cell (by exact hlb)).trans z3⟩))
      have hmem := List.getElem_mem hlt
      have hmem2 := List.getElem_mem hlt2
      have HC := Lib.hid (fun (V : World) (hV : Below wr.heap.size wr V) => (IH.out _ hmem m[k0] V ((HK.out _ hmem).later (hb.trans (hV.mono hb.size)) (by have := hb.size; have := hV.size; omega)) ((HK2.out _ hmem2).later (hb.trans (hV.mono hb.size)) (by have := hb.size; have := hV.size; omega))))
      have hsd := sameL_drop (l := its) (m := jts) (k := k0) (by rw [HIL.out]; exact hlt) (by rw [HJL.out]; exact hlt)
      have hgk : its[k0]'(by rw [HIL.out]; exact hlt) = l[k0].item := by
        have h1 := HIT.out
        subst h1
        simp only [items_map, List.getElem_map]
      have hgj : jts[k0]'(by rw [HJL.out]; exact hlt) = m[k0].item := by
        have h1 := HJT.out
        subst h1
        simp only [items_map, List.getElem_map]
      rw [hgk, hgj] at hsd
      have hs1 := hX.lt
      have hs2 := hY.lt
      rw [had] at hX
      rw [had2] at hY
      have HA1 := Lib.hid had
      have HA2 := Lib.hid had2
      have x3 := hX.c4.2.2.2.1
      have x7 := hY.c4.2.2.2.1
      have j0 : (0 : Int) ≤ (k0 : Int) := by omega
      have j1 : (k0 : Int) < (l.length : Int) := by omega
      unfold TV.row at HX HY
      unfold TV.val TV.row at HC
      clear hcells hcells2 hmem hmem2 hgk hgj had had2
      generalize l[k0] = p at *
      generalize m[k0] = q at *
      generalize p.item.same q.item = bb at *
      have HT := Lib.hid (show bb = true → IN.sameL (its.drop k0) (jts.drop k0) = IN.sameL (its.drop (k0 + 1)) (jts.drop (k0 + 1)) from fun e => by rw [hsd, e]; rfl)
      have HF := Lib.hid (show bb = false → IN.sameL (its.drop k0) (jts.drop k0) = false from fun e => by rw [hsd, e]; rfl)
      clear hsd hlt2
      go_wp2_with fail
      refine wp_region_held_drew (S := (Below wr.heap.size wr)) (by kernel_rfl) (Below.refl wr.heap.size wr).drew (fun hHeld => ?_)
      refine wpAnyH_take (i := 0) (v := ?_) rfl (by kernel_rfl) (by kernel_rfl) (by kernel_rfl) (fun _ _ _ h => h) (Or.inl ⟨by kernel_rfl, ?_⟩) (by assumption) ?_
      rotate_left
      · intro wx hSx
        go_simp
        try with_reducible rfl
      try simp only [Act.put]
      try simp only [List.setIfInBounds_toArray]
      try simp only [List.set_cons_succ]
      try simp only [List.set_cons_zero]
      refine wpAnyH_take (i := 1) (v := ?_) rfl (by kernel_rfl) (by kernel_rfl) (by kernel_rfl) (fun _ _ _ h => h) (Or.inl ⟨by kernel_rfl, ?_⟩) (by assumption) ?_
      rotate_left
      · intro wx hSx
        have y3 := hSx.cell (p := ⟨w.heap.size, 3, none⟩) (by omega)
        have y7 := hSx.cell (p := ⟨w.heap.size + 1, 3, none⟩) (by omega)
        rw [x3] at y3
        rw [x7] at y7
        obtain ⟨g0, g1, g2, g3⟩ := HX.out _ hSx
        obtain ⟨g4, g5, g6, g7⟩ := HY.out _ hSx
        go_simp
        try with_reducible rfl
      try simp only [Act.put]
      try simp only [List.setIfInBounds_toArray]
      try simp only [List.set_cons_succ]
      try simp only [List.set_cons_zero]
      refine wpAnyH_take (i := 2) (v := ?_) rfl (by kernel_rfl) (by kernel_rfl) (by kernel_rfl) (fun _ _ _ h => h) (Or.inl ⟨by kernel_rfl, ?_⟩) (by assumption) ?_
      rotate_left
      · intro wx hSx
        go_simp
        try with_reducible rfl
      try simp only [Act.put]
      try simp only [List.setIfInBounds_toArray]
      try simp only [List.set_cons_succ]
      try simp only [List.set_cons_zero]
      refine wpAnyH_take (i := 3) (v := ?_) rfl (by kernel_rfl) (by kernel_rfl) (by kernel_rfl) (fun _ _ _ h => h) (Or.inl ⟨by kernel_rfl, ?_⟩) (by assumption) ?_
      rotate_left
      · intro wx hSx
        go_simp
        try with_reducible rfl
      try simp only [Act.put]
      try simp only [List.setIfInBounds_toArray]
      try simp only [List.set_cons_succ]
      try simp only [List.set_cons_zero]
      refine wpAnyH_take (i := 4) (v := ?_) rfl (by kernel_rfl) (by kernel_rfl) (by kernel_rfl) (fun _ _ _ h => h) (Or.inl ⟨by kernel_rfl, ?_⟩) (by assumption) ?_
      rotate_left
      · intro wx hSx
        have y3 := hSx.cell (p := ⟨w.heap.size, 3, none⟩) (by omega)
        have y7 := hSx.cell (p := ⟨w.heap.size + 1, 3, none⟩) (by omega)
        rw [x3] at y3
        rw [x7] at y7
        obtain ⟨g0, g1, g2, g3⟩ := HX.out _ hSx
        obtain ⟨g4, g5, g6, g7⟩ := HY.out _ hSx
        go_simp
        try with_reducible rfl
      try simp only [Act.put]
      try simp only [List.setIfInBounds_toArray]
      try simp only [List.set_cons_succ]
      try simp only [List.set_cons_zero]
      refine wpAnyH_take (i := 5) (v := ?_) rfl (by kernel_rfl) (by kernel_rfl) (by kernel_rfl) (fun _ _ _ h => h) (Or.inl ⟨by kernel_rfl, ?_⟩) (by assumption) ?_
      rotate_left
      · intro wx hSx
        go_simp
        try with_reducible rfl
      try simp only [Act.put]
      try simp only [List.setIfInBounds_toArray]
      try simp only [List.set_cons_succ]
      try simp only [List.set_cons_zero]
      refine wpAnyH_take (i := 6) (v := ?_) rfl (by kernel_rfl) (by kernel_rfl) (by kernel_rfl) (fun _ _ _ h => h) (Or.inl ⟨by kernel_rfl, ?_⟩) (by assumption) ?_
      rotate_left
      · intro wx hSx
        have y3 := hSx.cell (p := ⟨w.heap.size, 3, none⟩) (by omega)
        have y7 := hSx.cell (p := ⟨w.heap.size + 1, 3, none⟩) (by omega)
        rw [x3] at y3
        rw [x7] at y7
        obtain ⟨g0, g1, g2, g3⟩ := HX.out _ hSx
        obtain ⟨g4, g5, g6, g7⟩ := HY.out _ hSx
        go_simp
        try with_reducible rfl
      try simp only [Act.put]
      try simp only [List.setIfInBounds_toArray]
      try simp only [List.set_cons_succ]
      try simp only [List.set_cons_zero]
      refine wpAnyH_take (i := 7) (v := ?_) rfl (by kernel_rfl) (by kernel_rfl) (by kernel_rfl) (fun _ _ _ h => h) (Or.inl ⟨by kernel_rfl, ?_⟩) (by assumption) ?_
      rotate_left
      · intro wx hSx
        go_simp
        try with_reducible rfl
      try simp only [Act.put]
      try simp only [List.setIfInBounds_toArray]
      try simp only [List.set_cons_succ]
      try simp only [List.set_cons_zero]
      refine wpAnyH_take (i := 8) (v := ?_) rfl (by kernel_rfl) (by kernel_rfl) (by kernel_rfl) (fun _ _ _ h => h) (Or.inl ⟨by kernel_rfl, ?_⟩) (by assumption) ?_
      rotate_left
      · intro wx hSx
        go_simp
        try with_reducible rfl
      try simp only [Act.put]
      try simp only [List.setIfInBounds_toArray]
      try simp only [List.set_cons_succ]
      try simp only [List.set_cons_zero]
      refine wpAnyH_take (i := 9) (v := ?_) rfl (by kernel_rfl) (by kernel_rfl) (by kernel_rfl) (fun _ _ _ h => h) (Or.inl ⟨by kernel_rfl, ?_⟩) (by assumption) ?_
      rotate_left
      · intro wx hSx
        have y3 := hSx.cell (p := ⟨w.heap.size, 3, none⟩) (by omega)
        have y7 := hSx.cell (p := ⟨w.heap.size + 1, 3, none⟩) (by omega)
        rw [x3] at y3
        rw [x7] at y7
        obtain ⟨g0, g1, g2, g3⟩ := HX.out _ hSx
        obtain ⟨g4, g5, g6, g7⟩ := HY.out _ hSx
        go_simp
        try with_reducible rfl
      try simp only [Act.put]
      try simp only [List.setIfInBounds_toArray]
      try simp only [List.set_cons_succ]
      try simp only [List.set_cons_zero]
      refine wpAnyH_ready (rs := [10]) (by kernel_rfl) (by simp) ?_
      refine AllReadyH.cons rfl (fun K hK => ?_) AllReadyH.nil
      go_simp
      with_reducible refine (HC.out _ hHeld).mono ?_
      rintro e w3 ⟨rfl, hb3⟩
      try go_wp2_with fail
      refine hK.out _ _ (hHeld.trans (hb3.mono (by have := hHeld.size; omega))) (fun hHeld => ?_)
      clear hK K
      try simp only [Act.put]
      try simp only [List.setIfInBounds_toArray]
      try simp only [List.set_cons_succ]
      try simp only [List.set_cons_zero]
      refine wpAnyH_take (i := 11) (v := ?_) rfl (by kernel_rfl) (by kernel_rfl) (by kernel_rfl) (fun _ _ _ h => h) (Or.inl ⟨by kernel_rfl, ?_⟩) (by assumption) ?_
      rotate_left
      · intro wx hSx
        go_simp
        try with_reducible rfl
      try simp only [Act.put]
      try simp only [List.setIfInBounds_toArray]
      try simp only [List.set_cons_succ]
      try simp only [List.set_cons_zero]
      refine wpAnyH_done (by kernel_rfl) ?_ _
      have hXe := hX.below hHeld
      have hYe := hY.below hHeld
      have hbe := hb.trans (hHeld.mono hb.size)
      cases bb with
      | true =>
        go_wp2_with fail
        go_roundw
        case rel => exact ⟨k0 + 1, by omega, by go_num, by rw [HS.out]; exact HT.out (by first | trivial | rfl), by rw [HA1.out]; exact hXe, by rw [HA2.out]; exact hYe, hbe⟩
        case measure => simp [intOf]; omega
      | false =>
        go_wp2_with fail
        go_ret
        exact ⟨by rw [HS.out, HF.out (by first | trivial | rfl)]; rfl, hbe⟩
    · obtain rfl : k0 = l.length := by omega
      have h1 : IN.sameL its jts = true := by
        rw [HS.out, List.drop_eq_nil_of_le (by rw [HIL.out]; exact Nat.le_refl _), List.drop_eq_nil_of_le (by rw [HJL.out]; exact Nat.le_refl _)]
        rfl
      have HR3 := Lib.hid h1
      clear h1
      have j1 : ¬ ((l.length : Int) < (l.length : Int)) := by omega
      have x3 := hX.c4.2.2.2.1
      go_wp2_with fail
      go_ret
      exact ⟨by rw [HR3.out]; rfl, hb⟩

theorem rSame_tree (x : TV) : ∀ h, Fits h x → RSameAt x := by
  induction x using TV.ind with
  | h k n s a c l ih =>
    intro h hf y w hx hy
    obtain ⟨h', rfl⟩ := hf.pos
    obtain ⟨hl, hs, hk⟩ := hf.kid
    have hl : l.length ≤ 62 := hl
    have hk : ∀ x ∈ l, Fits h' x := hk
    obtain ⟨k', n', s', a', c', m⟩ := y
    have e1 := items_length l
    have e2 := items_length m
    by_cases hd : k = k' ∧ n = n' ∧ s = s' ∧ m.length = l.length
    · obtain ⟨rfl, rfl, rfl, hlm⟩ := hd
      have e : (TV.mk k n s a c l).item.same (TV.mk k n s a' c' m).item = IN.sameL (TV.items l) (TV.items m) := by
        rw [TV.item, TV.item, same_mk, decide_eq_true rfl, decide_eq_true rfl, decide_eq_true rfl]
        rfl
      rw [e]
      have := rsame_go k n s a a' c c' l m w hl hlm hx.row hx.kid hy.row hy.kid fun x hx => ih x hx h' (hk x hx)
      have e3 : (TV.mk k n s a' c' m).val = .agg #[.int .i64 k, .int .i64 n, .string s, .slice a' l.length c'] := by rw [← hlm]; rfl
      rw [e3]
      exact this
    · have e : (TV.mk k n s a c l).item.same (TV.mk k' n' s' a' c' m).item = false := by
        rw [Bool.eq_false_iff]
        intro q
        rw [IN.same_iff, TV.item, TV.item, IN.mk.injEq] at q
        exact hd ⟨q.1, q.2.1, q.2.2.1, by rw [← e1, ← e2, q.2.2.2]⟩
      rw [e]
      refine rsame_no k n k' n' s s' a a' c c' l m w ?_
      by_cases h1 : k = k'
      · by_cases h2 : n = n'
        · by_cases h3 : s = s'
          · exact .inr (.inr (.inr fun e => hd ⟨h1, h2, h3, e.symm⟩))
          · exact .inr (.inr (.inl h3))
        · exact .inr (.inl h2)
      · exact .inl h1
end Go.Proofs.YtmoghgmbpkpcfaaGreatDoor
