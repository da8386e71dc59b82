/-
  A queue's state in memory: add. Conditions: as the theorem's own hypotheses say.
-/
import Derived.Test.YtmebjdbkngehiaaGreatDoorQhA
namespace Go.Proofs.YtmebjdbkngehiaaGreatDoor
open Go.RowKit

theorem infoQI : (Tryz.prog.info? 3).map (fun i => (i.zero, i.size, i.bytes)) = some (some (.int .i64 0), 1, 8) := by kernel_rfl
theorem infoQS : (Tryz.prog.info? 9).map (fun i => (i.zero, i.size, i.bytes)) = some (some (.string ByteArray.empty), 1, 16) := by kernel_rfl
theorem Blk.news {w : World} {g : Nat} {t : TypeId} {cs : Array Value} (_h : Blk w g t cs) (T : TypeId) (ds : Array Value) : Blk (w.alloc (.cells ds T)) w.heap.size T ds := Blk.new_ w T ds
theorem Blk.cells_ {w : World} {g : Nat} {t : TypeId} {ds : List Value} (h : Blk w g t ds.toArray) : ∀ j u, ds[j]? = some u → w.cell? ((⟨g, 0, none⟩ : Addr).add j) = some u := by
  intro j u hj
  have ha : (⟨g, 0, none⟩ : Addr).add j = ⟨g, j, none⟩ := by unfold Addr.add; split <;> simp
  rw [ha, h.cell j]
  simpa using hj
theorem grown_keep {W W' : World} {b sz szY szE n nY nE : Nat} {t T TY TE : TypeId} {cs : Array Value} {V VY VE : Value} {xs ys es : List Value} (hB : Blk W b t cs) (hX : W.ownsRow 0 T sz V n xs) (hY : W.ownsRow 0 TY szY VY nY ys) (hE : W.ownsRow 0 TE szE VE nE es) (hg : W.grownBy W' V.ownBlock)
    (h1 : t ≠ T := by decide) (h2 : TY ≠ T := by decide) (h3 : TE ≠ T := by decide) : Blk W' b t cs ∧ W'.ownsRow 0 TY szY VY nY ys ∧ W'.ownsRow 0 TE szE VE nE es :=
  ⟨hB.kept (hg.block _ hB.lt (own_type hX hB h1)), own_keep hY (fun _k hk => hg.block _ (own_lt hY hk) (own_two hY hX h2 hk)), own_keep hE (fun _k hk => hg.block _ (own_lt hE hk) (own_two hE hX h3 hk))⟩
theorem at_ids {w W : World} {c : QC} {A B : Option Addr} {n c1 c2 g : Nat} {ve : Value} (h : (Value.slice A n c1).ownBlock = some g ∨ g = W.heap.size) (hs : w.heap.size ≤ W.heap.size) : QF c ⟨.slice A n c1, .slice B n c2, ve⟩ g ∨ w.heap.size ≤ g :=
  h.elim (fun e => .inl (.inr <| .inl <| e.symm)) (fun e => .inr (by rw [e]; exact hs))
theorem at_txts {w W : World} {c : QC} {A B : Option Addr} {n c1 c2 g : Nat} {ve : Value} (h : (Value.slice B n c2).ownBlock = some g ∨ g = W.heap.size) (hs : w.heap.size ≤ W.heap.size) : QF c ⟨.slice A n c1, .slice B n c2, ve⟩ g ∨ w.heap.size ≤ g :=
  h.elim (fun e => .inl (.inr <| .inr <| .inl <| e.symm)) (fun e => .inr (by rw [e]; exact hs))
theorem app_ids {ops : Array Oper} {o : Oper} {a : Act} {K : Act → World → Prop} {Q : Exit → Act → World → Prop} {E : Prop} {w : World} {A : Option Addr} {n c1 g : Nat} {xs : List Value} {u : Value} (hgd : o.guard = none) (s x : Operand)
    (ho : o.op = .call { callee := .builtin .append, args := #[s, x], argTypes := #[104, 104] }) (hown : w.ownsRow 0 3 1 (.slice A n c1) n xs) (hN : Blk w g 3 #[u]) (hs : a.eval s = .slice A n c1) (hx : a.eval x = .slice (some ⟨g, 0, none⟩) 1 1) (hu : u.oneCell' = true) (hl : n ≤ 1000000)
    (h : ∀ g' cap w', w'.ownsRow 0 3 1 (.slice (some ⟨g', 0, none⟩) (n + 1) cap) (n + 1) (xs ++ [u]) → w.grownBy w' (Value.slice A n c1).ownBlock → ((Value.slice A n c1).ownBlock = some g' ∨ g' = w.heap.size) → g' < w'.heap.size → K (a.put o.dst (.slice (some ⟨g', 0, none⟩) (n + 1) cap)) w') :
    if Region.wanted o (yielded ops a.tmps) = true then Oper.wp Tryz.prog o a w K Q else E := by
  obtain ⟨i, hi, hz0, hz1, hz2⟩ := info_parts infoQI
  exact step_append_lies w hgd s x _ ho 0 3 i (.int .i64 0) 1 8 Tryz.underlying104 hi hz0 hz1 hz2 rfl (by omega) (.slice A n c1) n xs hs hown ⟨g, 0, none⟩ 1 1 [u] hx rfl hN.cells_ (by simpa using hu) (by omega) (by unfold maxLen; omega) (by omega) (Nat.zero_le _) _ rfl h
theorem app_txts {ops : Array Oper} {o : Oper} {a : Act} {K : Act → World → Prop} {Q : Exit → Act → World → Prop} {E : Prop} {w : World} {A : Option Addr} {n c1 g : Nat} {xs : List Value} {u : Value} (hgd : o.guard = none) (s x : Operand)
    (ho : o.op = .call { callee := .builtin .append, args := #[s, x], argTypes := #[54, 54] }) (hown : w.ownsRow 0 9 1 (.slice A n c1) n xs) (hN : Blk w g 9 #[u]) (hs : a.eval s = .slice A n c1) (hx : a.eval x = .slice (some ⟨g, 0, none⟩) 1 1) (hu : u.oneCell' = true) (hl : n ≤ 1000000)
    (h : ∀ g' cap w', w'.ownsRow 0 9 1 (.slice (some ⟨g', 0, none⟩) (n + 1) cap) (n + 1) (xs ++ [u]) → w.grownBy w' (Value.slice A n c1).ownBlock → ((Value.slice A n c1).ownBlock = some g' ∨ g' = w.heap.size) → g' < w'.heap.size → K (a.put o.dst (.slice (some ⟨g', 0, none⟩) (n + 1) cap)) w') :
    if Region.wanted o (yielded ops a.tmps) = true then Oper.wp Tryz.prog o a w K Q else E := by
  obtain ⟨i, hi, hz0, hz1, hz2⟩ := info_parts infoQS
  exact step_append_lies w hgd s x _ ho 0 9 i (.string ByteArray.empty) 1 16 Tryz.underlying54 hi hz0 hz1 hz2 rfl (by omega) (.slice A n c1) n xs hs hown ⟨g, 0, none⟩ 1 1 [u] hx rfl hN.cells_ (by simpa using hu) (by omega) (by unfold maxLen; omega) (by omega) (Nat.zero_le _) _ rfl h
theorem add_end {w W : World} {c : QC} {A B : Option Addr} {n c1 c2 g1 cap1 g2 cap2 : Nat} {ve : Value} {s : SN} {id : Int} {t : ByteArray}
    (hB : Blk W c.b 112 (((#[.slice A n c1, .slice B n c2, ve, c.x3, c.x4, c.x5, c.x6] : Array Value).setIfInBounds 0 (.slice (some ⟨g1, 0, none⟩) (n + 1) cap1)).setIfInBounds 1 (.slice (some ⟨g2, 0, none⟩) (n + 1) cap2)))
    (hI : W.ownsRow 0 3 1 (.slice (some ⟨g1, 0, none⟩) (n + 1) cap1) (n + 1) ((idsOf s.K).map (.int .i64 ·) ++ [.int .i64 id])) (hT : W.ownsRow 0 9 1 (.slice (some ⟨g2, 0, none⟩) (n + 1) cap2) (n + 1) ((txtsOf s.K).map (.string ·) ++ [.string t]))
    (hE : W.ownsRow 0 23 7 ve s.L.length (cellsE s.L)) (hF : Foot (QF c ⟨.slice A n c1, .slice B n c2, ve⟩) w W)
    (h1 : QF c ⟨.slice A n c1, .slice B n c2, ve⟩ g1 ∨ w.heap.size ≤ g1) (h2 : QF c ⟨.slice A n c1, .slice B n c2, ve⟩ g2 ∨ w.heap.size ≤ g2) (hn : s.K.length = n := by assumption) :
    SWent w c ⟨.slice A n c1, .slice B n c2, ve⟩ ⟨s.L, s.K ++ [⟨id, t⟩]⟩ W := by
  refine ⟨⟨.slice (some ⟨g1, 0, none⟩) (n + 1) cap1, .slice (some ⟨g2, 0, none⟩) (n + 1) cap2, ve⟩, ⟨hB, ?_, ?_, hE⟩, hF, ?_⟩
  · rw [List.length_append, hn]
    simpa [idsOf] using hI
  · rw [List.length_append, hn]
    simpa [txtsOf] using hT
  · rintro k (hk | hk | hk | hk)
    · exact .inl (.inl hk)
    · injection hk with hk
      have hk : k = g1 := hk
      rw [hk]; exact h1
    · injection hk with hk
      have hk : k = g2 := hk
      rw [hk]; exact h2
    · exact .inl (.inr (.inr (.inr hk)))

set_option maxRecDepth 100000 in
set_option maxHeartbeats 40000000 in
theorem add_any {w : World} {c : QC} {v : QV} {s : SN} (id : Int) (t : ByteArray) (h : SAt w c v s) (hl : s.K.length ≤ 1000000) :
    Calls Tryz.prog 155 #[.pointer (some ⟨c.b, 0, none⟩), .int .i64 id, .string t] w fun e w' => e = .returned (.tuple #[]) ∧ SWent w c v ⟨s.L, s.K ++ [⟨id, t⟩]⟩ w' := by
  obtain ⟨vi, vl, ve⟩ := v
  obtain ⟨hB, hI, hT, hE⟩ := h
  dsimp only at hB hI hT hE
  obtain ⟨A, c1, rfl⟩ := own_form hI
  obtain ⟨B, c2, rfl⟩ := own_form hT
  obtain ⟨n, hn⟩ : ∃ n, s.K.length = n := ⟨_, rfl⟩
  rw [hn] at hB hI hT hl ⊢
  have HN := Lib.hid hn
  clear hn
  go_enter Tryz.func155, Tryz.ntmps155
  replace hB : Blk w.drew _ _ _ := hB
  replace hI : World.ownsRow w.drew _ _ _ _ _ _ := hI
  replace hT : World.ownsRow w.drew _ _ _ _ _ _ := hT
  replace hE : World.ownsRow w.drew _ _ _ _ _ _ := hE
  refine wp_region_held_drew (S := (Foot (QF c ⟨.slice A n c1, .slice B n c2, ve⟩) w)) (by kernel_rfl) ((Foot.refl _ w).ext (Below.refl _ w).drew) (fun hHeld => ?_)
  generalize w.drew = W0 at *
  refine wpAnyH_tk (i := 0) (v := ?_) (some 6) rfl rfl ?_ ?_
  rotate_left
  · intro wx hSx
    go_simp
    try with_reducible rfl
  refine wpAnyH_tk (i := 1) (v := ?_) (some 7) rfl rfl ?_ ?_
  rotate_left
  · intro wx hSx
    go_simp
    try with_reducible rfl
  refine wpAnyH_tk (i := 2) (v := ?_) (some 8) rfl rfl ?_ ?_
  rotate_left
  · intro wx hSx
    go_simp
    try with_reducible rfl
  refine wpAnyH_tk (i := 3) (v := ?_) (some 9) rfl rfl ?_ ?_
  rotate_left
  · intro wx hSx
    go_simp
    try with_reducible rfl
  refine wpAnyH_tk (i := 4) (v := ?_) (some 10) rfl rfl ?_ ?_
  rotate_left
  · intro wx hSx
    go_simp
    try with_reducible rfl
  refine wpAnyH_tk (i := 6) (v := ?_) (some 12) rfl rfl ?_ ?_
  rotate_left
  · intro wx hSx
    go_simp
    try with_reducible rfl
  refine wpAnyH_tk (i := 9) (v := ?_) (some 15) rfl rfl ?_ ?_
  rotate_left
  · intro wx hSx
    go_simp
    try with_reducible rfl
  refine wpAnyH_tk (i := 10) (v := ?_) (some 16) rfl rfl ?_ ?_
  rotate_left
  · intro wx hSx
    go_simp
    try with_reducible rfl
  refine wpAnyH_tk (i := 11) (v := ?_) (some 17) rfl rfl ?_ ?_
  rotate_left
  · intro wx hSx
    go_simp
    try with_reducible rfl
  refine wpAnyH_tk (i := 13) (v := ?_) (some 19) rfl rfl ?_ ?_
  rotate_left
  · intro wx hSx
    go_simp
    try with_reducible rfl
  refine rdy4 5 7 12 14 rfl rfl rfl rfl (fun K hK => ?c1) (fun K hK => ?c2) (fun K hK => ?c3) (fun K hK => ?c4)
  case' c1 =>
    have x0 := hB.c7.1.1
    go_simp
    refine hK.out _ _ hHeld (fun hHeld => ?_)
    clear hK K
    refine rdy3 7 12 14 rfl rfl rfl (fun K hK => ?c5) (fun K hK => ?c6) (fun K hK => ?c7)
    case' c5 =>
      have hN7 := hB.news 3 #[.int .i64 id]
      try simp only [World.size_alloc] at hN7
      go_simp
      replace hB := hB.alloc (.cells #[.int .i64 id] 3)
      replace hI := hI.alloc (.cells #[.int .i64 id] 3)
      replace hT := hT.alloc (.cells #[.int .i64 id] 3)
      replace hE := hE.alloc (.cells #[.int .i64 id] 3)
      refine hK.out _ _ (hHeld.ext (ext_new _ _)) (fun hHeld => ?_)
      clear hK K
      refine rdy3 8 12 14 rfl rfl rfl (fun K hK => ?c8) (fun K hK => ?c9) (fun K hK => ?c10)
      case' c8 =>
        refine app_ids (by rfl) _ _ (by rfl) hI hN7 (by rfl) (by rfl) rfl hl ?_
        intro g1 cap1 w5 hN hgrow hat hlt
        have hgk := grown_keep hB hI hT hE hgrow
        replace hB := hgk.1
        replace hT := hgk.2.1
        replace hE := hgk.2.2
        clear hgk
        have HQ1 := at_ids (c := c) (B := B) (c2 := c2) (ve := ve) hat hHeld.size
        clear hat
        replace hI := hN
        refine hK.out _ _ (hHeld.grown hgrow (fun k hk => .inl (.inr (.inl hk)))) (fun hHeld => ?_)
        clear hK K
        refine rdy2 12 14 rfl rfl (fun K hK => ?c11) (fun K hK => ?c12)
        case' c11 =>
          have x1 := hB.c7.1.2.1
          go_simp
          refine hK.out _ _ hHeld (fun hHeld => ?_)
          clear hK K
          refine rdy1 14 rfl (fun K hK => ?_)
          have hN14 := hB.news 9 #[.string t]
          try simp only [World.size_alloc] at hN14
          go_simp
          replace hB := hB.alloc (.cells #[.string t] 9)
          replace hI := hI.alloc (.cells #[.string t] 9)
          replace hT := hT.alloc (.cells #[.string t] 9)
          replace hE := hE.alloc (.cells #[.string t] 9)
          replace hN7 := hN7.alloc (.cells #[.string t] 9)
          refine hK.out _ _ (hHeld.ext (ext_new _ _)) (fun hHeld => ?_)
          clear hK K
          refine rdy1 15 rfl (fun K hK => ?_)
          refine app_txts (by rfl) _ _ (by rfl) hT hN14 (by rfl) (by rfl) rfl hl ?_
          intro g2 cap2 w5 hN hgrow hat hlt
          have hgk := grown_keep hB hT hI hE hgrow
          replace hB := hgk.1
          replace hI := hgk.2.1
          replace hE := hgk.2.2
          clear hgk
          have HQ2 := at_txts (c := c) (A := A) (c1 := c1) (ve := ve) hat hHeld.size
          clear hat
          replace hT := hN
          refine hK.out _ _ (hHeld.grown hgrow (fun k hk => .inl (.inr (.inr (.inl hk))))) (fun hHeld => ?_)
        case' c12 =>
          have hN14 := hB.news 9 #[.string t]
          try simp only [World.size_alloc] at hN14
          go_simp
          replace hB := hB.alloc (.cells #[.string t] 9)
          replace hI := hI.alloc (.cells #[.string t] 9)
          replace hT := hT.alloc (.cells #[.string t] 9)
          replace hE := hE.alloc (.cells #[.string t] 9)
          replace hN7 := hN7.alloc (.cells #[.string t] 9)
          refine hK.out _ _ (hHeld.ext (ext_new _ _)) (fun hHeld => ?_)
          clear hK K
          refine rdy1 12 rfl (fun K hK => ?_)
          have x1 := hB.c7.1.2.1
          go_simp
          refine hK.out _ _ hHeld (fun hHeld => ?_)
          clear hK K
          refine rdy1 15 rfl (fun K hK => ?_)
          refine app_txts (by rfl) _ _ (by rfl) hT hN14 (by rfl) (by rfl) rfl hl ?_
          intro g2 cap2 w5 hN hgrow hat hlt
          have hgk := grown_keep hB hT hI hE hgrow
          replace hB := hgk.1
          replace hI := hgk.2.1
          replace hE := hgk.2.2
          clear hgk
          have HQ2 := at_txts (c := c) (A := A) (c1 := c1) (ve := ve) hat hHeld.size
          clear hat
          replace hT := hN
          refine hK.out _ _ (hHeld.grown hgrow (fun k hk => .inl (.inr (.inr (.inl hk))))) (fun hHeld => ?_)
      case' c9 =>
        have x1 := hB.c7.1.2.1
        go_simp
        refine hK.out _ _ hHeld (fun hHeld => ?_)
        clear hK K
        refine rdy2 8 14 rfl rfl (fun K hK => ?c13) (fun K hK => ?c14)
        case' c13 =>
          refine app_ids (by rfl) _ _ (by rfl) hI hN7 (by rfl) (by rfl) rfl hl ?_
          intro g1 cap1 w5 hN hgrow hat hlt
          have hgk := grown_keep hB hI hT hE hgrow
          replace hB := hgk.1
          replace hT := hgk.2.1
          replace hE := hgk.2.2
          clear hgk
          have HQ1 := at_ids (c := c) (B := B) (c2 := c2) (ve := ve) hat hHeld.size
          clear hat
          replace hI := hN
          refine hK.out _ _ (hHeld.grown hgrow (fun k hk => .inl (.inr (.inl hk)))) (fun hHeld => ?_)
          clear hK K
          refine rdy1 14 rfl (fun K hK => ?_)
          have hN14 := hB.news 9 #[.string t]
          try simp only [World.size_alloc] at hN14
          go_simp
          replace hB := hB.alloc (.cells #[.string t] 9)
          replace hI := hI.alloc (.cells #[.string t] 9)
          replace hT := hT.alloc (.cells #[.string t] 9)
          replace hE := hE.alloc (.cells #[.string t] 9)
          replace hN7 := hN7.alloc (.cells #[.string t] 9)
          refine hK.out _ _ (hHeld.ext (ext_new _ _)) (fun hHeld => ?_)
          clear hK K
          refine rdy1 15 rfl (fun K hK => ?_)
          refine app_txts (by rfl) _ _ (by rfl) hT hN14 (by rfl) (by rfl) rfl hl ?_
          intro g2 cap2 w5 hN hgrow hat hlt
          have hgk := grown_keep hB hT hI hE hgrow
          replace hB := hgk.1
          replace hI := hgk.2.1
          replace hE := hgk.2.2
          clear hgk
          have HQ2 := at_txts (c := c) (A := A) (c1 := c1) (ve := ve) hat hHeld.size
          clear hat
          replace hT := hN
          refine hK.out _ _ (hHeld.grown hgrow (fun k hk => .inl (.inr (.inr (.inl hk))))) (fun hHeld => ?_)
        case' c14 =>
          have hN14 := hB.news 9 #[.string t]
          try simp only [World.size_alloc] at hN14
          go_simp
          replace hB := hB.alloc (.cells #[.string t] 9)
          replace hI := hI.alloc (.cells #[.string t] 9)
          replace hT := hT.alloc (.cells #[.string t] 9)
          replace hE := hE.alloc (.cells #[.string t] 9)
          replace hN7 := hN7.alloc (.cells #[.string t] 9)
          refine hK.out _ _ (hHeld.ext (ext_new _ _)) (fun hHeld => ?_)
          clear hK K
          refine rdy1 8 rfl (fun K hK => ?_)
          refine app_ids (by rfl) _ _ (by rfl) hI hN7 (by rfl) (by rfl) rfl hl ?_
          intro g1 cap1 w5 hN hgrow hat hlt
          replace hN14 := hN14.kept (hgrow.block _ hN14.lt (own_type hI hN14 (by decide)))
          have hgk := grown_keep hB hI hT hE hgrow
          replace hB := hgk.1
          replace hT := hgk.2.1
          replace hE := hgk.2.2
          clear hgk
          have HQ1 := at_ids (c := c) (B := B) (c2 := c2) (ve := ve) hat hHeld.size
          clear hat
          replace hI := hN
          refine hK.out _ _ (hHeld.grown hgrow (fun k hk => .inl (.inr (.inl hk)))) (fun hHeld => ?_)
          clear hK K
          refine rdy1 15 rfl (fun K hK => ?_)
          refine app_txts (by rfl) _ _ (by rfl) hT hN14 (by rfl) (by rfl) rfl hl ?_
          intro g2 cap2 w5 hN hgrow hat hlt
          have hgk := grown_keep hB hT hI hE hgrow
          replace hB := hgk.1
          replace hI := hgk.2.1
          replace hE := hgk.2.2
          clear hgk
          have HQ2 := at_txts (c := c) (A := A) (c1 := c1) (ve := ve) hat hHeld.size
          clear hat
          replace hT := hN
          refine hK.out _ _ (hHeld.grown hgrow (fun k hk => .inl (.inr (.inr (.inl hk))))) (fun hHeld => ?_)
      case' c10 =>
        have hN14 := hB.news 9 #[.string t]
        try simp only [World.size_alloc] at hN14
        go_simp
        replace hB := hB.alloc (.cells #[.string t] 9)
        replace hI := hI.alloc (.cells #[.string t] 9)
        replace hT := hT.alloc (.cells #[.string t] 9)
        replace hE := hE.alloc (.cells #[.string t] 9)
        replace hN7 := hN7.alloc (.cells #[.string t] 9)
        refine hK.out _ _ (hHeld.ext (ext_new _ _)) (fun hHeld => ?_)
        clear hK K
        refine rdy2 8 12 rfl rfl (fun K hK => ?c15) (fun K hK => ?c16)
        case' c15 =>
          refine app_ids (by rfl) _ _ (by rfl) hI hN7 (by rfl) (by rfl) rfl hl ?_
          intro g1 cap1 w5 hN hgrow hat hlt
          replace hN14 := hN14.kept (hgrow.block _ hN14.lt (own_type hI hN14 (by decide)))
          have hgk := grown_keep hB hI hT hE hgrow
          replace hB := hgk.1
          replace hT := hgk.2.1
          replace hE := hgk.2.2
          clear hgk
          have HQ1 := at_ids (c := c) (B := B) (c2 := c2) (ve := ve) hat hHeld.size
          clear hat
          replace hI := hN
          refine hK.out _ _ (hHeld.grown hgrow (fun k hk => .inl (.inr (.inl hk)))) (fun hHeld => ?_)
          clear hK K
          refine rdy1 12 rfl (fun K hK => ?_)
          have x1 := hB.c7.1.2.1
          go_simp
          refine hK.out _ _ hHeld (fun hHeld => ?_)
          clear hK K
          refine rdy1 15 rfl (fun K hK => ?_)
          refine app_txts (by rfl) _ _ (by rfl) hT hN14 (by rfl) (by rfl) rfl hl ?_
          intro g2 cap2 w5 hN hgrow hat hlt
          have hgk := grown_keep hB hT hI hE hgrow
          replace hB := hgk.1
          replace hI := hgk.2.1
          replace hE := hgk.2.2
          clear hgk
          have HQ2 := at_txts (c := c) (A := A) (c1 := c1) (ve := ve) hat hHeld.size
          clear hat
          replace hT := hN
          refine hK.out _ _ (hHeld.grown hgrow (fun k hk => .inl (.inr (.inr (.inl hk))))) (fun hHeld => ?_)
        case' c16 =>
          have x1 := hB.c7.1.2.1
          go_simp
          refine hK.out _ _ hHeld (fun hHeld => ?_)
          clear hK K
          refine rdy1 8 rfl (fun K hK => ?_)
          refine app_ids (by rfl) _ _ (by rfl) hI hN7 (by rfl) (by rfl) rfl hl ?_
          intro g1 cap1 w5 hN hgrow hat hlt
          replace hN14 := hN14.kept (hgrow.block _ hN14.lt (own_type hI hN14 (by decide)))
          have hgk := grown_keep hB hI hT hE hgrow
          replace hB := hgk.1
          replace hT := hgk.2.1
          replace hE := hgk.2.2
          clear hgk
          have HQ1 := at_ids (c := c) (B := B) (c2 := c2) (ve := ve) hat hHeld.size
          clear hat
          replace hI := hN
          refine hK.out _ _ (hHeld.grown hgrow (fun k hk => .inl (.inr (.inl hk)))) (fun hHeld => ?_)
          clear hK K
          refine rdy1 15 rfl (fun K hK => ?_)
          refine app_txts (by rfl) _ _ (by rfl) hT hN14 (by rfl) (by rfl) rfl hl ?_
          intro g2 cap2 w5 hN hgrow hat hlt
          have hgk := grown_keep hB hT hI hE hgrow
          replace hB := hgk.1
          replace hI := hgk.2.1
          replace hE := hgk.2.2
          clear hgk
          have HQ2 := at_txts (c := c) (A := A) (c1 := c1) (ve := ve) hat hHeld.size
          clear hat
          replace hT := hN
          refine hK.out _ _ (hHeld.grown hgrow (fun k hk => .inl (.inr (.inr (.inl hk))))) (fun hHeld => ?_)
    case' c6 =>
      have x1 := hB.c7.1.2.1
      go_simp
      refine hK.out _ _ hHeld (fun hHeld => ?_)
      clear hK K
      refine rdy2 7 14 rfl rfl (fun K hK => ?c17) (fun K hK => ?c18)
      case' c17 =>
        have hN7 := hB.news 3 #[.int .i64 id]
        try simp only [World.size_alloc] at hN7
        go_simp
        replace hB := hB.alloc (.cells #[.int .i64 id] 3)
        replace hI := hI.alloc (.cells #[.int .i64 id] 3)
        replace hT := hT.alloc (.cells #[.int .i64 id] 3)
        replace hE := hE.alloc (.cells #[.int .i64 id] 3)
        refine hK.out _ _ (hHeld.ext (ext_new _ _)) (fun hHeld => ?_)
        clear hK K
        refine rdy2 8 14 rfl rfl (fun K hK => ?c19) (fun K hK => ?c20)
        case' c19 =>
          refine app_ids (by rfl) _ _ (by rfl) hI hN7 (by rfl) (by rfl) rfl hl ?_
          intro g1 cap1 w5 hN hgrow hat hlt
          have hgk := grown_keep hB hI hT hE hgrow
          replace hB := hgk.1
          replace hT := hgk.2.1
          replace hE := hgk.2.2
          clear hgk
          have HQ1 := at_ids (c := c) (B := B) (c2 := c2) (ve := ve) hat hHeld.size
          clear hat
          replace hI := hN
          refine hK.out _ _ (hHeld.grown hgrow (fun k hk => .inl (.inr (.inl hk)))) (fun hHeld => ?_)
          clear hK K
          refine rdy1 14 rfl (fun K hK => ?_)
          have hN14 := hB.news 9 #[.string t]
          try simp only [World.size_alloc] at hN14
          go_simp
          replace hB := hB.alloc (.cells #[.string t] 9)
          replace hI := hI.alloc (.cells #[.string t] 9)
          replace hT := hT.alloc (.cells #[.string t] 9)
          replace hE := hE.alloc (.cells #[.string t] 9)
          replace hN7 := hN7.alloc (.cells #[.string t] 9)
          refine hK.out _ _ (hHeld.ext (ext_new _ _)) (fun hHeld => ?_)
          clear hK K
          refine rdy1 15 rfl (fun K hK => ?_)
          refine app_txts (by rfl) _ _ (by rfl) hT hN14 (by rfl) (by rfl) rfl hl ?_
          intro g2 cap2 w5 hN hgrow hat hlt
          have hgk := grown_keep hB hT hI hE hgrow
          replace hB := hgk.1
          replace hI := hgk.2.1
          replace hE := hgk.2.2
          clear hgk
          have HQ2 := at_txts (c := c) (A := A) (c1 := c1) (ve := ve) hat hHeld.size
          clear hat
          replace hT := hN
          refine hK.out _ _ (hHeld.grown hgrow (fun k hk => .inl (.inr (.inr (.inl hk))))) (fun hHeld => ?_)
        case' c20 =>
          have hN14 := hB.news 9 #[.string t]
          try simp only [World.size_alloc] at hN14
          go_simp
          replace hB := hB.alloc (.cells #[.string t] 9)
          replace hI := hI.alloc (.cells #[.string t] 9)
          replace hT := hT.alloc (.cells #[.string t] 9)
          replace hE := hE.alloc (.cells #[.string t] 9)
          replace hN7 := hN7.alloc (.cells #[.string t] 9)
          refine hK.out _ _ (hHeld.ext (ext_new _ _)) (fun hHeld => ?_)
          clear hK K
          refine rdy1 8 rfl (fun K hK => ?_)
          refine app_ids (by rfl) _ _ (by rfl) hI hN7 (by rfl) (by rfl) rfl hl ?_
          intro g1 cap1 w5 hN hgrow hat hlt
          replace hN14 := hN14.kept (hgrow.block _ hN14.lt (own_type hI hN14 (by decide)))
          have hgk := grown_keep hB hI hT hE hgrow
          replace hB := hgk.1
          replace hT := hgk.2.1
          replace hE := hgk.2.2
          clear hgk
          have HQ1 := at_ids (c := c) (B := B) (c2 := c2) (ve := ve) hat hHeld.size
          clear hat
          replace hI := hN
          refine hK.out _ _ (hHeld.grown hgrow (fun k hk => .inl (.inr (.inl hk)))) (fun hHeld => ?_)
          clear hK K
          refine rdy1 15 rfl (fun K hK => ?_)
          refine app_txts (by rfl) _ _ (by rfl) hT hN14 (by rfl) (by rfl) rfl hl ?_
          intro g2 cap2 w5 hN hgrow hat hlt
          have hgk := grown_keep hB hT hI hE hgrow
          replace hB := hgk.1
          replace hI := hgk.2.1
          replace hE := hgk.2.2
          clear hgk
          have HQ2 := at_txts (c := c) (A := A) (c1 := c1) (ve := ve) hat hHeld.size
          clear hat
          replace hT := hN
          refine hK.out _ _ (hHeld.grown hgrow (fun k hk => .inl (.inr (.inr (.inl hk))))) (fun hHeld => ?_)
      case' c18 =>
        have hN14 := hB.news 9 #[.string t]
        try simp only [World.size_alloc] at hN14
        go_simp
        replace hB := hB.alloc (.cells #[.string t] 9)
        replace hI := hI.alloc (.cells #[.string t] 9)
        replace hT := hT.alloc (.cells #[.string t] 9)
        replace hE := hE.alloc (.cells #[.string t] 9)
        refine hK.out _ _ (hHeld.ext (ext_new _ _)) (fun hHeld => ?_)
        clear hK K
        refine rdy1 7 rfl (fun K hK => ?_)
        have hN7 := hB.news 3 #[.int .i64 id]
        try simp only [World.size_alloc] at hN7
        go_simp
        replace hB := hB.alloc (.cells #[.int .i64 id] 3)
        replace hI := hI.alloc (.cells #[.int .i64 id] 3)
        replace hT := hT.alloc (.cells #[.int .i64 id] 3)
        replace hE := hE.alloc (.cells #[.int .i64 id] 3)
        replace hN14 := hN14.alloc (.cells #[.int .i64 id] 3)
        refine hK.out _ _ (hHeld.ext (ext_new _ _)) (fun hHeld => ?_)
        clear hK K
        refine rdy1 8 rfl (fun K hK => ?_)
        refine app_ids (by rfl) _ _ (by rfl) hI hN7 (by rfl) (by rfl) rfl hl ?_
        intro g1 cap1 w5 hN hgrow hat hlt
        replace hN14 := hN14.kept (hgrow.block _ hN14.lt (own_type hI hN14 (by decide)))
        have hgk := grown_keep hB hI hT hE hgrow
        replace hB := hgk.1
        replace hT := hgk.2.1
        replace hE := hgk.2.2
        clear hgk
        have HQ1 := at_ids (c := c) (B := B) (c2 := c2) (ve := ve) hat hHeld.size
        clear hat
        replace hI := hN
        refine hK.out _ _ (hHeld.grown hgrow (fun k hk => .inl (.inr (.inl hk)))) (fun hHeld => ?_)
        clear hK K
        refine rdy1 15 rfl (fun K hK => ?_)
        refine app_txts (by rfl) _ _ (by rfl) hT hN14 (by rfl) (by rfl) rfl hl ?_
        intro g2 cap2 w5 hN hgrow hat hlt
        have hgk := grown_keep hB hT hI hE hgrow
        replace hB := hgk.1
        replace hI := hgk.2.1
        replace hE := hgk.2.2
        clear hgk
        have HQ2 := at_txts (c := c) (A := A) (c1 := c1) (ve := ve) hat hHeld.size
        clear hat
        replace hT := hN
        refine hK.out _ _ (hHeld.grown hgrow (fun k hk => .inl (.inr (.inr (.inl hk))))) (fun hHeld => ?_)
    case' c7 =>
      have hN14 := hB.news 9 #[.string t]
      try simp only [World.size_alloc] at hN14
      go_simp
      replace hB := hB.alloc (.cells #[.string t] 9)
      replace hI := hI.alloc (.cells #[.string t] 9)
      replace hT := hT.alloc (.cells #[.string t] 9)
      replace hE := hE.alloc (.cells #[.string t] 9)
      refine hK.out _ _ (hHeld.ext (ext_new _ _)) (fun hHeld => ?_)
      clear hK K
      refine rdy2 7 12 rfl rfl (fun K hK => ?c21) (fun K hK => ?c22)
      case' c21 =>
        have hN7 := hB.news 3 #[.int .i64 id]
        try simp only [World.size_alloc] at hN7
        go_simp
        replace hB := hB.alloc (.cells #[.int .i64 id] 3)
        replace hI := hI.alloc (.cells #[.int .i64 id] 3)
        replace hT := hT.alloc (.cells #[.int .i64 id] 3)
        replace hE := hE.alloc (.cells #[.int .i64 id] 3)
        replace hN14 := hN14.alloc (.cells #[.int .i64 id] 3)
        refine hK.out _ _ (hHeld.ext (ext_new _ _)) (fun hHeld => ?_)
        clear hK K
        refine rdy2 8 12 rfl rfl (fun K hK => ?c23) (fun K hK => ?c24)
        case' c23 =>
          refine app_ids (by rfl) _ _ (by rfl) hI hN7 (by rfl) (by rfl) rfl hl ?_
          intro g1 cap1 w5 hN hgrow hat hlt
          replace hN14 := hN14.kept (hgrow.block _ hN14.lt (own_type hI hN14 (by decide)))
          have hgk := grown_keep hB hI hT hE hgrow
          replace hB := hgk.1
          replace hT := hgk.2.1
          replace hE := hgk.2.2
          clear hgk
          have HQ1 := at_ids (c := c) (B := B) (c2 := c2) (ve := ve) hat hHeld.size
          clear hat
          replace hI := hN
          refine hK.out _ _ (hHeld.grown hgrow (fun k hk => .inl (.inr (.inl hk)))) (fun hHeld => ?_)
          clear hK K
          refine rdy1 12 rfl (fun K hK => ?_)
          have x1 := hB.c7.1.2.1
          go_simp
          refine hK.out _ _ hHeld (fun hHeld => ?_)
          clear hK K
          refine rdy1 15 rfl (fun K hK => ?_)
          refine app_txts (by rfl) _ _ (by rfl) hT hN14 (by rfl) (by rfl) rfl hl ?_
          intro g2 cap2 w5 hN hgrow hat hlt
          have hgk := grown_keep hB hT hI hE hgrow
          replace hB := hgk.1
          replace hI := hgk.2.1
          replace hE := hgk.2.2
          clear hgk
          have HQ2 := at_txts (c := c) (A := A) (c1 := c1) (ve := ve) hat hHeld.size
          clear hat
          replace hT := hN
          refine hK.out _ _ (hHeld.grown hgrow (fun k hk => .inl (.inr (.inr (.inl hk))))) (fun hHeld => ?_)
        case' c24 =>
          have x1 := hB.c7.1.2.1
          go_simp
          refine hK.out _ _ hHeld (fun hHeld => ?_)
          clear hK K
          refine rdy1 8 rfl (fun K hK => ?_)
          refine app_ids (by rfl) _ _ (by rfl) hI hN7 (by rfl) (by rfl) rfl hl ?_
          intro g1 cap1 w5 hN hgrow hat hlt
          replace hN14 := hN14.kept (hgrow.block _ hN14.lt (own_type hI hN14 (by decide)))
          have hgk := grown_keep hB hI hT hE hgrow
          replace hB := hgk.1
          replace hT := hgk.2.1
          replace hE := hgk.2.2
          clear hgk
          have HQ1 := at_ids (c := c) (B := B) (c2 := c2) (ve := ve) hat hHeld.size
          clear hat
          replace hI := hN
          refine hK.out _ _ (hHeld.grown hgrow (fun k hk => .inl (.inr (.inl hk)))) (fun hHeld => ?_)
          clear hK K
          refine rdy1 15 rfl (fun K hK => ?_)
          refine app_txts (by rfl) _ _ (by rfl) hT hN14 (by rfl) (by rfl) rfl hl ?_
          intro g2 cap2 w5 hN hgrow hat hlt
          have hgk := grown_keep hB hT hI hE hgrow
          replace hB := hgk.1
          replace hI := hgk.2.1
          replace hE := hgk.2.2
          clear hgk
          have HQ2 := at_txts (c := c) (A := A) (c1 := c1) (ve := ve) hat hHeld.size
          clear hat
          replace hT := hN
          refine hK.out _ _ (hHeld.grown hgrow (fun k hk => .inl (.inr (.inr (.inl hk))))) (fun hHeld => ?_)
      case' c22 =>
        have x1 := hB.c7.1.2.1
        go_simp
        refine hK.out _ _ hHeld (fun hHeld => ?_)
        clear hK K
        refine rdy1 7 rfl (fun K hK => ?_)
        have hN7 := hB.news 3 #[.int .i64 id]
        try simp only [World.size_alloc] at hN7
        go_simp
        replace hB := hB.alloc (.cells #[.int .i64 id] 3)
        replace hI := hI.alloc (.cells #[.int .i64 id] 3)
        replace hT := hT.alloc (.cells #[.int .i64 id] 3)
        replace hE := hE.alloc (.cells #[.int .i64 id] 3)
        replace hN14 := hN14.alloc (.cells #[.int .i64 id] 3)
        refine hK.out _ _ (hHeld.ext (ext_new _ _)) (fun hHeld => ?_)
        clear hK K
        refine rdy1 8 rfl (fun K hK => ?_)
        refine app_ids (by rfl) _ _ (by rfl) hI hN7 (by rfl) (by rfl) rfl hl ?_
        intro g1 cap1 w5 hN hgrow hat hlt
        replace hN14 := hN14.kept (hgrow.block _ hN14.lt (own_type hI hN14 (by decide)))
        have hgk := grown_keep hB hI hT hE hgrow
        replace hB := hgk.1
        replace hT := hgk.2.1
        replace hE := hgk.2.2
        clear hgk
        have HQ1 := at_ids (c := c) (B := B) (c2 := c2) (ve := ve) hat hHeld.size
        clear hat
        replace hI := hN
        refine hK.out _ _ (hHeld.grown hgrow (fun k hk => .inl (.inr (.inl hk)))) (fun hHeld => ?_)
        clear hK K
        refine rdy1 15 rfl (fun K hK => ?_)
        refine app_txts (by rfl) _ _ (by rfl) hT hN14 (by rfl) (by rfl) rfl hl ?_
        intro g2 cap2 w5 hN hgrow hat hlt
        have hgk := grown_keep hB hT hI hE hgrow
        replace hB := hgk.1
        replace hI := hgk.2.1
        replace hE := hgk.2.2
        clear hgk
        have HQ2 := at_txts (c := c) (A := A) (c1 := c1) (ve := ve) hat hHeld.size
        clear hat
        replace hT := hN
        refine hK.out _ _ (hHeld.grown hgrow (fun k hk => .inl (.inr (.inr (.inl hk))))) (fun hHeld => ?_)
  case' c2 =>
    have hN7 := hB.news 3 #[.int .i64 id]
    try simp only [World.size_alloc] at hN7
    go_simp
    replace hB := hB.alloc (.cells #[.int .i64 id] 3)
    replace hI := hI.alloc (.cells #[.int .i64 id] 3)
    replace hT := hT.alloc (.cells #[.int .i64 id] 3)
    replace hE := hE.alloc (.cells #[.int .i64 id] 3)
    refine hK.out _ _ (hHeld.ext (ext_new _ _)) (fun hHeld => ?_)
    clear hK K
    refine rdy3 5 12 14 rfl rfl rfl (fun K hK => ?c25) (fun K hK => ?c26) (fun K hK => ?c27)
    case' c25 =>
      have x0 := hB.c7.1.1
      go_simp
      refine hK.out _ _ hHeld (fun hHeld => ?_)
      clear hK K
      refine rdy3 8 12 14 rfl rfl rfl (fun K hK => ?c28) (fun K hK => ?c29) (fun K hK => ?c30)
      case' c28 =>
        refine app_ids (by rfl) _ _ (by rfl) hI hN7 (by rfl) (by rfl) rfl hl ?_
        intro g1 cap1 w5 hN hgrow hat hlt
        have hgk := grown_keep hB hI hT hE hgrow
        replace hB := hgk.1
        replace hT := hgk.2.1
        replace hE := hgk.2.2
        clear hgk
        have HQ1 := at_ids (c := c) (B := B) (c2 := c2) (ve := ve) hat hHeld.size
        clear hat
        replace hI := hN
        refine hK.out _ _ (hHeld.grown hgrow (fun k hk => .inl (.inr (.inl hk)))) (fun hHeld => ?_)
        clear hK K
        refine rdy2 12 14 rfl rfl (fun K hK => ?c31) (fun K hK => ?c32)
        case' c31 =>
          have x1 := hB.c7.1.2.1
          go_simp
          refine hK.out _ _ hHeld (fun hHeld => ?_)
          clear hK K
          refine rdy1 14 rfl (fun K hK => ?_)
          have hN14 := hB.news 9 #[.string t]
          try simp only [World.size_alloc] at hN14
          go_simp
          replace hB := hB.alloc (.cells #[.string t] 9)
          replace hI := hI.alloc (.cells #[.string t] 9)
          replace hT := hT.alloc (.cells #[.string t] 9)
          replace hE := hE.alloc (.cells #[.string t] 9)
          replace hN7 := hN7.alloc (.cells #[.string t] 9)
          refine hK.out _ _ (hHeld.ext (ext_new _ _)) (fun hHeld => ?_)
          clear hK K
          refine rdy1 15 rfl (fun K hK => ?_)
          refine app_txts (by rfl) _ _ (by rfl) hT hN14 (by rfl) (by rfl) rfl hl ?_
          intro g2 cap2 w5 hN hgrow hat hlt
          have hgk := grown_keep hB hT hI hE hgrow
          replace hB := hgk.1
          replace hI := hgk.2.1
          replace hE := hgk.2.2
          clear hgk
          have HQ2 := at_txts (c := c) (A := A) (c1 := c1) (ve := ve) hat hHeld.size
          clear hat
          replace hT := hN
          refine hK.out _ _ (hHeld.grown hgrow (fun k hk => .inl (.inr (.inr (.inl hk))))) (fun hHeld => ?_)
        case' c32 =>
          have hN14 := hB.news 9 #[.string t]
          try simp only [World.size_alloc] at hN14
          go_simp
          replace hB := hB.alloc (.cells #[.string t] 9)
          replace hI := hI.alloc (.cells #[.string t] 9)
          replace hT := hT.alloc (.cells #[.string t] 9)
          replace hE := hE.alloc (.cells #[.string t] 9)
          replace hN7 := hN7.alloc (.cells #[.string t] 9)
          refine hK.out _ _ (hHeld.ext (ext_new _ _)) (fun hHeld => ?_)
          clear hK K
          refine rdy1 12 rfl (fun K hK => ?_)
          have x1 := hB.c7.1.2.1
          go_simp
          refine hK.out _ _ hHeld (fun hHeld => ?_)
          clear hK K
          refine rdy1 15 rfl (fun K hK => ?_)
          refine app_txts (by rfl) _ _ (by rfl) hT hN14 (by rfl) (by rfl) rfl hl ?_
          intro g2 cap2 w5 hN hgrow hat hlt
          have hgk := grown_keep hB hT hI hE hgrow
          replace hB := hgk.1
          replace hI := hgk.2.1
          replace hE := hgk.2.2
          clear hgk
          have HQ2 := at_txts (c := c) (A := A) (c1 := c1) (ve := ve) hat hHeld.size
          clear hat
          replace hT := hN
          refine hK.out _ _ (hHeld.grown hgrow (fun k hk => .inl (.inr (.inr (.inl hk))))) (fun hHeld => ?_)
      case' c29 =>
        have x1 := hB.c7.1.2.1
        go_simp
        refine hK.out _ _ hHeld (fun hHeld => ?_)
        clear hK K
        refine rdy2 8 14 rfl rfl (fun K hK => ?c33) (fun K hK => ?c34)
        case' c33 =>
          refine app_ids (by rfl) _ _ (by rfl) hI hN7 (by rfl) (by rfl) rfl hl ?_
          intro g1 cap1 w5 hN hgrow hat hlt
          have hgk := grown_keep hB hI hT hE hgrow
          replace hB := hgk.1
          replace hT := hgk.2.1
          replace hE := hgk.2.2
          clear hgk
          have HQ1 := at_ids (c := c) (B := B) (c2 := c2) (ve := ve) hat hHeld.size
          clear hat
          replace hI := hN
          refine hK.out _ _ (hHeld.grown hgrow (fun k hk => .inl (.inr (.inl hk)))) (fun hHeld => ?_)
          clear hK K
          refine rdy1 14 rfl (fun K hK => ?_)
          have hN14 := hB.news 9 #[.string t]
          try simp only [World.size_alloc] at hN14
          go_simp
          replace hB := hB.alloc (.cells #[.string t] 9)
          replace hI := hI.alloc (.cells #[.string t] 9)
          replace hT := hT.alloc (.cells #[.string t] 9)
          replace hE := hE.alloc (.cells #[.string t] 9)
          replace hN7 := hN7.alloc (.cells #[.string t] 9)
          refine hK.out _ _ (hHeld.ext (ext_new _ _)) (fun hHeld => ?_)
          clear hK K
          refine rdy1 15 rfl (fun K hK => ?_)
          refine app_txts (by rfl) _ _ (by rfl) hT hN14 (by rfl) (by rfl) rfl hl ?_
          intro g2 cap2 w5 hN hgrow hat hlt
          have hgk := grown_keep hB hT hI hE hgrow
          replace hB := hgk.1
          replace hI := hgk.2.1
          replace hE := hgk.2.2
          clear hgk
          have HQ2 := at_txts (c := c) (A := A) (c1 := c1) (ve := ve) hat hHeld.size
          clear hat
          replace hT := hN
          refine hK.out _ _ (hHeld.grown hgrow (fun k hk => .inl (.inr (.inr (.inl hk))))) (fun hHeld => ?_)
        case' c34 =>
          have hN14 := hB.news 9 #[.string t]
          try simp only [World.size_alloc] at hN14
          go_simp
          replace hB := hB.alloc (.cells #[.string t] 9)
          replace hI := hI.alloc (.cells #[.string t] 9)
          replace hT := hT.alloc (.cells #[.string t] 9)
          replace hE := hE.alloc (.cells #[.string t] 9)
          replace hN7 := hN7.alloc (.cells #[.string t] 9)
          refine hK.out _ _ (hHeld.ext (ext_new _ _)) (fun hHeld => ?_)
          clear hK K
          refine rdy1 8 rfl (fun K hK => ?_)
          refine app_ids (by rfl) _ _ (by rfl) hI hN7 (by rfl) (by rfl) rfl hl ?_
          intro g1 cap1 w5 hN hgrow hat hlt
          replace hN14 := hN14.kept (hgrow.block _ hN14.lt (own_type hI hN14 (by decide)))
          have hgk := grown_keep hB hI hT hE hgrow
          replace hB := hgk.1
          replace hT := hgk.2.1
          replace hE := hgk.2.2
          clear hgk
          have HQ1 := at_ids (c := c) (B := B) (c2 := c2) (ve := ve) hat hHeld.size
          clear hat
          replace hI := hN
          refine hK.out _ _ (hHeld.grown hgrow (fun k hk => .inl (.inr (.inl hk)))) (fun hHeld => ?_)
          clear hK K
          refine rdy1 15 rfl (fun K hK => ?_)
          refine app_txts (by rfl) _ _ (by rfl) hT hN14 (by rfl) (by rfl) rfl hl ?_
          intro g2 cap2 w5 hN hgrow hat hlt
          have hgk := grown_keep hB hT hI hE hgrow
          replace hB := hgk.1
          replace hI := hgk.2.1
          replace hE := hgk.2.2
          clear hgk
          have HQ2 := at_txts (c := c) (A := A) (c1 := c1) (ve := ve) hat hHeld.size
          clear hat
          replace hT := hN
          refine hK.out _ _ (hHeld.grown hgrow (fun k hk => .inl (.inr (.inr (.inl hk))))) (fun hHeld => ?_)
      case' c30 =>
        have hN14 := hB.news 9 #[.string t]
        try simp only [World.size_alloc] at hN14
        go_simp
        replace hB := hB.alloc (.cells #[.string t] 9)
        replace hI := hI.alloc (.cells #[.string t] 9)
        replace hT := hT.alloc (.cells #[.string t] 9)
        replace hE := hE.alloc (.cells #[.string t] 9)
        replace hN7 := hN7.alloc (.cells #[.string t] 9)
        refine hK.out _ _ (hHeld.ext (ext_new _ _)) (fun hHeld => ?_)
        clear hK K
        refine rdy2 8 12 rfl rfl (fun K hK => ?c35) (fun K hK => ?c36)
        case' c35 =>
          refine app_ids (by rfl) _ _ (by rfl) hI hN7 (by rfl) (by rfl) rfl hl ?_
          intro g1 cap1 w5 hN hgrow hat hlt
          replace hN14 := hN14.kept (hgrow.block _ hN14.lt (own_type hI hN14 (by decide)))
          have hgk := grown_keep hB hI hT hE hgrow
          replace hB := hgk.1
          replace hT := hgk.2.1
          replace hE := hgk.2.2
          clear hgk
          have HQ1 := at_ids (c := c) (B := B) (c2 := c2) (ve := ve) hat hHeld.size
          clear hat
          replace hI := hN
          refine hK.out _ _ (hHeld.grown hgrow (fun k hk => .inl (.inr (.inl hk)))) (fun hHeld => ?_)
          clear hK K
          refine rdy1 12 rfl (fun K hK => ?_)
          have x1 := hB.c7.1.2.1
          go_simp
          refine hK.out _ _ hHeld (fun hHeld => ?_)
          clear hK K
          refine rdy1 15 rfl (fun K hK => ?_)
          refine app_txts (by rfl) _ _ (by rfl) hT hN14 (by rfl) (by rfl) rfl hl ?_
          intro g2 cap2 w5 hN hgrow hat hlt
          have hgk := grown_keep hB hT hI hE hgrow
          replace hB := hgk.1
          replace hI := hgk.2.1
          replace hE := hgk.2.2
          clear hgk
          have HQ2 := at_txts (c := c) (A := A) (c1 := c1) (ve := ve) hat hHeld.size
          clear hat
          replace hT := hN
          refine hK.out _ _ (hHeld.grown hgrow (fun k hk => .inl (.inr (.inr (.inl hk))))) (fun hHeld => ?_)
        case' c36 =>
          have x1 := hB.c7.1.2.1
          go_simp
          refine hK.out _ _ hHeld (fun hHeld => ?_)
          clear hK K
          refine rdy1 8 rfl (fun K hK => ?_)
          refine app_ids (by rfl) _ _ (by rfl) hI hN7 (by rfl) (by rfl) rfl hl ?_
          intro g1 cap1 w5 hN hgrow hat hlt
          replace hN14 := hN14.kept (hgrow.block _ hN14.lt (own_type hI hN14 (by decide)))
          have hgk := grown_keep hB hI hT hE hgrow
          replace hB := hgk.1
          replace hT := hgk.2.1
          replace hE := hgk.2.2
          clear hgk
          have HQ1 := at_ids (c := c) (B := B) (c2 := c2) (ve := ve) hat hHeld.size
          clear hat
          replace hI := hN
          refine hK.out _ _ (hHeld.grown hgrow (fun k hk => .inl (.inr (.inl hk)))) (fun hHeld => ?_)
          clear hK K
          refine rdy1 15 rfl (fun K hK => ?_)
          refine app_txts (by rfl) _ _ (by rfl) hT hN14 (by rfl) (by rfl) rfl hl ?_
          intro g2 cap2 w5 hN hgrow hat hlt
          have hgk := grown_keep hB hT hI hE hgrow
          replace hB := hgk.1
          replace hI := hgk.2.1
          replace hE := hgk.2.2
          clear hgk
          have HQ2 := at_txts (c := c) (A := A) (c1 := c1) (ve := ve) hat hHeld.size
          clear hat
          replace hT := hN
          refine hK.out _ _ (hHeld.grown hgrow (fun k hk => .inl (.inr (.inr (.inl hk))))) (fun hHeld => ?_)
    case' c26 =>
      have x1 := hB.c7.1.2.1
      go_simp
      refine hK.out _ _ hHeld (fun hHeld => ?_)
      clear hK K
      refine rdy2 5 14 rfl rfl (fun K hK => ?c37) (fun K hK => ?c38)
      case' c37 =>
        have x0 := hB.c7.1.1
        go_simp
        refine hK.out _ _ hHeld (fun hHeld => ?_)
        clear hK K
        refine rdy2 8 14 rfl rfl (fun K hK => ?c39) (fun K hK => ?c40)
        case' c39 =>
          refine app_ids (by rfl) _ _ (by rfl) hI hN7 (by rfl) (by rfl) rfl hl ?_
          intro g1 cap1 w5 hN hgrow hat hlt
          have hgk := grown_keep hB hI hT hE hgrow
          replace hB := hgk.1
          replace hT := hgk.2.1
          replace hE := hgk.2.2
          clear hgk
          have HQ1 := at_ids (c := c) (B := B) (c2 := c2) (ve := ve) hat hHeld.size
          clear hat
          replace hI := hN
          refine hK.out _ _ (hHeld.grown hgrow (fun k hk => .inl (.inr (.inl hk)))) (fun hHeld => ?_)
          clear hK K
          refine rdy1 14 rfl (fun K hK => ?_)
          have hN14 := hB.news 9 #[.string t]
          try simp only [World.size_alloc] at hN14
          go_simp
          replace hB := hB.alloc (.cells #[.string t] 9)
          replace hI := hI.alloc (.cells #[.string t] 9)
          replace hT := hT.alloc (.cells #[.string t] 9)
          replace hE := hE.alloc (.cells #[.string t] 9)
          replace hN7 := hN7.alloc (.cells #[.string t] 9)
          refine hK.out _ _ (hHeld.ext (ext_new _ _)) (fun hHeld => ?_)
          clear hK K
          refine rdy1 15 rfl (fun K hK => ?_)
          refine app_txts (by rfl) _ _ (by rfl) hT hN14 (by rfl) (by rfl) rfl hl ?_
          intro g2 cap2 w5 hN hgrow hat hlt
          have hgk := grown_keep hB hT hI hE hgrow
          replace hB := hgk.1
          replace hI := hgk.2.1
          replace hE := hgk.2.2
          clear hgk
          have HQ2 := at_txts (c := c) (A := A) (c1 := c1) (ve := ve) hat hHeld.size
          clear hat
          replace hT := hN
          refine hK.out _ _ (hHeld.grown hgrow (fun k hk => .inl (.inr (.inr (.inl hk))))) (fun hHeld => ?_)
        case' c40 =>
          have hN14 := hB.news 9 #[.string t]
          try simp only [World.size_alloc] at hN14
          go_simp
          replace hB := hB.alloc (.cells #[.string t] 9)
          replace hI := hI.alloc (.cells #[.string t] 9)
          replace hT := hT.alloc (.cells #[.string t] 9)
          replace hE := hE.alloc (.cells #[.string t] 9)
          replace hN7 := hN7.alloc (.cells #[.string t] 9)
          refine hK.out _ _ (hHeld.ext (ext_new _ _)) (fun hHeld => ?_)
          clear hK K
          refine rdy1 8 rfl (fun K hK => ?_)
          refine app_ids (by rfl) _ _ (by rfl) hI hN7 (by rfl) (by rfl) rfl hl ?_
          intro g1 cap1 w5 hN hgrow hat hlt
          replace hN14 := hN14.kept (hgrow.block _ hN14.lt (own_type hI hN14 (by decide)))
          have hgk := grown_keep hB hI hT hE hgrow
          replace hB := hgk.1
          replace hT := hgk.2.1
          replace hE := hgk.2.2
          clear hgk
          have HQ1 := at_ids (c := c) (B := B) (c2 := c2) (ve := ve) hat hHeld.size
          clear hat
          replace hI := hN
          refine hK.out _ _ (hHeld.grown hgrow (fun k hk => .inl (.inr (.inl hk)))) (fun hHeld => ?_)
          clear hK K
          refine rdy1 15 rfl (fun K hK => ?_)
          refine app_txts (by rfl) _ _ (by rfl) hT hN14 (by rfl) (by rfl) rfl hl ?_
          intro g2 cap2 w5 hN hgrow hat hlt
          have hgk := grown_keep hB hT hI hE hgrow
          replace hB := hgk.1
          replace hI := hgk.2.1
          replace hE := hgk.2.2
          clear hgk
          have HQ2 := at_txts (c := c) (A := A) (c1 := c1) (ve := ve) hat hHeld.size
          clear hat
          replace hT := hN
          refine hK.out _ _ (hHeld.grown hgrow (fun k hk => .inl (.inr (.inr (.inl hk))))) (fun hHeld => ?_)
      case' c38 =>
        have hN14 := hB.news 9 #[.string t]
        try simp only [World.size_alloc] at hN14
        go_simp
        replace hB := hB.alloc (.cells #[.string t] 9)
        replace hI := hI.alloc (.cells #[.string t] 9)
        replace hT := hT.alloc (.cells #[.string t] 9)
        replace hE := hE.alloc (.cells #[.string t] 9)
        replace hN7 := hN7.alloc (.cells #[.string t] 9)
        refine hK.out _ _ (hHeld.ext (ext_new _ _)) (fun hHeld => ?_)
        clear hK K
        refine rdy1 5 rfl (fun K hK => ?_)
        have x0 := hB.c7.1.1
        go_simp
        refine hK.out _ _ hHeld (fun hHeld => ?_)
        clear hK K
        refine rdy1 8 rfl (fun K hK => ?_)
        refine app_ids (by rfl) _ _ (by rfl) hI hN7 (by rfl) (by rfl) rfl hl ?_
        intro g1 cap1 w5 hN hgrow hat hlt
        replace hN14 := hN14.kept (hgrow.block _ hN14.lt (own_type hI hN14 (by decide)))
        have hgk := grown_keep hB hI hT hE hgrow
        replace hB := hgk.1
        replace hT := hgk.2.1
        replace hE := hgk.2.2
        clear hgk
        have HQ1 := at_ids (c := c) (B := B) (c2 := c2) (ve := ve) hat hHeld.size
        clear hat
        replace hI := hN
        refine hK.out _ _ (hHeld.grown hgrow (fun k hk => .inl (.inr (.inl hk)))) (fun hHeld => ?_)
        clear hK K
        refine rdy1 15 rfl (fun K hK => ?_)
        refine app_txts (by rfl) _ _ (by rfl) hT hN14 (by rfl) (by rfl) rfl hl ?_
        intro g2 cap2 w5 hN hgrow hat hlt
        have hgk := grown_keep hB hT hI hE hgrow
        replace hB := hgk.1
        replace hI := hgk.2.1
        replace hE := hgk.2.2
        clear hgk
        have HQ2 := at_txts (c := c) (A := A) (c1 := c1) (ve := ve) hat hHeld.size
        clear hat
        replace hT := hN
        refine hK.out _ _ (hHeld.grown hgrow (fun k hk => .inl (.inr (.inr (.inl hk))))) (fun hHeld => ?_)
    case' c27 =>
      have hN14 := hB.news 9 #[.string t]
      try simp only [World.size_alloc] at hN14
      go_simp
      replace hB := hB.alloc (.cells #[.string t] 9)
      replace hI := hI.alloc (.cells #[.string t] 9)
      replace hT := hT.alloc (.cells #[.string t] 9)
      replace hE := hE.alloc (.cells #[.string t] 9)
      replace hN7 := hN7.alloc (.cells #[.string t] 9)
      refine hK.out _ _ (hHeld.ext (ext_new _ _)) (fun hHeld => ?_)
      clear hK K
      refine rdy2 5 12 rfl rfl (fun K hK => ?c41) (fun K hK => ?c42)
      case' c41 =>
        have x0 := hB.c7.1.1
        go_simp
        refine hK.out _ _ hHeld (fun hHeld => ?_)
        clear hK K
        refine rdy2 8 12 rfl rfl (fun K hK => ?c43) (fun K hK => ?c44)
        case' c43 =>
          refine app_ids (by rfl) _ _ (by rfl) hI hN7 (by rfl) (by rfl) rfl hl ?_
          intro g1 cap1 w5 hN hgrow hat hlt
          replace hN14 := hN14.kept (hgrow.block _ hN14.lt (own_type hI hN14 (by decide)))
          have hgk := grown_keep hB hI hT hE hgrow
          replace hB := hgk.1
          replace hT := hgk.2.1
          replace hE := hgk.2.2
          clear hgk
          have HQ1 := at_ids (c := c) (B := B) (c2 := c2) (ve := ve) hat hHeld.size
          clear hat
          replace hI := hN
          refine hK.out _ _ (hHeld.grown hgrow (fun k hk => .inl (.inr (.inl hk)))) (fun hHeld => ?_)
          clear hK K
          refine rdy1 12 rfl (fun K hK => ?_)
          have x1 := hB.c7.1.2.1
          go_simp
          refine hK.out _ _ hHeld (fun hHeld => ?_)
          clear hK K
          refine rdy1 15 rfl (fun K hK => ?_)
          refine app_txts (by rfl) _ _ (by rfl) hT hN14 (by rfl) (by rfl) rfl hl ?_
          intro g2 cap2 w5 hN hgrow hat hlt
          have hgk := grown_keep hB hT hI hE hgrow
          replace hB := hgk.1
          replace hI := hgk.2.1
          replace hE := hgk.2.2
          clear hgk
          have HQ2 := at_txts (c := c) (A := A) (c1 := c1) (ve := ve) hat hHeld.size
          clear hat
          replace hT := hN
          refine hK.out _ _ (hHeld.grown hgrow (fun k hk => .inl (.inr (.inr (.inl hk))))) (fun hHeld => ?_)
        case' c44 =>
          have x1 := hB.c7.1.2.1
          go_simp
          refine hK.out _ _ hHeld (fun hHeld => ?_)
          clear hK K
          refine rdy1 8 rfl (fun K hK => ?_)
          refine app_ids (by rfl) _ _ (by rfl) hI hN7 (by rfl) (by rfl) rfl hl ?_
          intro g1 cap1 w5 hN hgrow hat hlt
          replace hN14 := hN14.kept (hgrow.block _ hN14.lt (own_type hI hN14 (by decide)))
          have hgk := grown_keep hB hI hT hE hgrow
          replace hB := hgk.1
          replace hT := hgk.2.1
          replace hE := hgk.2.2
          clear hgk
          have HQ1 := at_ids (c := c) (B := B) (c2 := c2) (ve := ve) hat hHeld.size
          clear hat
          replace hI := hN
          refine hK.out _ _ (hHeld.grown hgrow (fun k hk => .inl (.inr (.inl hk)))) (fun hHeld => ?_)
          clear hK K
          refine rdy1 15 rfl (fun K hK => ?_)
          refine app_txts (by rfl) _ _ (by rfl) hT hN14 (by rfl) (by rfl) rfl hl ?_
          intro g2 cap2 w5 hN hgrow hat hlt
          have hgk := grown_keep hB hT hI hE hgrow
          replace hB := hgk.1
          replace hI := hgk.2.1
          replace hE := hgk.2.2
          clear hgk
          have HQ2 := at_txts (c := c) (A := A) (c1 := c1) (ve := ve) hat hHeld.size
          clear hat
          replace hT := hN
          refine hK.out _ _ (hHeld.grown hgrow (fun k hk => .inl (.inr (.inr (.inl hk))))) (fun hHeld => ?_)
      case' c42 =>
        have x1 := hB.c7.1.2.1
        go_simp
        refine hK.out _ _ hHeld (fun hHeld => ?_)
        clear hK K
        refine rdy1 5 rfl (fun K hK => ?_)
        have x0 := hB.c7.1.1
        go_simp
        refine hK.out _ _ hHeld (fun hHeld => ?_)
        clear hK K
        refine rdy1 8 rfl (fun K hK => ?_)
        refine app_ids (by rfl) _ _ (by rfl) hI hN7 (by rfl) (by rfl) rfl hl ?_
        intro g1 cap1 w5 hN hgrow hat hlt
        replace hN14 := hN14.kept (hgrow.block _ hN14.lt (own_type hI hN14 (by decide)))
        have hgk := grown_keep hB hI hT hE hgrow
        replace hB := hgk.1
        replace hT := hgk.2.1
        replace hE := hgk.2.2
        clear hgk
        have HQ1 := at_ids (c := c) (B := B) (c2 := c2) (ve := ve) hat hHeld.size
        clear hat
        replace hI := hN
        refine hK.out _ _ (hHeld.grown hgrow (fun k hk => .inl (.inr (.inl hk)))) (fun hHeld => ?_)
        clear hK K
        refine rdy1 15 rfl (fun K hK => ?_)
        refine app_txts (by rfl) _ _ (by rfl) hT hN14 (by rfl) (by rfl) rfl hl ?_
        intro g2 cap2 w5 hN hgrow hat hlt
        have hgk := grown_keep hB hT hI hE hgrow
        replace hB := hgk.1
        replace hI := hgk.2.1
        replace hE := hgk.2.2
        clear hgk
        have HQ2 := at_txts (c := c) (A := A) (c1 := c1) (ve := ve) hat hHeld.size
        clear hat
        replace hT := hN
        refine hK.out _ _ (hHeld.grown hgrow (fun k hk => .inl (.inr (.inr (.inl hk))))) (fun hHeld => ?_)
  case' c3 =>
    have x1 := hB.c7.1.2.1
    go_simp
    refine hK.out _ _ hHeld (fun hHeld => ?_)
    clear hK K
    refine rdy3 5 7 14 rfl rfl rfl (fun K hK => ?c45) (fun K hK => ?c46) (fun K hK => ?c47)
    case' c45 =>
      have x0 := hB.c7.1.1
      go_simp
      refine hK.out _ _ hHeld (fun hHeld => ?_)
      clear hK K
      refine rdy2 7 14 rfl rfl (fun K hK => ?c48) (fun K hK => ?c49)
      case' c48 =>
        have hN7 := hB.news 3 #[.int .i64 id]
        try simp only [World.size_alloc] at hN7
        go_simp
        replace hB := hB.alloc (.cells #[.int .i64 id] 3)
        replace hI := hI.alloc (.cells #[.int .i64 id] 3)
        replace hT := hT.alloc (.cells #[.int .i64 id] 3)
        replace hE := hE.alloc (.cells #[.int .i64 id] 3)
        refine hK.out _ _ (hHeld.ext (ext_new _ _)) (fun hHeld => ?_)
        clear hK K
        refine rdy2 8 14 rfl rfl (fun K hK => ?c50) (fun K hK => ?c51)
        case' c50 =>
          refine app_ids (by rfl) _ _ (by rfl) hI hN7 (by rfl) (by rfl) rfl hl ?_
          intro g1 cap1 w5 hN hgrow hat hlt
          have hgk := grown_keep hB hI hT hE hgrow
          replace hB := hgk.1
          replace hT := hgk.2.1
          replace hE := hgk.2.2
          clear hgk
          have HQ1 := at_ids (c := c) (B := B) (c2 := c2) (ve := ve) hat hHeld.size
          clear hat
          replace hI := hN
          refine hK.out _ _ (hHeld.grown hgrow (fun k hk => .inl (.inr (.inl hk)))) (fun hHeld => ?_)
          clear hK K
          refine rdy1 14 rfl (fun K hK => ?_)
          have hN14 := hB.news 9 #[.string t]
          try simp only [World.size_alloc] at hN14
          go_simp
          replace hB := hB.alloc (.cells #[.string t] 9)
          replace hI := hI.alloc (.cells #[.string t] 9)
          replace hT := hT.alloc (.cells #[.string t] 9)
          replace hE := hE.alloc (.cells #[.string t] 9)
          replace hN7 := hN7.alloc (.cells #[.string t] 9)
          refine hK.out _ _ (hHeld.ext (ext_new _ _)) (fun hHeld => ?_)
          clear hK K
          refine rdy1 15 rfl (fun K hK => ?_)
          refine app_txts (by rfl) _ _ (by rfl) hT hN14 (by rfl) (by rfl) rfl hl ?_
          intro g2 cap2 w5 hN hgrow hat hlt
          have hgk := grown_keep hB hT hI hE hgrow
          replace hB := hgk.1
          replace hI := hgk.2.1
          replace hE := hgk.2.2
          clear hgk
          have HQ2 := at_txts (c := c) (A := A) (c1 := c1) (ve := ve) hat hHeld.size
          clear hat
          replace hT := hN
          refine hK.out _ _ (hHeld.grown hgrow (fun k hk => .inl (.inr (.inr (.inl hk))))) (fun hHeld => ?_)
        case' c51 =>
          have hN14 := hB.news 9 #[.string t]
          try simp only [World.size_alloc] at hN14
          go_simp
          replace hB := hB.alloc (.cells #[.string t] 9)
          replace hI := hI.alloc (.cells #[.string t] 9)
          replace hT := hT.alloc (.cells #[.string t] 9)
          replace hE := hE.alloc (.cells #[.string t] 9)
          replace hN7 := hN7.alloc (.cells #[.string t] 9)
          refine hK.out _ _ (hHeld.ext (ext_new _ _)) (fun hHeld => ?_)
          clear hK K
          refine rdy1 8 rfl (fun K hK => ?_)
          refine app_ids (by rfl) _ _ (by rfl) hI hN7 (by rfl) (by rfl) rfl hl ?_
          intro g1 cap1 w5 hN hgrow hat hlt
          replace hN14 := hN14.kept (hgrow.block _ hN14.lt (own_type hI hN14 (by decide)))
          have hgk := grown_keep hB hI hT hE hgrow
          replace hB := hgk.1
          replace hT := hgk.2.1
          replace hE := hgk.2.2
          clear hgk
          have HQ1 := at_ids (c := c) (B := B) (c2 := c2) (ve := ve) hat hHeld.size
          clear hat
          replace hI := hN
          refine hK.out _ _ (hHeld.grown hgrow (fun k hk => .inl (.inr (.inl hk)))) (fun hHeld => ?_)
          clear hK K
          refine rdy1 15 rfl (fun K hK => ?_)
          refine app_txts (by rfl) _ _ (by rfl) hT hN14 (by rfl) (by rfl) rfl hl ?_
          intro g2 cap2 w5 hN hgrow hat hlt
          have hgk := grown_keep hB hT hI hE hgrow
          replace hB := hgk.1
          replace hI := hgk.2.1
          replace hE := hgk.2.2
          clear hgk
          have HQ2 := at_txts (c := c) (A := A) (c1 := c1) (ve := ve) hat hHeld.size
          clear hat
          replace hT := hN
          refine hK.out _ _ (hHeld.grown hgrow (fun k hk => .inl (.inr (.inr (.inl hk))))) (fun hHeld => ?_)
      case' c49 =>
        have hN14 := hB.news 9 #[.string t]
        try simp only [World.size_alloc] at hN14
        go_simp
        replace hB := hB.alloc (.cells #[.string t] 9)
        replace hI := hI.alloc (.cells #[.string t] 9)
        replace hT := hT.alloc (.cells #[.string t] 9)
        replace hE := hE.alloc (.cells #[.string t] 9)
        refine hK.out _ _ (hHeld.ext (ext_new _ _)) (fun hHeld => ?_)
        clear hK K
        refine rdy1 7 rfl (fun K hK => ?_)
        have hN7 := hB.news 3 #[.int .i64 id]
        try simp only [World.size_alloc] at hN7
        go_simp
        replace hB := hB.alloc (.cells #[.int .i64 id] 3)
        replace hI := hI.alloc (.cells #[.int .i64 id] 3)
        replace hT := hT.alloc (.cells #[.int .i64 id] 3)
        replace hE := hE.alloc (.cells #[.int .i64 id] 3)
        replace hN14 := hN14.alloc (.cells #[.int .i64 id] 3)
        refine hK.out _ _ (hHeld.ext (ext_new _ _)) (fun hHeld => ?_)
        clear hK K
        refine rdy1 8 rfl (fun K hK => ?_)
        refine app_ids (by rfl) _ _ (by rfl) hI hN7 (by rfl) (by rfl) rfl hl ?_
        intro g1 cap1 w5 hN hgrow hat hlt
        replace hN14 := hN14.kept (hgrow.block _ hN14.lt (own_type hI hN14 (by decide)))
        have hgk := grown_keep hB hI hT hE hgrow
        replace hB := hgk.1
        replace hT := hgk.2.1
        replace hE := hgk.2.2
        clear hgk
        have HQ1 := at_ids (c := c) (B := B) (c2 := c2) (ve := ve) hat hHeld.size
        clear hat
        replace hI := hN
        refine hK.out _ _ (hHeld.grown hgrow (fun k hk => .inl (.inr (.inl hk)))) (fun hHeld => ?_)
        clear hK K
        refine rdy1 15 rfl (fun K hK => ?_)
        refine app_txts (by rfl) _ _ (by rfl) hT hN14 (by rfl) (by rfl) rfl hl ?_
        intro g2 cap2 w5 hN hgrow hat hlt
        have hgk := grown_keep hB hT hI hE hgrow
        replace hB := hgk.1
        replace hI := hgk.2.1
        replace hE := hgk.2.2
        clear hgk
        have HQ2 := at_txts (c := c) (A := A) (c1 := c1) (ve := ve) hat hHeld.size
        clear hat
        replace hT := hN
        refine hK.out _ _ (hHeld.grown hgrow (fun k hk => .inl (.inr (.inr (.inl hk))))) (fun hHeld => ?_)
    case' c46 =>
      have hN7 := hB.news 3 #[.int .i64 id]
      try simp only [World.size_alloc] at hN7
      go_simp
      replace hB := hB.alloc (.cells #[.int .i64 id] 3)
      replace hI := hI.alloc (.cells #[.int .i64 id] 3)
      replace hT := hT.alloc (.cells #[.int .i64 id] 3)
      replace hE := hE.alloc (.cells #[.int .i64 id] 3)
      refine hK.out _ _ (hHeld.ext (ext_new _ _)) (fun hHeld => ?_)
      clear hK K
      refine rdy2 5 14 rfl rfl (fun K hK => ?c52) (fun K hK => ?c53)
      case' c52 =>
        have x0 := hB.c7.1.1
        go_simp
        refine hK.out _ _ hHeld (fun hHeld => ?_)
        clear hK K
        refine rdy2 8 14 rfl rfl (fun K hK => ?c54) (fun K hK => ?c55)
        case' c54 =>
          refine app_ids (by rfl) _ _ (by rfl) hI hN7 (by rfl) (by rfl) rfl hl ?_
          intro g1 cap1 w5 hN hgrow hat hlt
          have hgk := grown_keep hB hI hT hE hgrow
          replace hB := hgk.1
          replace hT := hgk.2.1
          replace hE := hgk.2.2
          clear hgk
          have HQ1 := at_ids (c := c) (B := B) (c2 := c2) (ve := ve) hat hHeld.size
          clear hat
          replace hI := hN
          refine hK.out _ _ (hHeld.grown hgrow (fun k hk => .inl (.inr (.inl hk)))) (fun hHeld => ?_)
          clear hK K
          refine rdy1 14 rfl (fun K hK => ?_)
          have hN14 := hB.news 9 #[.string t]
          try simp only [World.size_alloc] at hN14
          go_simp
          replace hB := hB.alloc (.cells #[.string t] 9)
          replace hI := hI.alloc (.cells #[.string t] 9)
          replace hT := hT.alloc (.cells #[.string t] 9)
          replace hE := hE.alloc (.cells #[.string t] 9)
          replace hN7 := hN7.alloc (.cells #[.string t] 9)
          refine hK.out _ _ (hHeld.ext (ext_new _ _)) (fun hHeld => ?_)
          clear hK K
          refine rdy1 15 rfl (fun K hK => ?_)
          refine app_txts (by rfl) _ _ (by rfl) hT hN14 (by rfl) (by rfl) rfl hl ?_
          intro g2 cap2 w5 hN hgrow hat hlt
          have hgk := grown_keep hB hT hI hE hgrow
          replace hB := hgk.1
          replace hI := hgk.2.1
          replace hE := hgk.2.2
          clear hgk
          have HQ2 := at_txts (c := c) (A := A) (c1 := c1) (ve := ve) hat hHeld.size
          clear hat
          replace hT := hN
          refine hK.out _ _ (hHeld.grown hgrow (fun k hk => .inl (.inr (.inr (.inl hk))))) (fun hHeld => ?_)
        case' c55 =>
          have hN14 := hB.news 9 #[.string t]
          try simp only [World.size_alloc] at hN14
          go_simp
          replace hB := hB.alloc (.cells #[.string t] 9)
          replace hI := hI.alloc (.cells #[.string t] 9)
          replace hT := hT.alloc (.cells #[.string t] 9)
          replace hE := hE.alloc (.cells #[.string t] 9)
          replace hN7 := hN7.alloc (.cells #[.string t] 9)
          refine hK.out _ _ (hHeld.ext (ext_new _ _)) (fun hHeld => ?_)
          clear hK K
          refine rdy1 8 rfl (fun K hK => ?_)
          refine app_ids (by rfl) _ _ (by rfl) hI hN7 (by rfl) (by rfl) rfl hl ?_
          intro g1 cap1 w5 hN hgrow hat hlt
          replace hN14 := hN14.kept (hgrow.block _ hN14.lt (own_type hI hN14 (by decide)))
          have hgk := grown_keep hB hI hT hE hgrow
          replace hB := hgk.1
          replace hT := hgk.2.1
          replace hE := hgk.2.2
          clear hgk
          have HQ1 := at_ids (c := c) (B := B) (c2 := c2) (ve := ve) hat hHeld.size
          clear hat
          replace hI := hN
          refine hK.out _ _ (hHeld.grown hgrow (fun k hk => .inl (.inr (.inl hk)))) (fun hHeld => ?_)
          clear hK K
          refine rdy1 15 rfl (fun K hK => ?_)
          refine app_txts (by rfl) _ _ (by rfl) hT hN14 (by rfl) (by rfl) rfl hl ?_
          intro g2 cap2 w5 hN hgrow hat hlt
          have hgk := grown_keep hB hT hI hE hgrow
          replace hB := hgk.1
          replace hI := hgk.2.1
          replace hE := hgk.2.2
          clear hgk
          have HQ2 := at_txts (c := c) (A := A) (c1 := c1) (ve := ve) hat hHeld.size
          clear hat
          replace hT := hN
          refine hK.out _ _ (hHeld.grown hgrow (fun k hk => .inl (.inr (.inr (.inl hk))))) (fun hHeld => ?_)
      case' c53 =>
        have hN14 := hB.news 9 #[.string t]
        try simp only [World.size_alloc] at hN14
        go_simp
        replace hB := hB.alloc (.cells #[.string t] 9)
        replace hI := hI.alloc (.cells #[.string t] 9)
        replace hT := hT.alloc (.cells #[.string t] 9)
        replace hE := hE.alloc (.cells #[.string t] 9)
        replace hN7 := hN7.alloc (.cells #[.string t] 9)
        refine hK.out _ _ (hHeld.ext (ext_new _ _)) (fun hHeld => ?_)
        clear hK K
        refine rdy1 5 rfl (fun K hK => ?_)
        have x0 := hB.c7.1.1
        go_simp
        refine hK.out _ _ hHeld (fun hHeld => ?_)
        clear hK K
        refine rdy1 8 rfl (fun K hK => ?_)
        refine app_ids (by rfl) _ _ (by rfl) hI hN7 (by rfl) (by rfl) rfl hl ?_
        intro g1 cap1 w5 hN hgrow hat hlt
        replace hN14 := hN14.kept (hgrow.block _ hN14.lt (own_type hI hN14 (by decide)))
        have hgk := grown_keep hB hI hT hE hgrow
        replace hB := hgk.1
        replace hT := hgk.2.1
        replace hE := hgk.2.2
        clear hgk
        have HQ1 := at_ids (c := c) (B := B) (c2 := c2) (ve := ve) hat hHeld.size
        clear hat
        replace hI := hN
        refine hK.out _ _ (hHeld.grown hgrow (fun k hk => .inl (.inr (.inl hk)))) (fun hHeld => ?_)
        clear hK K
        refine rdy1 15 rfl (fun K hK => ?_)
        refine app_txts (by rfl) _ _ (by rfl) hT hN14 (by rfl) (by rfl) rfl hl ?_
        intro g2 cap2 w5 hN hgrow hat hlt
        have hgk := grown_keep hB hT hI hE hgrow
        replace hB := hgk.1
        replace hI := hgk.2.1
        replace hE := hgk.2.2
        clear hgk
        have HQ2 := at_txts (c := c) (A := A) (c1 := c1) (ve := ve) hat hHeld.size
        clear hat
        replace hT := hN
        refine hK.out _ _ (hHeld.grown hgrow (fun k hk => .inl (.inr (.inr (.inl hk))))) (fun hHeld => ?_)
    case' c47 =>
      have hN14 := hB.news 9 #[.string t]
      try simp only [World.size_alloc] at hN14
      go_simp
      replace hB := hB.alloc (.cells #[.string t] 9)
      replace hI := hI.alloc (.cells #[.string t] 9)
      replace hT := hT.alloc (.cells #[.string t] 9)
      replace hE := hE.alloc (.cells #[.string t] 9)
      refine hK.out _ _ (hHeld.ext (ext_new _ _)) (fun hHeld => ?_)
      clear hK K
      refine rdy2 5 7 rfl rfl (fun K hK => ?c56) (fun K hK => ?c57)
      case' c56 =>
        have x0 := hB.c7.1.1
        go_simp
        refine hK.out _ _ hHeld (fun hHeld => ?_)
        clear hK K
        refine rdy1 7 rfl (fun K hK => ?_)
        have hN7 := hB.news 3 #[.int .i64 id]
        try simp only [World.size_alloc] at hN7
        go_simp
        replace hB := hB.alloc (.cells #[.int .i64 id] 3)
        replace hI := hI.alloc (.cells #[.int .i64 id] 3)
        replace hT := hT.alloc (.cells #[.int .i64 id] 3)
        replace hE := hE.alloc (.cells #[.int .i64 id] 3)
        replace hN14 := hN14.alloc (.cells #[.int .i64 id] 3)
        refine hK.out _ _ (hHeld.ext (ext_new _ _)) (fun hHeld => ?_)
        clear hK K
        refine rdy1 8 rfl (fun K hK => ?_)
        refine app_ids (by rfl) _ _ (by rfl) hI hN7 (by rfl) (by rfl) rfl hl ?_
        intro g1 cap1 w5 hN hgrow hat hlt
        replace hN14 := hN14.kept (hgrow.block _ hN14.lt (own_type hI hN14 (by decide)))
        have hgk := grown_keep hB hI hT hE hgrow
        replace hB := hgk.1
        replace hT := hgk.2.1
        replace hE := hgk.2.2
        clear hgk
        have HQ1 := at_ids (c := c) (B := B) (c2 := c2) (ve := ve) hat hHeld.size
        clear hat
        replace hI := hN
        refine hK.out _ _ (hHeld.grown hgrow (fun k hk => .inl (.inr (.inl hk)))) (fun hHeld => ?_)
        clear hK K
        refine rdy1 15 rfl (fun K hK => ?_)
        refine app_txts (by rfl) _ _ (by rfl) hT hN14 (by rfl) (by rfl) rfl hl ?_
        intro g2 cap2 w5 hN hgrow hat hlt
        have hgk := grown_keep hB hT hI hE hgrow
        replace hB := hgk.1
        replace hI := hgk.2.1
        replace hE := hgk.2.2
        clear hgk
        have HQ2 := at_txts (c := c) (A := A) (c1 := c1) (ve := ve) hat hHeld.size
        clear hat
        replace hT := hN
        refine hK.out _ _ (hHeld.grown hgrow (fun k hk => .inl (.inr (.inr (.inl hk))))) (fun hHeld => ?_)
      case' c57 =>
        have hN7 := hB.news 3 #[.int .i64 id]
        try simp only [World.size_alloc] at hN7
        go_simp
        replace hB := hB.alloc (.cells #[.int .i64 id] 3)
        replace hI := hI.alloc (.cells #[.int .i64 id] 3)
        replace hT := hT.alloc (.cells #[.int .i64 id] 3)
        replace hE := hE.alloc (.cells #[.int .i64 id] 3)
        replace hN14 := hN14.alloc (.cells #[.int .i64 id] 3)
        refine hK.out _ _ (hHeld.ext (ext_new _ _)) (fun hHeld => ?_)
        clear hK K
        refine rdy1 5 rfl (fun K hK => ?_)
        have x0 := hB.c7.1.1
        go_simp
        refine hK.out _ _ hHeld (fun hHeld => ?_)
        clear hK K
        refine rdy1 8 rfl (fun K hK => ?_)
        refine app_ids (by rfl) _ _ (by rfl) hI hN7 (by rfl) (by rfl) rfl hl ?_
        intro g1 cap1 w5 hN hgrow hat hlt
        replace hN14 := hN14.kept (hgrow.block _ hN14.lt (own_type hI hN14 (by decide)))
        have hgk := grown_keep hB hI hT hE hgrow
        replace hB := hgk.1
        replace hT := hgk.2.1
        replace hE := hgk.2.2
        clear hgk
        have HQ1 := at_ids (c := c) (B := B) (c2 := c2) (ve := ve) hat hHeld.size
        clear hat
        replace hI := hN
        refine hK.out _ _ (hHeld.grown hgrow (fun k hk => .inl (.inr (.inl hk)))) (fun hHeld => ?_)
        clear hK K
        refine rdy1 15 rfl (fun K hK => ?_)
        refine app_txts (by rfl) _ _ (by rfl) hT hN14 (by rfl) (by rfl) rfl hl ?_
        intro g2 cap2 w5 hN hgrow hat hlt
        have hgk := grown_keep hB hT hI hE hgrow
        replace hB := hgk.1
        replace hI := hgk.2.1
        replace hE := hgk.2.2
        clear hgk
        have HQ2 := at_txts (c := c) (A := A) (c1 := c1) (ve := ve) hat hHeld.size
        clear hat
        replace hT := hN
        refine hK.out _ _ (hHeld.grown hgrow (fun k hk => .inl (.inr (.inr (.inl hk))))) (fun hHeld => ?_)
  case' c4 =>
    have hN14 := hB.news 9 #[.string t]
    try simp only [World.size_alloc] at hN14
    go_simp
    replace hB := hB.alloc (.cells #[.string t] 9)
    replace hI := hI.alloc (.cells #[.string t] 9)
    replace hT := hT.alloc (.cells #[.string t] 9)
    replace hE := hE.alloc (.cells #[.string t] 9)
    refine hK.out _ _ (hHeld.ext (ext_new _ _)) (fun hHeld => ?_)
    clear hK K
    refine rdy3 5 7 12 rfl rfl rfl (fun K hK => ?c58) (fun K hK => ?c59) (fun K hK => ?c60)
    case' c58 =>
      have x0 := hB.c7.1.1
      go_simp
      refine hK.out _ _ hHeld (fun hHeld => ?_)
      clear hK K
      refine rdy2 7 12 rfl rfl (fun K hK => ?c61) (fun K hK => ?c62)
      case' c61 =>
        have hN7 := hB.news 3 #[.int .i64 id]
        try simp only [World.size_alloc] at hN7
        go_simp
        replace hB := hB.alloc (.cells #[.int .i64 id] 3)
        replace hI := hI.alloc (.cells #[.int .i64 id] 3)
        replace hT := hT.alloc (.cells #[.int .i64 id] 3)
        replace hE := hE.alloc (.cells #[.int .i64 id] 3)
        replace hN14 := hN14.alloc (.cells #[.int .i64 id] 3)
        refine hK.out _ _ (hHeld.ext (ext_new _ _)) (fun hHeld => ?_)
        clear hK K
        refine rdy2 8 12 rfl rfl (fun K hK => ?c63) (fun K hK => ?c64)
        case' c63 =>
          refine app_ids (by rfl) _ _ (by rfl) hI hN7 (by rfl) (by rfl) rfl hl ?_
          intro g1 cap1 w5 hN hgrow hat hlt
          replace hN14 := hN14.kept (hgrow.block _ hN14.lt (own_type hI hN14 (by decide)))
          have hgk := grown_keep hB hI hT hE hgrow
          replace hB := hgk.1
          replace hT := hgk.2.1
          replace hE := hgk.2.2
          clear hgk
          have HQ1 := at_ids (c := c) (B := B) (c2 := c2) (ve := ve) hat hHeld.size
          clear hat
          replace hI := hN
          refine hK.out _ _ (hHeld.grown hgrow (fun k hk => .inl (.inr (.inl hk)))) (fun hHeld => ?_)
          clear hK K
          refine rdy1 12 rfl (fun K hK => ?_)
          have x1 := hB.c7.1.2.1
          go_simp
          refine hK.out _ _ hHeld (fun hHeld => ?_)
          clear hK K
          refine rdy1 15 rfl (fun K hK => ?_)
          refine app_txts (by rfl) _ _ (by rfl) hT hN14 (by rfl) (by rfl) rfl hl ?_
          intro g2 cap2 w5 hN hgrow hat hlt
          have hgk := grown_keep hB hT hI hE hgrow
          replace hB := hgk.1
          replace hI := hgk.2.1
          replace hE := hgk.2.2
          clear hgk
          have HQ2 := at_txts (c := c) (A := A) (c1 := c1) (ve := ve) hat hHeld.size
          clear hat
          replace hT := hN
          refine hK.out _ _ (hHeld.grown hgrow (fun k hk => .inl (.inr (.inr (.inl hk))))) (fun hHeld => ?_)
        case' c64 =>
          have x1 := hB.c7.1.2.1
          go_simp
          refine hK.out _ _ hHeld (fun hHeld => ?_)
          clear hK K
          refine rdy1 8 rfl (fun K hK => ?_)
          refine app_ids (by rfl) _ _ (by rfl) hI hN7 (by rfl) (by rfl) rfl hl ?_
          intro g1 cap1 w5 hN hgrow hat hlt
          replace hN14 := hN14.kept (hgrow.block _ hN14.lt (own_type hI hN14 (by decide)))
          have hgk := grown_keep hB hI hT hE hgrow
          replace hB := hgk.1
          replace hT := hgk.2.1
          replace hE := hgk.2.2
          clear hgk
          have HQ1 := at_ids (c := c) (B := B) (c2 := c2) (ve := ve) hat hHeld.size
          clear hat
          replace hI := hN
          refine hK.out _ _ (hHeld.grown hgrow (fun k hk => .inl (.inr (.inl hk)))) (fun hHeld => ?_)
          clear hK K
          refine rdy1 15 rfl (fun K hK => ?_)
          refine app_txts (by rfl) _ _ (by rfl) hT hN14 (by rfl) (by rfl) rfl hl ?_
          intro g2 cap2 w5 hN hgrow hat hlt
          have hgk := grown_keep hB hT hI hE hgrow
          replace hB := hgk.1
          replace hI := hgk.2.1
          replace hE := hgk.2.2
          clear hgk
          have HQ2 := at_txts (c := c) (A := A) (c1 := c1) (ve := ve) hat hHeld.size
          clear hat
          replace hT := hN
          refine hK.out _ _ (hHeld.grown hgrow (fun k hk => .inl (.inr (.inr (.inl hk))))) (fun hHeld => ?_)
      case' c62 =>
        have x1 := hB.c7.1.2.1
        go_simp
        refine hK.out _ _ hHeld (fun hHeld => ?_)
        clear hK K
        refine rdy1 7 rfl (fun K hK => ?_)
        have hN7 := hB.news 3 #[.int .i64 id]
        try simp only [World.size_alloc] at hN7
        go_simp
        replace hB := hB.alloc (.cells #[.int .i64 id] 3)
        replace hI := hI.alloc (.cells #[.int .i64 id] 3)
        replace hT := hT.alloc (.cells #[.int .i64 id] 3)
        replace hE := hE.alloc (.cells #[.int .i64 id] 3)
        replace hN14 := hN14.alloc (.cells #[.int .i64 id] 3)
        refine hK.out _ _ (hHeld.ext (ext_new _ _)) (fun hHeld => ?_)
        clear hK K
        refine rdy1 8 rfl (fun K hK => ?_)
        refine app_ids (by rfl) _ _ (by rfl) hI hN7 (by rfl) (by rfl) rfl hl ?_
        intro g1 cap1 w5 hN hgrow hat hlt
        replace hN14 := hN14.kept (hgrow.block _ hN14.lt (own_type hI hN14 (by decide)))
        have hgk := grown_keep hB hI hT hE hgrow
        replace hB := hgk.1
        replace hT := hgk.2.1
        replace hE := hgk.2.2
        clear hgk
        have HQ1 := at_ids (c := c) (B := B) (c2 := c2) (ve := ve) hat hHeld.size
        clear hat
        replace hI := hN
        refine hK.out _ _ (hHeld.grown hgrow (fun k hk => .inl (.inr (.inl hk)))) (fun hHeld => ?_)
        clear hK K
        refine rdy1 15 rfl (fun K hK => ?_)
        refine app_txts (by rfl) _ _ (by rfl) hT hN14 (by rfl) (by rfl) rfl hl ?_
        intro g2 cap2 w5 hN hgrow hat hlt
        have hgk := grown_keep hB hT hI hE hgrow
        replace hB := hgk.1
        replace hI := hgk.2.1
        replace hE := hgk.2.2
        clear hgk
        have HQ2 := at_txts (c := c) (A := A) (c1 := c1) (ve := ve) hat hHeld.size
        clear hat
        replace hT := hN
        refine hK.out _ _ (hHeld.grown hgrow (fun k hk => .inl (.inr (.inr (.inl hk))))) (fun hHeld => ?_)
    case' c59 =>
      have hN7 := hB.news 3 #[.int .i64 id]
      try simp only [World.size_alloc] at hN7
      go_simp
      replace hB := hB.alloc (.cells #[.int .i64 id] 3)
      replace hI := hI.alloc (.cells #[.int .i64 id] 3)
      replace hT := hT.alloc (.cells #[.int .i64 id] 3)
      replace hE := hE.alloc (.cells #[.int .i64 id] 3)
      replace hN14 := hN14.alloc (.cells #[.int .i64 id] 3)
      refine hK.out _ _ (hHeld.ext (ext_new _ _)) (fun hHeld => ?_)
      clear hK K
      refine rdy2 5 12 rfl rfl (fun K hK => ?c65) (fun K hK => ?c66)
      case' c65 =>
        have x0 := hB.c7.1.1
        go_simp
        refine hK.out _ _ hHeld (fun hHeld => ?_)
        clear hK K
        refine rdy2 8 12 rfl rfl (fun K hK => ?c67) (fun K hK => ?c68)
        case' c67 =>
          refine app_ids (by rfl) _ _ (by rfl) hI hN7 (by rfl) (by rfl) rfl hl ?_
          intro g1 cap1 w5 hN hgrow hat hlt
          replace hN14 := hN14.kept (hgrow.block _ hN14.lt (own_type hI hN14 (by decide)))
          have hgk := grown_keep hB hI hT hE hgrow
          replace hB := hgk.1
          replace hT := hgk.2.1
          replace hE := hgk.2.2
          clear hgk
          have HQ1 := at_ids (c := c) (B := B) (c2 := c2) (ve := ve) hat hHeld.size
          clear hat
          replace hI := hN
          refine hK.out _ _ (hHeld.grown hgrow (fun k hk => .inl (.inr (.inl hk)))) (fun hHeld => ?_)
          clear hK K
          refine rdy1 12 rfl (fun K hK => ?_)
          have x1 := hB.c7.1.2.1
          go_simp
          refine hK.out _ _ hHeld (fun hHeld => ?_)
          clear hK K
          refine rdy1 15 rfl (fun K hK => ?_)
          refine app_txts (by rfl) _ _ (by rfl) hT hN14 (by rfl) (by rfl) rfl hl ?_
          intro g2 cap2 w5 hN hgrow hat hlt
          have hgk := grown_keep hB hT hI hE hgrow
          replace hB := hgk.1
          replace hI := hgk.2.1
          replace hE := hgk.2.2
          clear hgk
          have HQ2 := at_txts (c := c) (A := A) (c1 := c1) (ve := ve) hat hHeld.size
          clear hat
          replace hT := hN
          refine hK.out _ _ (hHeld.grown hgrow (fun k hk => .inl (.inr (.inr (.inl hk))))) (fun hHeld => ?_)
        case' c68 =>
          have x1 := hB.c7.1.2.1
          go_simp
          refine hK.out _ _ hHeld (fun hHeld => ?_)
          clear hK K
          refine rdy1 8 rfl (fun K hK => ?_)
          refine app_ids (by rfl) _ _ (by rfl) hI hN7 (by rfl) (by rfl) rfl hl ?_
          intro g1 cap1 w5 hN hgrow hat hlt
          replace hN14 := hN14.kept (hgrow.block _ hN14.lt (own_type hI hN14 (by decide)))
          have hgk := grown_keep hB hI hT hE hgrow
          replace hB := hgk.1
          replace hT := hgk.2.1
          replace hE := hgk.2.2
          clear hgk
          have HQ1 := at_ids (c := c) (B := B) (c2 := c2) (ve := ve) hat hHeld.size
          clear hat
          replace hI := hN
          refine hK.out _ _ (hHeld.grown hgrow (fun k hk => .inl (.inr (.inl hk)))) (fun hHeld => ?_)
          clear hK K
          refine rdy1 15 rfl (fun K hK => ?_)
          refine app_txts (by rfl) _ _ (by rfl) hT hN14 (by rfl) (by rfl) rfl hl ?_
          intro g2 cap2 w5 hN hgrow hat hlt
          have hgk := grown_keep hB hT hI hE hgrow
          replace hB := hgk.1
          replace hI := hgk.2.1
          replace hE := hgk.2.2
          clear hgk
          have HQ2 := at_txts (c := c) (A := A) (c1 := c1) (ve := ve) hat hHeld.size
          clear hat
          replace hT := hN
          refine hK.out _ _ (hHeld.grown hgrow (fun k hk => .inl (.inr (.inr (.inl hk))))) (fun hHeld => ?_)
      case' c66 =>
        have x1 := hB.c7.1.2.1
        go_simp
        refine hK.out _ _ hHeld (fun hHeld => ?_)
        clear hK K
        refine rdy1 5 rfl (fun K hK => ?_)
        have x0 := hB.c7.1.1
        go_simp
        refine hK.out _ _ hHeld (fun hHeld => ?_)
        clear hK K
        refine rdy1 8 rfl (fun K hK => ?_)
        refine app_ids (by rfl) _ _ (by rfl) hI hN7 (by rfl) (by rfl) rfl hl ?_
        intro g1 cap1 w5 hN hgrow hat hlt
        replace hN14 := hN14.kept (hgrow.block _ hN14.lt (own_type hI hN14 (by decide)))
        have hgk := grown_keep hB hI hT hE hgrow
        replace hB := hgk.1
        replace hT := hgk.2.1
        replace hE := hgk.2.2
        clear hgk
        have HQ1 := at_ids (c := c) (B := B) (c2 := c2) (ve := ve) hat hHeld.size
        clear hat
        replace hI := hN
        refine hK.out _ _ (hHeld.grown hgrow (fun k hk => .inl (.inr (.inl hk)))) (fun hHeld => ?_)
        clear hK K
        refine rdy1 15 rfl (fun K hK => ?_)
        refine app_txts (by rfl) _ _ (by rfl) hT hN14 (by rfl) (by rfl) rfl hl ?_
        intro g2 cap2 w5 hN hgrow hat hlt
        have hgk := grown_keep hB hT hI hE hgrow
        replace hB := hgk.1
        replace hI := hgk.2.1
        replace hE := hgk.2.2
        clear hgk
        have HQ2 := at_txts (c := c) (A := A) (c1 := c1) (ve := ve) hat hHeld.size
        clear hat
        replace hT := hN
        refine hK.out _ _ (hHeld.grown hgrow (fun k hk => .inl (.inr (.inr (.inl hk))))) (fun hHeld => ?_)
    case' c60 =>
      have x1 := hB.c7.1.2.1
      go_simp
      refine hK.out _ _ hHeld (fun hHeld => ?_)
      clear hK K
      refine rdy2 5 7 rfl rfl (fun K hK => ?c69) (fun K hK => ?c70)
      case' c69 =>
        have x0 := hB.c7.1.1
        go_simp
        refine hK.out _ _ hHeld (fun hHeld => ?_)
        clear hK K
        refine rdy1 7 rfl (fun K hK => ?_)
        have hN7 := hB.news 3 #[.int .i64 id]
        try simp only [World.size_alloc] at hN7
        go_simp
        replace hB := hB.alloc (.cells #[.int .i64 id] 3)
        replace hI := hI.alloc (.cells #[.int .i64 id] 3)
        replace hT := hT.alloc (.cells #[.int .i64 id] 3)
        replace hE := hE.alloc (.cells #[.int .i64 id] 3)
        replace hN14 := hN14.alloc (.cells #[.int .i64 id] 3)
        refine hK.out _ _ (hHeld.ext (ext_new _ _)) (fun hHeld => ?_)
        clear hK K
        refine rdy1 8 rfl (fun K hK => ?_)
        refine app_ids (by rfl) _ _ (by rfl) hI hN7 (by rfl) (by rfl) rfl hl ?_
        intro g1 cap1 w5 hN hgrow hat hlt
        replace hN14 := hN14.kept (hgrow.block _ hN14.lt (own_type hI hN14 (by decide)))
        have hgk := grown_keep hB hI hT hE hgrow
        replace hB := hgk.1
        replace hT := hgk.2.1
        replace hE := hgk.2.2
        clear hgk
        have HQ1 := at_ids (c := c) (B := B) (c2 := c2) (ve := ve) hat hHeld.size
        clear hat
        replace hI := hN
        refine hK.out _ _ (hHeld.grown hgrow (fun k hk => .inl (.inr (.inl hk)))) (fun hHeld => ?_)
        clear hK K
        refine rdy1 15 rfl (fun K hK => ?_)
        refine app_txts (by rfl) _ _ (by rfl) hT hN14 (by rfl) (by rfl) rfl hl ?_
        intro g2 cap2 w5 hN hgrow hat hlt
        have hgk := grown_keep hB hT hI hE hgrow
        replace hB := hgk.1
        replace hI := hgk.2.1
        replace hE := hgk.2.2
        clear hgk
        have HQ2 := at_txts (c := c) (A := A) (c1 := c1) (ve := ve) hat hHeld.size
        clear hat
        replace hT := hN
        refine hK.out _ _ (hHeld.grown hgrow (fun k hk => .inl (.inr (.inr (.inl hk))))) (fun hHeld => ?_)
      case' c70 =>
        have hN7 := hB.news 3 #[.int .i64 id]
        try simp only [World.size_alloc] at hN7
        go_simp
        replace hB := hB.alloc (.cells #[.int .i64 id] 3)
        replace hI := hI.alloc (.cells #[.int .i64 id] 3)
        replace hT := hT.alloc (.cells #[.int .i64 id] 3)
        replace hE := hE.alloc (.cells #[.int .i64 id] 3)
        replace hN14 := hN14.alloc (.cells #[.int .i64 id] 3)
        refine hK.out _ _ (hHeld.ext (ext_new _ _)) (fun hHeld => ?_)
        clear hK K
        refine rdy1 5 rfl (fun K hK => ?_)
        have x0 := hB.c7.1.1
        go_simp
        refine hK.out _ _ hHeld (fun hHeld => ?_)
        clear hK K
        refine rdy1 8 rfl (fun K hK => ?_)
        refine app_ids (by rfl) _ _ (by rfl) hI hN7 (by rfl) (by rfl) rfl hl ?_
        intro g1 cap1 w5 hN hgrow hat hlt
        replace hN14 := hN14.kept (hgrow.block _ hN14.lt (own_type hI hN14 (by decide)))
        have hgk := grown_keep hB hI hT hE hgrow
        replace hB := hgk.1
        replace hT := hgk.2.1
        replace hE := hgk.2.2
        clear hgk
        have HQ1 := at_ids (c := c) (B := B) (c2 := c2) (ve := ve) hat hHeld.size
        clear hat
        replace hI := hN
        refine hK.out _ _ (hHeld.grown hgrow (fun k hk => .inl (.inr (.inl hk)))) (fun hHeld => ?_)
        clear hK K
        refine rdy1 15 rfl (fun K hK => ?_)
        refine app_txts (by rfl) _ _ (by rfl) hT hN14 (by rfl) (by rfl) rfl hl ?_
        intro g2 cap2 w5 hN hgrow hat hlt
        have hgk := grown_keep hB hT hI hE hgrow
        replace hB := hgk.1
        replace hI := hgk.2.1
        replace hE := hgk.2.2
        clear hgk
        have HQ2 := at_txts (c := c) (A := A) (c1 := c1) (ve := ve) hat hHeld.size
        clear hat
        replace hT := hN
        refine hK.out _ _ (hHeld.grown hgrow (fun k hk => .inl (.inr (.inr (.inl hk))))) (fun hHeld => ?_)
  all_goals
    clear hK K
    refine wpAnyH_tk (i := 16) (v := ?_) (some 22) rfl rfl ?_ ?_
    rotate_left
    · intro wx hSx
      go_simp
      try with_reducible rfl
    refine wpAnyH_tk (i := 17) (v := ?_) (some 23) rfl rfl ?_ ?_
    rotate_left
    · intro wx hSx
      go_simp
      try with_reducible rfl
    refine rdy1 18 rfl (fun K hK => ?_)
    have x := hB.c7.1.1
    have y := hB.c7.2.1
    go_simp
    clear x y
    replace hI := own_set hI (own_type hI hB (by decide)) 0 (.slice (some ⟨g1, 0, none⟩) (n + 1) cap1)
    replace hT := own_set hT (own_type hT hB (by decide)) 0 (.slice (some ⟨g1, 0, none⟩) (n + 1) cap1)
    replace hE := own_set hE (own_type hE hB (by decide)) 0 (.slice (some ⟨g1, 0, none⟩) (n + 1) cap1)
    replace hB := hB.set_ 0 (.slice (some ⟨g1, 0, none⟩) (n + 1) cap1)
    refine hK.out _ _ (hHeld.set (.inl (.inl rfl)) _ _) (fun hHeld => ?_)
    clear hK K
    refine wpAnyH_tk (i := 19) (v := ?_) (some 24) rfl rfl ?_ ?_
    rotate_left
    · intro wx hSx
      go_simp
      try with_reducible rfl
    refine wpAnyH_tk (i := 20) (v := ?_) (some 25) rfl rfl ?_ ?_
    rotate_left
    · intro wx hSx
      go_simp
      try with_reducible rfl
    refine rdy1 21 rfl (fun K hK => ?_)
    have x := hB.c7.1.2.1
    have y := hB.c7.2.2.1
    go_simp
    clear x y
    replace hI := own_set hI (own_type hI hB (by decide)) 1 (.slice (some ⟨g2, 0, none⟩) (n + 1) cap2)
    replace hT := own_set hT (own_type hT hB (by decide)) 1 (.slice (some ⟨g2, 0, none⟩) (n + 1) cap2)
    replace hE := own_set hE (own_type hE hB (by decide)) 1 (.slice (some ⟨g2, 0, none⟩) (n + 1) cap2)
    replace hB := hB.set_ 1 (.slice (some ⟨g2, 0, none⟩) (n + 1) cap2)
    refine hK.out _ _ (hHeld.set (.inl (.inl rfl)) _ _) (fun hHeld => ?_)
    clear hK K
    refine wpAnyH_done (by kernel_rfl) ?_ _
    go_wp2_with fail
    exact bodyPost_end (v := .tuple #[]) (results_none (by kernel_rfl) _ _ _) rfl ⟨rfl, add_end hB hI hT hE hHeld HQ1 HQ2 HN.out⟩

end Go.Proofs.YtmebjdbkngehiaaGreatDoor
