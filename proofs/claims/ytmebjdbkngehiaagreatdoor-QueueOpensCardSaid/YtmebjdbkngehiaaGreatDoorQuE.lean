/-
  A queue's state in memory: add. Conditions: as the theorem's own hypotheses say.
-/
import Derived.Test.YtmebjdbkngehiaaGreatDoorQhA
import Derived.Test.YtmebjdbkngehiaaGreatDoorQgA
namespace Go.Proofs.YtmebjdbkngehiaaGreatDoor
open Go.RowKit
set_option maxHeartbeats 40000000
variable {w W : World} {g n c1 c2 : Nat} {t : TypeId} {cs : Array Value} {xs : List Value} {c : QC} {A B : Option Addr} {ve u : Value} {ops : Array Oper} {o : Oper} {a : Act} {K : Act → World → Prop} {Q : Exit → Act → World → Prop} {E : Prop} {s : SN}
theorem infoQI : (Tryz.prog.info? 3).map (fun i => (i.zero, i.size, i.bytes)) = some (some (.int .i64 0), 1, 8) := by kernel_rfl
theorem infoQS : (Tryz.prog.info? 9).map (fun i => (i.zero, i.size, i.bytes)) = some (some (.string ByteArray.empty), 1, 16) := by kernel_rfl
theorem Blk.news (_h : Blk w g t cs) (T : TypeId) (ds : Array Value) : Blk (w.alloc (.cells ds T)) w.heap.size T ds := Blk.new_ w T ds
theorem Blk.cells_ {ds : List Value} (h : Blk w g t ds.toArray) : ∀ j u, ds[j]? = some u → w.cell? ((⟨g, 0, none⟩ : Addr).add j) = some u := by
 intro j u hj
 have ha : (⟨g, 0, none⟩ : Addr).add j = ⟨g, j, none⟩ := by unfold Addr.add; split <;> simp
 rw [ha, h.cell j]
 simpa using hj
theorem grown_keep {W' : World} {b sz szY szE nY nE : Nat} {T TY TE : TypeId} {V VY VE : Value} {ys es : List Value} (hB : Blk W b t cs) (hX : W.ownsRow 0 T sz V n xs) (hY : W.ownsRow 0 TY szY VY nY ys) (hE : W.ownsRow 0 TE szE VE nE es) (hg : W.grownBy W' V.ownBlock)
  (h1 : t ≠ T := by decide) (h2 : TY ≠ T := by decide) (h3 : TE ≠ T := by decide) : Blk W' b t cs ∧ W'.ownsRow 0 TY szY VY nY ys ∧ W'.ownsRow 0 TE szE VE nE es :=
 ⟨hB.kept (hg.block _ hB.lt (own_type hX hB h1)), own_keep hY (fun _k hk => hg.block _ (own_lt hY hk) (own_two hY hX h2 hk)), own_keep hE (fun _k hk => hg.block _ (own_lt hE hk) (own_two hE hX h3 hk))⟩
theorem at_ids (h : (Value.slice A n c1).ownBlock = some g ∨ g = W.heap.size) (hs : w.heap.size ≤ W.heap.size) : QF c ⟨.slice A n c1, .slice B n c2, ve⟩ g ∨ w.heap.size ≤ g :=
 h.elim (fun e => .inl (.inr <| .inl <| e.symm)) (fun e => .inr (by rw [e]; exact hs))
theorem at_txts (h : (Value.slice B n c2).ownBlock = some g ∨ g = W.heap.size) (hs : w.heap.size ≤ W.heap.size) : QF c ⟨.slice A n c1, .slice B n c2, ve⟩ g ∨ w.heap.size ≤ g :=
 h.elim (fun e => .inl (.inr <| .inr <| .inl <| e.symm)) (fun e => .inr (by rw [e]; exact hs))
theorem app_ids (hgd : o.guard = none) (s x : Operand)
  (ho : o.op = .call { callee := .builtin .append, args := #[s, x], argTypes := #[104, 104] }) (hown : w.ownsRow 0 3 1 (.slice A n c1) n xs) (hN : Blk w g 3 #[u]) (hs : a.eval s = .slice A n c1) (hx : a.eval x = .slice (some ⟨g, 0, none⟩) 1 1) (hu : u.oneCell' = true) (hl : n ≤ 1000000)
  (h : ∀ g' cap w', w'.ownsRow 0 3 1 (.slice (some ⟨g', 0, none⟩) (n + 1) cap) (n + 1) (xs ++ [u]) → w.grownBy w' (Value.slice A n c1).ownBlock → ((Value.slice A n c1).ownBlock = some g' ∨ g' = w.heap.size) → g' < w'.heap.size → K (a.put o.dst (.slice (some ⟨g', 0, none⟩) (n + 1) cap)) w') :
  if Region.wanted o (yielded ops a.tmps) = true then Oper.wp Tryz.prog o a w K Q else E := by
 obtain ⟨i, hi, hz0, hz1, hz2⟩ := info_parts infoQI
 exact step_append_lies w hgd s x _ ho 0 3 i (.int .i64 0) 1 8 Tryz.underlying104 hi hz0 hz1 hz2 rfl (by omega) (.slice A n c1) n xs hs hown ⟨g, 0, none⟩ 1 1 [u] hx rfl hN.cells_ (by simpa using hu) (by omega) (by unfold maxLen; omega) (by omega) (Nat.zero_le _) _ rfl h
theorem app_txts (hgd : o.guard = none) (s x : Operand)
  (ho : o.op = .call { callee := .builtin .append, args := #[s, x], argTypes := #[54, 54] }) (hown : w.ownsRow 0 9 1 (.slice A n c1) n xs) (hN : Blk w g 9 #[u]) (hs : a.eval s = .slice A n c1) (hx : a.eval x = .slice (some ⟨g, 0, none⟩) 1 1) (hu : u.oneCell' = true) (hl : n ≤ 1000000)
  (h : ∀ g' cap w', w'.ownsRow 0 9 1 (.slice (some ⟨g', 0, none⟩) (n + 1) cap) (n + 1) (xs ++ [u]) → w.grownBy w' (Value.slice A n c1).ownBlock → ((Value.slice A n c1).ownBlock = some g' ∨ g' = w.heap.size) → g' < w'.heap.size → K (a.put o.dst (.slice (some ⟨g', 0, none⟩) (n + 1) cap)) w') :
  if Region.wanted o (yielded ops a.tmps) = true then Oper.wp Tryz.prog o a w K Q else E := by
 obtain ⟨i, hi, hz0, hz1, hz2⟩ := info_parts infoQS
 exact step_append_lies w hgd s x _ ho 0 9 i (.string ByteArray.empty) 1 16 Tryz.underlying54 hi hz0 hz1 hz2 rfl (by omega) (.slice A n c1) n xs hs hown ⟨g, 0, none⟩ 1 1 [u] hx rfl hN.cells_ (by simpa using hu) (by omega) (by unfold maxLen; omega) (by omega) (Nat.zero_le _) _ rfl h
theorem add_end {g1 cap1 g2 cap2 : Nat} {id : Int} {t : ByteArray}
  (hB : Blk W c.b 112 (((#[.slice A n c1, .slice B n c2, ve, c.x3, c.x4, c.x5, c.x6] : Array Value).setIfInBounds 0 (.slice (some ⟨g1, 0, none⟩) (n + 1) cap1)).setIfInBounds 1 (.slice (some ⟨g2, 0, none⟩) (n + 1) cap2)))
  (hI : W.ownsRow 0 3 1 (.slice (some ⟨g1, 0, none⟩) (n + 1) cap1) (n + 1) ((idsOf s.K).map (.int .i64 ·) ++ [.int .i64 id])) (hT : W.ownsRow 0 9 1 (.slice (some ⟨g2, 0, none⟩) (n + 1) cap2) (n + 1) ((txtsOf s.K).map (.string ·) ++ [.string t]))
  (hE : W.ownsRow 0 23 7 ve s.L.length (cellsE s.L)) (hF : Foot (QF c ⟨.slice A n c1, .slice B n c2, ve⟩) w W)
  (h1 : QF c ⟨.slice A n c1, .slice B n c2, ve⟩ g1 ∨ w.heap.size ≤ g1) (h2 : QF c ⟨.slice A n c1, .slice B n c2, ve⟩ g2 ∨ w.heap.size ≤ g2) (hn : s.K.length = n := by assumption) :
  SWent w c ⟨.slice A n c1, .slice B n c2, ve⟩ ⟨s.L, s.K ++ [⟨id, t⟩]⟩ W := by
 refine ⟨⟨.slice (some ⟨g1, 0, none⟩) (n + 1) cap1, .slice (some ⟨g2, 0, none⟩) (n + 1) cap2, ve⟩, ⟨hB, ?_, ?_, hE⟩, hF, ?_⟩
 ·rw [List.length_append, hn]
  simpa [idsOf] using hI
 ·rw [List.length_append, hn]
  simpa [txtsOf] using hT
 ·rintro k (hk | hk | hk | hk)
  ·exact .inl (.inl hk)
  ·injection hk with hk
   have hk : k = g1 := hk
   rw [hk]; exact h1
  ·injection hk with hk
   have hk : k = g2 := hk
   rw [hk]; exact h2
  ·exact .inl (.inr (.inr (.inr hk)))
set_option maxRecDepth 100000 in
theorem add_any {v : QV} (id : Int) (t : ByteArray) (h : SAt w c v s) (hl : s.K.length ≤ 1000000) :
  Calls Tryz.prog 155 #[.pointer (some ⟨c.b, 0, none⟩), .int .i64 id, .string t] w fun e w' => e = .returned (.tuple #[]) ∧ SWent w c v ⟨s.L, s.K ++ [⟨id, t⟩]⟩ w' := by
 obtain ⟨vi, vl, ve⟩ := v
 obtain ⟨hB, hI, hT, hE⟩ := h
 dsimp only at hB hI hT hE
 obtain ⟨A, c1, rfl⟩ := own_form hI
 obtain ⟨B, c2, rfl⟩ := own_form hT
 obtain ⟨n, hn⟩ : ∃ n, s.K.length = n := ⟨_, rfl⟩
 rw [hn] at hB hI hT hl ⊢
 have HN := Lib.hid hn
 clear hn
 go_enter Tryz.func155, Tryz.ntmps155
 replace hB : Blk w.drew _ _ _ := hB
 replace hI : World.ownsRow w.drew _ _ _ _ _ _ := hI
 replace hT : World.ownsRow w.drew _ _ _ _ _ _ := hT
 replace hE : World.ownsRow w.drew _ _ _ _ _ _ := hE
 refine wp_region_held_drew (S := (Foot (QF c ⟨.slice A n c1, .slice B n c2, ve⟩) w)) (by kernel_rfl) ((Foot.refl _ w).ext (Below.refl _ w).drew) (fun hHeld => ?_)
 generalize w.drew = W0 at *
 refine tk_ 0 6 rfl rfl ?_
 refine tk_ 1 7 rfl rfl ?_
 refine tk_ 2 8 rfl rfl ?_
 refine tk_ 3 9 rfl rfl ?_
 refine tk_ 4 10 rfl rfl ?_
 refine tk_ 6 12 rfl rfl ?_
 refine tk_ 9 15 rfl rfl ?_
 refine tk_ 10 16 rfl rfl ?_
 refine tk_ 11 17 rfl rfl ?_
 refine tk_ 13 19 rfl rfl ?_
 refine rdy4 5 7 12 14 rfl rfl rfl rfl (fun K hK => ?n1) (fun K hK => ?n2) (fun K hK => ?n3) (fun K hK => ?n4)
 case' n1 =>
  have x0 := hB.c7.1.1
  go_simp
  refine hK.out _ _ hHeld (fun hHeld => ?_)
  clear hK K
 case' n3 =>
  have x1 := hB.c7.1.2.1
  go_simp
  refine hK.out _ _ hHeld (fun hHeld => ?_)
  clear hK K
 case' n2 =>
  have hN7 := hB.news 3 #[.int .i64 id]
  try simp only [World.size_alloc] at hN7
  go_simp
  replace hB := hB.alloc (.cells #[.int .i64 id] 3)
  replace hI := hI.alloc (.cells #[.int .i64 id] 3)
  replace hT := hT.alloc (.cells #[.int .i64 id] 3)
  replace hE := hE.alloc (.cells #[.int .i64 id] 3)
  try replace hN14 := hN14.alloc (.cells #[.int .i64 id] 3)
  refine hK.out _ _ (hHeld.ext (ext_new _ (.cells #[.int .i64 id] 3))) (fun hHeld => ?_)
  clear hK K
 case' n4 =>
  have hN14 := hB.news 9 #[.string t]
  try simp only [World.size_alloc] at hN14
  go_simp
  replace hB := hB.alloc (.cells #[.string t] 9)
  replace hI := hI.alloc (.cells #[.string t] 9)
  replace hT := hT.alloc (.cells #[.string t] 9)
  replace hE := hE.alloc (.cells #[.string t] 9)
  try replace hN7 := hN7.alloc (.cells #[.string t] 9)
  refine hK.out _ _ (hHeld.ext (ext_new _ (.cells #[.string t] 9))) (fun hHeld => ?_)
  clear hK K
 case' n1 => refine rdy3 7 12 14 rfl rfl rfl (fun K hK => ?n5) (fun K hK => ?n6) (fun K hK => ?n7)
 case' n2 => refine rdy3 5 12 14 rfl rfl rfl (fun K hK => ?n8) (fun K hK => ?n9) (fun K hK => ?n10)
 case' n3 => refine rdy3 5 7 14 rfl rfl rfl (fun K hK => ?n11) (fun K hK => ?n12) (fun K hK => ?n13)
 case' n4 => refine rdy3 5 7 12 rfl rfl rfl (fun K hK => ?n14) (fun K hK => ?n15) (fun K hK => ?n16)
 case' n8 | n11 | n14 =>
  have x0 := hB.c7.1.1
  go_simp
  refine hK.out _ _ hHeld (fun hHeld => ?_)
  clear hK K
 case' n6 | n9 | n16 =>
  have x1 := hB.c7.1.2.1
  go_simp
  refine hK.out _ _ hHeld (fun hHeld => ?_)
  clear hK K
 case' n5 | n12 | n15 =>
  have hN7 := hB.news 3 #[.int .i64 id]
  try simp only [World.size_alloc] at hN7
  go_simp
  replace hB := hB.alloc (.cells #[.int .i64 id] 3)
  replace hI := hI.alloc (.cells #[.int .i64 id] 3)
  replace hT := hT.alloc (.cells #[.int .i64 id] 3)
  replace hE := hE.alloc (.cells #[.int .i64 id] 3)
  try replace hN14 := hN14.alloc (.cells #[.int .i64 id] 3)
  refine hK.out _ _ (hHeld.ext (ext_new _ (.cells #[.int .i64 id] 3))) (fun hHeld => ?_)
  clear hK K
 case' n7 | n10 | n13 =>
  have hN14 := hB.news 9 #[.string t]
  try simp only [World.size_alloc] at hN14
  go_simp
  replace hB := hB.alloc (.cells #[.string t] 9)
  replace hI := hI.alloc (.cells #[.string t] 9)
  replace hT := hT.alloc (.cells #[.string t] 9)
  replace hE := hE.alloc (.cells #[.string t] 9)
  try replace hN7 := hN7.alloc (.cells #[.string t] 9)
  refine hK.out _ _ (hHeld.ext (ext_new _ (.cells #[.string t] 9))) (fun hHeld => ?_)
  clear hK K
 case' n5 => refine rdy3 8 12 14 rfl rfl rfl (fun K hK => ?n17) (fun K hK => ?n18) (fun K hK => ?n19)
 case' n6 => refine rdy2 7 14 rfl rfl (fun K hK => ?n20) (fun K hK => ?n21)
 case' n7 => refine rdy2 7 12 rfl rfl (fun K hK => ?n22) (fun K hK => ?n23)
 case' n8 => refine rdy3 8 12 14 rfl rfl rfl (fun K hK => ?n24) (fun K hK => ?n25) (fun K hK => ?n26)
 case' n9 => refine rdy2 5 14 rfl rfl (fun K hK => ?n27) (fun K hK => ?n28)
 case' n10 => refine rdy2 5 12 rfl rfl (fun K hK => ?n29) (fun K hK => ?n30)
 case' n11 => refine rdy2 7 14 rfl rfl (fun K hK => ?n31) (fun K hK => ?n32)
 case' n12 => refine rdy2 5 14 rfl rfl (fun K hK => ?n33) (fun K hK => ?n34)
 case' n13 => refine rdy2 5 7 rfl rfl (fun K hK => ?n35) (fun K hK => ?n36)
 case' n14 => refine rdy2 7 12 rfl rfl (fun K hK => ?n37) (fun K hK => ?n38)
 case' n15 => refine rdy2 5 12 rfl rfl (fun K hK => ?n39) (fun K hK => ?n40)
 case' n16 => refine rdy2 5 7 rfl rfl (fun K hK => ?n41) (fun K hK => ?n42)
 case' n27 | n29 | n33 | n35 | n39 | n41 =>
  have x0 := hB.c7.1.1
  go_simp
  refine hK.out _ _ hHeld (fun hHeld => ?_)
  clear hK K
 case' n18 | n23 | n25 | n30 | n38 | n40 =>
  have x1 := hB.c7.1.2.1
  go_simp
  refine hK.out _ _ hHeld (fun hHeld => ?_)
  clear hK K
 case' n20 | n22 | n31 | n36 | n37 | n42 =>
  have hN7 := hB.news 3 #[.int .i64 id]
  try simp only [World.size_alloc] at hN7
  go_simp
  replace hB := hB.alloc (.cells #[.int .i64 id] 3)
  replace hI := hI.alloc (.cells #[.int .i64 id] 3)
  replace hT := hT.alloc (.cells #[.int .i64 id] 3)
  replace hE := hE.alloc (.cells #[.int .i64 id] 3)
  try replace hN14 := hN14.alloc (.cells #[.int .i64 id] 3)
  refine hK.out _ _ (hHeld.ext (ext_new _ (.cells #[.int .i64 id] 3))) (fun hHeld => ?_)
  clear hK K
 case' n19 | n21 | n26 | n28 | n32 | n34 =>
  have hN14 := hB.news 9 #[.string t]
  try simp only [World.size_alloc] at hN14
  go_simp
  replace hB := hB.alloc (.cells #[.string t] 9)
  replace hI := hI.alloc (.cells #[.string t] 9)
  replace hT := hT.alloc (.cells #[.string t] 9)
  replace hE := hE.alloc (.cells #[.string t] 9)
  try replace hN7 := hN7.alloc (.cells #[.string t] 9)
  refine hK.out _ _ (hHeld.ext (ext_new _ (.cells #[.string t] 9))) (fun hHeld => ?_)
  clear hK K
 case' n17 | n24 =>
  refine app_ids (by rfl) _ _ (by rfl) hI hN7 (by rfl) (by rfl) rfl hl ?_
  intro g1 cap1 w5 hN hgrow hat hlt
  have hgk := grown_keep hB hI hT hE hgrow
  try replace hN14 := hN14.kept (hgrow.block _ hN14.lt (own_type hI hN14 (by decide)))
  replace hB := hgk.1
  replace hT := hgk.2.1
  replace hE := hgk.2.2
  clear hgk
  have HQ1 := at_ids (c := c) (B := B) (c2 := c2) (ve := ve) hat hHeld.size
  clear hat
  replace hI := hN
  refine hK.out _ _ (hHeld.grown hgrow (fun k hk => .inl (.inr (.inl hk)))) (fun hHeld => ?_)
  clear hK K
 case' n17 => refine rdy2 12 14 rfl rfl (fun K hK => ?n43) (fun K hK => ?n44)
 case' n18 => refine rdy2 8 14 rfl rfl (fun K hK => ?n45) (fun K hK => ?n46)
 case' n19 => refine rdy2 8 12 rfl rfl (fun K hK => ?n47) (fun K hK => ?n48)
 case' n20 => refine rdy2 8 14 rfl rfl (fun K hK => ?n49) (fun K hK => ?n50)
 case' n21 => refine rdy1 7 rfl (fun K hK => ?_)
 case' n22 => refine rdy2 8 12 rfl rfl (fun K hK => ?n51) (fun K hK => ?n52)
 case' n23 => refine rdy1 7 rfl (fun K hK => ?_)
 case' n24 => refine rdy2 12 14 rfl rfl (fun K hK => ?n53) (fun K hK => ?n54)
 case' n25 => refine rdy2 8 14 rfl rfl (fun K hK => ?n55) (fun K hK => ?n56)
 case' n26 => refine rdy2 8 12 rfl rfl (fun K hK => ?n57) (fun K hK => ?n58)
 case' n27 => refine rdy2 8 14 rfl rfl (fun K hK => ?n59) (fun K hK => ?n60)
 case' n28 => refine rdy1 5 rfl (fun K hK => ?_)
 case' n29 => refine rdy2 8 12 rfl rfl (fun K hK => ?n61) (fun K hK => ?n62)
 case' n30 => refine rdy1 5 rfl (fun K hK => ?_)
 case' n31 => refine rdy2 8 14 rfl rfl (fun K hK => ?n63) (fun K hK => ?n64)
 case' n32 => refine rdy1 7 rfl (fun K hK => ?_)
 case' n33 => refine rdy2 8 14 rfl rfl (fun K hK => ?n65) (fun K hK => ?n66)
 case' n34 => refine rdy1 5 rfl (fun K hK => ?_)
 case' n35 => refine rdy1 7 rfl (fun K hK => ?_)
 case' n36 => refine rdy1 5 rfl (fun K hK => ?_)
 case' n37 => refine rdy2 8 12 rfl rfl (fun K hK => ?n67) (fun K hK => ?n68)
 case' n38 => refine rdy1 7 rfl (fun K hK => ?_)
 case' n39 => refine rdy2 8 12 rfl rfl (fun K hK => ?n69) (fun K hK => ?n70)
 case' n40 => refine rdy1 5 rfl (fun K hK => ?_)
 case' n41 => refine rdy1 7 rfl (fun K hK => ?_)
 case' n42 => refine rdy1 5 rfl (fun K hK => ?_)
 case' n28 | n30 | n34 | n36 | n40 | n42 =>
  have x0 := hB.c7.1.1
  go_simp
  refine hK.out _ _ hHeld (fun hHeld => ?_)
  clear hK K
 case' n43 | n48 | n52 | n53 | n58 | n62 | n68 | n70 =>
  have x1 := hB.c7.1.2.1
  go_simp
  refine hK.out _ _ hHeld (fun hHeld => ?_)
  clear hK K
 case' n21 | n23 | n32 | n35 | n38 | n41 =>
  have hN7 := hB.news 3 #[.int .i64 id]
  try simp only [World.size_alloc] at hN7
  go_simp
  replace hB := hB.alloc (.cells #[.int .i64 id] 3)
  replace hI := hI.alloc (.cells #[.int .i64 id] 3)
  replace hT := hT.alloc (.cells #[.int .i64 id] 3)
  replace hE := hE.alloc (.cells #[.int .i64 id] 3)
  try replace hN14 := hN14.alloc (.cells #[.int .i64 id] 3)
  refine hK.out _ _ (hHeld.ext (ext_new _ (.cells #[.int .i64 id] 3))) (fun hHeld => ?_)
  clear hK K
 case' n44 | n46 | n50 | n54 | n56 | n60 | n64 | n66 =>
  have hN14 := hB.news 9 #[.string t]
  try simp only [World.size_alloc] at hN14
  go_simp
  replace hB := hB.alloc (.cells #[.string t] 9)
  replace hI := hI.alloc (.cells #[.string t] 9)
  replace hT := hT.alloc (.cells #[.string t] 9)
  replace hE := hE.alloc (.cells #[.string t] 9)
  try replace hN7 := hN7.alloc (.cells #[.string t] 9)
  refine hK.out _ _ (hHeld.ext (ext_new _ (.cells #[.string t] 9))) (fun hHeld => ?_)
  clear hK K
 case' n45 | n47 | n49 | n51 | n55 | n57 | n59 | n61 | n63 | n65 | n67 | n69 =>
  refine app_ids (by rfl) _ _ (by rfl) hI hN7 (by rfl) (by rfl) rfl hl ?_
  intro g1 cap1 w5 hN hgrow hat hlt
  have hgk := grown_keep hB hI hT hE hgrow
  try replace hN14 := hN14.kept (hgrow.block _ hN14.lt (own_type hI hN14 (by decide)))
  replace hB := hgk.1
  replace hT := hgk.2.1
  replace hE := hgk.2.2
  clear hgk
  have HQ1 := at_ids (c := c) (B := B) (c2 := c2) (ve := ve) hat hHeld.size
  clear hat
  replace hI := hN
  refine hK.out _ _ (hHeld.grown hgrow (fun k hk => .inl (.inr (.inl hk)))) (fun hHeld => ?_)
  clear hK K
 case' n43 => refine rdy1 14 rfl (fun K hK => ?_)
 case' n44 => refine rdy1 12 rfl (fun K hK => ?_)
 case' n45 => refine rdy1 14 rfl (fun K hK => ?_)
 case' n46 => refine rdy1 8 rfl (fun K hK => ?_)
 case' n47 => refine rdy1 12 rfl (fun K hK => ?_)
 case' n48 => refine rdy1 8 rfl (fun K hK => ?_)
 case' n49 => refine rdy1 14 rfl (fun K hK => ?_)
 case' n50 => refine rdy1 8 rfl (fun K hK => ?_)
 case' n21 => refine rdy1 8 rfl (fun K hK => ?_)
 case' n51 => refine rdy1 12 rfl (fun K hK => ?_)
 case' n52 => refine rdy1 8 rfl (fun K hK => ?_)
 case' n23 => refine rdy1 8 rfl (fun K hK => ?_)
 case' n53 => refine rdy1 14 rfl (fun K hK => ?_)
 case' n54 => refine rdy1 12 rfl (fun K hK => ?_)
 case' n55 => refine rdy1 14 rfl (fun K hK => ?_)
 case' n56 => refine rdy1 8 rfl (fun K hK => ?_)
 case' n57 => refine rdy1 12 rfl (fun K hK => ?_)
 case' n58 => refine rdy1 8 rfl (fun K hK => ?_)
 case' n59 => refine rdy1 14 rfl (fun K hK => ?_)
 case' n60 => refine rdy1 8 rfl (fun K hK => ?_)
 case' n28 => refine rdy1 8 rfl (fun K hK => ?_)
 case' n61 => refine rdy1 12 rfl (fun K hK => ?_)
 case' n62 => refine rdy1 8 rfl (fun K hK => ?_)
 case' n30 => refine rdy1 8 rfl (fun K hK => ?_)
 case' n63 => refine rdy1 14 rfl (fun K hK => ?_)
 case' n64 => refine rdy1 8 rfl (fun K hK => ?_)
 case' n32 => refine rdy1 8 rfl (fun K hK => ?_)
 case' n65 => refine rdy1 14 rfl (fun K hK => ?_)
 case' n66 => refine rdy1 8 rfl (fun K hK => ?_)
 case' n34 => refine rdy1 8 rfl (fun K hK => ?_)
 case' n35 => refine rdy1 8 rfl (fun K hK => ?_)
 case' n36 => refine rdy1 8 rfl (fun K hK => ?_)
 case' n67 => refine rdy1 12 rfl (fun K hK => ?_)
 case' n68 => refine rdy1 8 rfl (fun K hK => ?_)
 case' n38 => refine rdy1 8 rfl (fun K hK => ?_)
 case' n69 => refine rdy1 12 rfl (fun K hK => ?_)
 case' n70 => refine rdy1 8 rfl (fun K hK => ?_)
 case' n40 => refine rdy1 8 rfl (fun K hK => ?_)
 case' n41 => refine rdy1 8 rfl (fun K hK => ?_)
 case' n42 => refine rdy1 8 rfl (fun K hK => ?_)
 case' n44 | n47 | n51 | n54 | n57 | n61 | n67 | n69 =>
  have x1 := hB.c7.1.2.1
  go_simp
  refine hK.out _ _ hHeld (fun hHeld => ?_)
  clear hK K
 case' n43 | n45 | n49 | n53 | n55 | n59 | n63 | n65 =>
  have hN14 := hB.news 9 #[.string t]
  try simp only [World.size_alloc] at hN14
  go_simp
  replace hB := hB.alloc (.cells #[.string t] 9)
  replace hI := hI.alloc (.cells #[.string t] 9)
  replace hT := hT.alloc (.cells #[.string t] 9)
  replace hE := hE.alloc (.cells #[.string t] 9)
  try replace hN7 := hN7.alloc (.cells #[.string t] 9)
  refine hK.out _ _ (hHeld.ext (ext_new _ (.cells #[.string t] 9))) (fun hHeld => ?_)
  clear hK K
 case' n46 | n48 | n50 | n21 | n52 | n23 | n56 | n58 | n60 | n28 | n62 | n30 | n64 | n32 | n66 | n34 | n35 | n36 | n68 | n38 | n70 | n40 | n41 | n42 =>
  refine app_ids (by rfl) _ _ (by rfl) hI hN7 (by rfl) (by rfl) rfl hl ?_
  intro g1 cap1 w5 hN hgrow hat hlt
  have hgk := grown_keep hB hI hT hE hgrow
  try replace hN14 := hN14.kept (hgrow.block _ hN14.lt (own_type hI hN14 (by decide)))
  replace hB := hgk.1
  replace hT := hgk.2.1
  replace hE := hgk.2.2
  clear hgk
  have HQ1 := at_ids (c := c) (B := B) (c2 := c2) (ve := ve) hat hHeld.size
  clear hat
  replace hI := hN
  refine hK.out _ _ (hHeld.grown hgrow (fun k hk => .inl (.inr (.inl hk)))) (fun hHeld => ?_)
  clear hK K
 case' n43 => refine rdy1 15 rfl (fun K hK => ?_)
 case' n44 => refine rdy1 15 rfl (fun K hK => ?_)
 case' n45 => refine rdy1 15 rfl (fun K hK => ?_)
 case' n46 => refine rdy1 15 rfl (fun K hK => ?_)
 case' n47 => refine rdy1 15 rfl (fun K hK => ?_)
 case' n48 => refine rdy1 15 rfl (fun K hK => ?_)
 case' n49 => refine rdy1 15 rfl (fun K hK => ?_)
 case' n50 => refine rdy1 15 rfl (fun K hK => ?_)
 case' n21 => refine rdy1 15 rfl (fun K hK => ?_)
 case' n51 => refine rdy1 15 rfl (fun K hK => ?_)
 case' n52 => refine rdy1 15 rfl (fun K hK => ?_)
 case' n23 => refine rdy1 15 rfl (fun K hK => ?_)
 case' n53 => refine rdy1 15 rfl (fun K hK => ?_)
 case' n54 => refine rdy1 15 rfl (fun K hK => ?_)
 case' n55 => refine rdy1 15 rfl (fun K hK => ?_)
 case' n56 => refine rdy1 15 rfl (fun K hK => ?_)
 case' n57 => refine rdy1 15 rfl (fun K hK => ?_)
 case' n58 => refine rdy1 15 rfl (fun K hK => ?_)
 case' n59 => refine rdy1 15 rfl (fun K hK => ?_)
 case' n60 => refine rdy1 15 rfl (fun K hK => ?_)
 case' n28 => refine rdy1 15 rfl (fun K hK => ?_)
 case' n61 => refine rdy1 15 rfl (fun K hK => ?_)
 case' n62 => refine rdy1 15 rfl (fun K hK => ?_)
 case' n30 => refine rdy1 15 rfl (fun K hK => ?_)
 case' n63 => refine rdy1 15 rfl (fun K hK => ?_)
 case' n64 => refine rdy1 15 rfl (fun K hK => ?_)
 case' n32 => refine rdy1 15 rfl (fun K hK => ?_)
 case' n65 => refine rdy1 15 rfl (fun K hK => ?_)
 case' n66 => refine rdy1 15 rfl (fun K hK => ?_)
 case' n34 => refine rdy1 15 rfl (fun K hK => ?_)
 case' n35 => refine rdy1 15 rfl (fun K hK => ?_)
 case' n36 => refine rdy1 15 rfl (fun K hK => ?_)
 case' n67 => refine rdy1 15 rfl (fun K hK => ?_)
 case' n68 => refine rdy1 15 rfl (fun K hK => ?_)
 case' n38 => refine rdy1 15 rfl (fun K hK => ?_)
 case' n69 => refine rdy1 15 rfl (fun K hK => ?_)
 case' n70 => refine rdy1 15 rfl (fun K hK => ?_)
 case' n40 => refine rdy1 15 rfl (fun K hK => ?_)
 case' n41 => refine rdy1 15 rfl (fun K hK => ?_)
 case' n42 => refine rdy1 15 rfl (fun K hK => ?_)
 case' n43 | n44 | n45 | n46 | n47 | n48 | n49 | n50 | n21 | n51 | n52 | n23 | n53 | n54 | n55 | n56 | n57 | n58 | n59 | n60 | n28 | n61 | n62 | n30 | n63 | n64 | n32 | n65 | n66 | n34 | n35 | n36 | n67 | n68 | n38 | n69 | n70 | n40 | n41 | n42 =>
  refine app_txts (by rfl) _ _ (by rfl) hT hN14 (by rfl) (by rfl) rfl hl ?_
  intro g2 cap2 w5 hN hgrow hat hlt
  have hgk := grown_keep hB hT hI hE hgrow
  try replace hN7 := hN7.kept (hgrow.block _ hN7.lt (own_type hT hN7 (by decide)))
  replace hB := hgk.1
  replace hI := hgk.2.1
  replace hE := hgk.2.2
  clear hgk
  have HQ2 := at_txts (c := c) (A := A) (c1 := c1) (ve := ve) hat hHeld.size
  clear hat
  replace hT := hN
  refine hK.out _ _ (hHeld.grown hgrow (fun k hk => .inl (.inr (.inr (.inl hk))))) (fun hHeld => ?_)
  clear hK K
 all_goals
  refine tk_ 16 22 rfl rfl ?_
  refine tk_ 17 23 rfl rfl ?_
  refine rdy1 18 rfl (fun K hK => ?_)
  have x := hB.c7.1.1
  have y := hB.c7.2.1
  go_simp
  clear x y
  replace hI := own_set hI (own_type hI hB (by decide)) 0 (.slice (some ⟨g1, 0, none⟩) (n + 1) cap1)
  replace hT := own_set hT (own_type hT hB (by decide)) 0 (.slice (some ⟨g1, 0, none⟩) (n + 1) cap1)
  replace hE := own_set hE (own_type hE hB (by decide)) 0 (.slice (some ⟨g1, 0, none⟩) (n + 1) cap1)
  replace hB := hB.set_ 0 (.slice (some ⟨g1, 0, none⟩) (n + 1) cap1)
  refine hK.out _ _ (hHeld.set (.inl (.inl rfl)) _ _) (fun hHeld => ?_)
  clear hK K
  refine tk_ 19 24 rfl rfl ?_
  refine tk_ 20 25 rfl rfl ?_
  refine rdy1 21 rfl (fun K hK => ?_)
  have x := hB.c7.1.2.1
  have y := hB.c7.2.2.1
  go_simp
  clear x y
  replace hI := own_set hI (own_type hI hB (by decide)) 1 (.slice (some ⟨g2, 0, none⟩) (n + 1) cap2)
  replace hT := own_set hT (own_type hT hB (by decide)) 1 (.slice (some ⟨g2, 0, none⟩) (n + 1) cap2)
  replace hE := own_set hE (own_type hE hB (by decide)) 1 (.slice (some ⟨g2, 0, none⟩) (n + 1) cap2)
  replace hB := hB.set_ 1 (.slice (some ⟨g2, 0, none⟩) (n + 1) cap2)
  refine hK.out _ _ (hHeld.set (.inl (.inl rfl)) _ _) (fun hHeld => ?_)
  clear hK K
  refine wpAnyH_done (by kernel_rfl) ?_ _
  go_wp2_with fail
  exact bodyPost_end (v := .tuple #[]) (results_none (by kernel_rfl) _ _ _) rfl ⟨rfl, add_end hB hI hT hE hHeld HQ1 HQ2 HN.out⟩
end Go.Proofs.YtmebjdbkngehiaaGreatDoor
