/-
  Package postriderlaw17: the law FrameHurt. Conditions: the listed variables hold what 'CInv' says.
-/
import Derived.Test.YtlabmomehjfjdaaDoorFrP
import Derived.Deep.RegionHeld3
namespace Go.Proofs.YtlabmomehjfjdaaDoor
open Go.RowKit

set_option maxRecDepth 100000 in
set_option maxHeartbeats 4000000 in
theorem FrameHurt_law (op id : Int) (d : ByteArray) (a b : Int) (w : World) (aA aT aN aW aS : Addr) (h : CInv w aA aT aN aW aS) (hd : d.size ≤ 9223372036854775807) :
    Calls Tryd.prog 4 #[.agg #[.int .i64 op, .int .i64 id, .string d], .int .i64 a, .int .i64 b] w (Ret (.bool true) w) := by
  have FC := fun w' : World => FCut_any (some ⟨w'.heap.size, 0, none⟩) 1 1 [⟨op, id, d⟩] (w'.alloc (.cells #[.int .i64 op, .int .i64 id, .string d] 23)) rfl (rdR_at ⟨op, id, d⟩ rfl) (by intro x hx; rw [List.mem_singleton] at hx; subst hx; exact hd)
  have hq : ([⟨op, id, d⟩] : List RI).map RI.cut = [⟨op, id, d.extract 0 (min d.size 2001)⟩] := rfl
  rw [hq] at FC
  clear hq
  have E1 := fun w' h' => Encode_any op id (d.extract 0 (min d.size 2001)) w' aA aT aN aW aS h'
  have F := enc_cases op id (d.extract 0 (min d.size 2001))
  unfold recV at E1
  generalize d.extract 0 (min d.size 2001) = d' at *
  generalize encV op id d' = e at *
  generalize rightV op id d' = rv at *
  go_enter Tryd.func4, Tryd.ntmps4
  go_wp2_with fail
  have p0 := Blk.new_ w 23 #[.int .i64 op, .int .i64 id, .string d]
  have b0 := ext_new w (.cells #[.int .i64 op, .int .i64 id, .string d] 23)
  refine (fshown_any _ aA aT aN aW aS (h.below b0)).mono ?_
  rintro e w1 ⟨rfl, hb1'⟩
  have p1 := p0.below hb1'
  have hb1 := ext_trans b0 hb1'
  clear hb1' p0 b0
  obtain ⟨x0, x1, x2, -⟩ := p1.c3
  go_wp2_with fail
  refine (FC _).mono ?_
  rintro e w2 ⟨V, rfl, hown, hb2'⟩
  obtain ⟨g, c, rfl, hg, hgl, y0, y1, y2⟩ := one_own hown
  have p2 := (p1.alloc _).below hb2'
  have hb2 := ext_trans (ext_alloc hb1 _) hb2'
  clear hb2' hown p1 hb1 x0 x1 x2
  obtain ⟨x0, x1, x2, g0, g1, g2⟩ := p2.c3
  go_wp2_with fail
  have p3 := ((p2.set_ 0 (.int .i64 op)).set_ 1 (.int .i64 id)).set_ 2 (.string d')
  simp only [List.setIfInBounds_toArray, List.set_cons_succ, List.set_cons_zero] at p3
  have hb3 := ((hb2.setCell (p := ⟨w.heap.size, 0, none⟩) (by simp) (.int .i64 op)).setCell (p := ⟨w.heap.size, 1, none⟩) (by simp) (.int .i64 id)).setCell (p := ⟨w.heap.size, 2, none⟩) (by simp) (.string d')
  generalize ((w2.setCell ⟨w.heap.size, 0, none⟩ (.int .i64 op)).setCell ⟨w.heap.size, 1, none⟩ (.int .i64 id)).setCell ⟨w.heap.size, 2, none⟩ (.string d') = w3 at *
  clear p2 hb2 g0 g1 g2 y0 y1 y2 x0 x1 x2
  obtain ⟨x0, x1, x2, -⟩ := p3.c3
  go_wp2_with fail
  refine (E1 _ (h.below hb3)).mono ?_
  rintro e w4 ⟨rfl, hb4'⟩
  have p4 := p3.below hb4'
  have hb4 := ext_trans hb3 hb4'
  clear hb4' hb3 p3 x0 x1 x2
  obtain ⟨x0, x1, x2, -⟩ := p4.c3
  clear x0 x1 x2
  rcases F with ⟨rfl, rfl⟩ | ⟨rfl, F, rfl, hF, hd2, -, hFl, hok⟩
  · go_wp2_with fail
    go_ret
    exact ⟨rfl, hb4⟩
  · by_cases c1 : a < 0
    · go_wp2_with fail
      go_ret
      exact ⟨rfl, hb4⟩
    · obtain ⟨k, rfl⟩ := Int.eq_ofNat_of_zero_le (show 0 ≤ a by omega)
      by_cases c2 : k < F.size
      · by_cases c3 : k = 8
        · subst c3
          have c5 : ¬ (F.size : Int) ≤ 8 := by omega
          go_wp2_with fail
          go_ret
          exact ⟨rfl, hb4⟩
        · by_cases c4 : k = 9
          · subst c4
            have c5 : ¬ (F.size : Int) ≤ 9 := by omega
            go_wp2_with fail
            go_ret
            exact ⟨rfl, hb4⟩
          · have c5 : ¬ (F.size : Int) ≤ (k : Int) := by omega
            have c6 : ((k : Int) == 8) = false := by simp; omega
            have c7 : ((k : Int) == 9) = false := by simp; omega
            by_cases c8 : b < 1
            · go_wp2_with fail
              go_ret
              exact ⟨rfl, hb4⟩
            · by_cases c9 : 255 < b
              · go_wp2_with fail
                go_ret
                exact ⟨rfl, hb4⟩
              · obtain ⟨m, rfl⟩ := Int.eq_ofNat_of_zero_le (show 0 ≤ b by omega)
                have hx : bits .xor .u8 (F[k].toNat : Int) (m : Int) = ((F[k].toNat ^^^ m : Nat) : Int) := u8_xor_nat _ _ F[k].toNat_lt (by omega)
                have hxl : F[k].toNat ^^^ m < 256 := Nat.xor_lt_two_pow (n := 8) F[k].toNat_lt (by omega)
                have hm : IntKind.u8.wrap (m : Int) = (m : Int) := by unfold IntKind.wrap; simp [IntKind.bits, IntKind.signed]; omega
                have hne : UInt8.ofNat (F[k].toNat ^^^ m) ≠ F[k] := by
                  intro e
                  have := congrArg UInt8.toNat e
                  rw [UInt8.toNat_ofNat_of_lt' (by show _ < 256; exact hxl)] at this
                  have h2 : F[k].toNat ^^^ m = F[k].toNat ^^^ 0 := by rw [Nat.xor_zero]; exact this
                  have := xor_inj h2
                  omega
                have hno := hurt_facts hok hFl k c2 c3 c4 _ hne
                obtain ⟨T, hT⟩ : ∃ T, F.extract 0 k ++ ⟨#[UInt8.ofNat (F[k].toNat ^^^ m)]⟩ ++ F.extract (k + 1) F.size = T := ⟨_, rfl⟩
                have hTs : T.size ≤ 1000000 := by
                  rw [← hT, ByteArray.size_append, ByteArray.size_append, ByteArray.size_extract, ByteArray.size_extract]
                  show _ + 1 + _ ≤ _
                  omega
                have D1 := fun w' h' => Decode_any T 0 w' aA aT aN aW aS h' hTs
                rw [hT] at hno
                rw [hno, decR_none] at D1
                have HT := Lib.hid hT
                have hF2 : F.size ≤ 2014 := by omega
                clear hT hno hne hFl hok hF
                have hcv := conv_b ((w4.alloc (.cells #[.int .u8 ((F[k].toNat ^^^ m : Nat) : Int)] 5)).drew) w4.heap.size _ hxl (Blk.new_ w4 _ _)
                have i1 : (0 : Int) ≤ (k : Int) := by omega
                have i2 : (k : Int) < (F.size : Int) := by omega
                have i3 : (k : Int) ≤ (F.size : Int) := by omega
                have i4 : IntKind.i64.wrap ((k : Int) + 1) = (k : Int) + 1 := IntWalk.i64_in _ ⟨by omega, by omega⟩
                have i5 : (0 : Int) ≤ (k : Int) + 1 := by omega
                have i6 : ((k : Int) + 1).toNat = k + 1 := by omega
                have i7 : (k : Int) + 1 ≤ (F.size : Int) := by omega
                have z1 : (F.extract 0 k).size = k := by rw [ByteArray.size_extract]; omega
                have z2 : (F.extract (k + 1) F.size).size = F.size - (k + 1) := by rw [ByteArray.size_extract]; omega
                generalize hy : UInt8.ofNat (F[k].toNat ^^^ m) = y at *
                generalize hG : F.extract 0 k = G at *
                generalize hK : F.extract (k + 1) F.size = K at *
                have z4 : (⟨#[y]⟩ : ByteArray).size = 1 := rfl
                have z5 : (G ++ ⟨#[y]⟩ : ByteArray).size = k + 1 := by rw [ByteArray.size_append, z1]; rfl
                have n1 : ¬ (9223372036854775807 < G.size + (⟨#[y]⟩ : ByteArray).size) := by omega
                have n2 : ¬ (9223372036854775807 < (G ++ ⟨#[y]⟩ : ByteArray).size + K.size) := by omega
                have n3 : ¬ (9223372036854775807 < G.size + 1) := by omega
                have n4 : ¬ (9223372036854775807 < G.size + 1 + K.size) := by omega
                have hcv2 := conv_b (((w4.alloc (.cells #[.int .i64 0, .int .i64 0, .string ⟨#[]⟩] 23)).alloc (.cells #[.int .u8 ((F[k].toNat ^^^ m : Nat) : Int)] 5)).drew) (w4.heap.size + 1) _ hxl (Blk.at_ (by simp))
                have hcv3 := conv_b (((w4.alloc (.cells #[.int .u8 ((F[k].toNat ^^^ m : Nat) : Int)] 5)).alloc (.cells #[.int .i64 0, .int .i64 0, .string ⟨#[]⟩] 23)).drew) w4.heap.size _ hxl ((Blk.new_ w4 _ _).alloc _)
                rw [hy] at hcv2 hcv3
                clear z1 z2 z4 z5 hy
                generalize (F[k].toNat ^^^ m) = xm at *
                go_wp2_with fail
                obtain ⟨C, hC⟩ : ∃ C : Obj, Obj.cells #[.int .u8 (xm : Int)] 5 = C := ⟨_, rfl⟩
                obtain ⟨R, hR⟩ : ∃ R : Obj, Obj.cells #[.int .i64 0, .int .i64 0, .string ⟨#[]⟩] 23 = R := ⟨_, rfl⟩
                have B2 : Blk (((w4.alloc C).alloc R).drew) (w4.heap.size + 1) 23 #[.int .i64 0, .int .i64 0, .string ⟨#[]⟩] := by rw [← hR]; exact Blk.at_ (w := w4.alloc C) (by simp)
                have B3 : Blk (((w4.alloc R).alloc C).drew) w4.heap.size 23 #[.int .i64 0, .int .i64 0, .string ⟨#[]⟩] := by rw [← hR]; exact (Blk.new_ w4 _ _).alloc C
                have hE1 : Below w.heap.size w (w4.alloc C).drew := (ext_alloc hb4 _).drew
                have hE2 : Below w.heap.size w ((w4.alloc C).alloc R).drew := (ext_alloc (ext_alloc hb4 _) _).drew
                have hE3 : Below w.heap.size w ((w4.alloc R).alloc C).drew := (ext_alloc (ext_alloc hb4 _) _).drew
                rw [← hC] at hE1 hE2 hE3 B2 B3
                rw [← hR] at hE2 hE3 B2 B3
                clear hC hR
                have D1a := D1 _ (h.below hE1)
                have D1b := D1 _ (h.below hE2)
                have D1c := D1 _ (h.below hE3)
                clear D1
                refine wp_region_held_drew (S := (fun w' => Below w.heap.size w w')) (by kernel_rfl) hb4.drew (fun hHeld => ?_)
                refine wpAnyH_take (i := 0) (v := ?_) rfl (by kernel_rfl) (by kernel_rfl) (by kernel_rfl) (fun _ _ _ h => h) (Or.inl ⟨by kernel_rfl, ?_⟩) (by assumption) ?_
                rotate_left
                · intro wx hSx
                  go_simp
                  try with_reducible rfl
                try simp only [Act.put]
                try simp only [List.setIfInBounds_toArray]
                try simp only [List.set_cons_succ]
                try simp only [List.set_cons_zero]
                refine wpAnyH_take (i := 1) (v := ?_) rfl (by kernel_rfl) (by kernel_rfl) (by kernel_rfl) (fun _ _ _ h => h) (Or.inl ⟨by kernel_rfl, ?_⟩) (by assumption) ?_
                rotate_left
                · intro wx hSx
                  go_simp
                  try with_reducible rfl
                try simp only [Act.put]
                try simp only [List.setIfInBounds_toArray]
                try simp only [List.set_cons_succ]
                try simp only [List.set_cons_zero]
                refine wpAnyH_take (i := 2) (v := ?_) rfl (by kernel_rfl) (by kernel_rfl) (by kernel_rfl) (fun _ _ _ h => h) (Or.inl ⟨by kernel_rfl, ?_⟩) (by assumption) ?_
                rotate_left
                · intro wx hSx
                  go_simp
                  try with_reducible rfl
                try simp only [Act.put]
                try simp only [List.setIfInBounds_toArray]
                try simp only [List.set_cons_succ]
                try simp only [List.set_cons_zero]
                refine wpAnyH_take (i := 3) (v := ?_) rfl (by kernel_rfl) (by kernel_rfl) (by kernel_rfl) (fun _ _ _ h => h) (Or.inl ⟨by kernel_rfl, ?_⟩) (by assumption) ?_
                rotate_left
                · intro wx hSx
                  go_simp
                  try with_reducible rfl
                try simp only [Act.put]
                try simp only [List.setIfInBounds_toArray]
                try simp only [List.set_cons_succ]
                try simp only [List.set_cons_zero]
                refine wpAnyH_take (i := 4) (v := ?_) rfl (by kernel_rfl) (by kernel_rfl) (by kernel_rfl) (fun _ _ _ h => h) (Or.inl ⟨by kernel_rfl, ?_⟩) (by assumption) ?_
                rotate_left
                · intro wx hSx
                  go_simp
                  try with_reducible rfl
                try simp only [Act.put]
                try simp only [List.setIfInBounds_toArray]
                try simp only [List.set_cons_succ]
                try simp only [List.set_cons_zero]
                refine wpAnyH_take (i := 5) (v := ?_) rfl (by kernel_rfl) (by kernel_rfl) (by kernel_rfl) (fun _ _ _ h => h) (Or.inl ⟨by kernel_rfl, ?_⟩) (by assumption) ?_
                rotate_left
                · intro wx hSx
                  go_simp
                  try with_reducible rfl
                try simp only [Act.put]
                try simp only [List.setIfInBounds_toArray]
                try simp only [List.set_cons_succ]
                try simp only [List.set_cons_zero]
                refine wpAnyH_take (i := 6) (v := ?_) rfl (by kernel_rfl) (by kernel_rfl) (by kernel_rfl) (fun _ _ _ h => h) (Or.inl ⟨by kernel_rfl, ?_⟩) (by assumption) ?_
                rotate_left
                · intro wx hSx
                  go_simp
                  try with_reducible rfl
                try simp only [Act.put]
                try simp only [List.setIfInBounds_toArray]
                try simp only [List.set_cons_succ]
                try simp only [List.set_cons_zero]
                refine wpAnyH_take (i := 7) (v := ?_) rfl (by kernel_rfl) (by kernel_rfl) (by kernel_rfl) (fun _ _ _ h => h) (Or.inl ⟨by kernel_rfl, ?_⟩) (by assumption) ?_
                rotate_left
                · intro wx hSx
                  go_simp
                  try with_reducible rfl
                try simp only [Act.put]
                try simp only [List.setIfInBounds_toArray]
                try simp only [List.set_cons_succ]
                try simp only [List.set_cons_zero]
                refine wpAnyH_take (i := 8) (v := ?_) rfl (by kernel_rfl) (by kernel_rfl) (by kernel_rfl) (fun _ _ _ h => h) (Or.inl ⟨by kernel_rfl, ?_⟩) (by assumption) ?_
                rotate_left
                · intro wx hSx
                  go_simp
                  try with_reducible rfl
                try simp only [Act.put]
                try simp only [List.setIfInBounds_toArray]
                try simp only [List.set_cons_succ]
                try simp only [List.set_cons_zero]
                refine wpAnyH_take (i := 12) (v := ?_) rfl (by kernel_rfl) (by kernel_rfl) (by kernel_rfl) (fun _ _ _ h => h) (Or.inl ⟨by kernel_rfl, ?_⟩) (by assumption) ?_
                rotate_left
                · intro wx hSx
                  go_simp
                  try with_reducible rfl
                try simp only [Act.put]
                try simp only [List.setIfInBounds_toArray]
                try simp only [List.set_cons_succ]
                try simp only [List.set_cons_zero]
                refine wpAnyH_take (i := 13) (v := ?_) rfl (by kernel_rfl) (by kernel_rfl) (by kernel_rfl) (fun _ _ _ h => h) (Or.inl ⟨by kernel_rfl, ?_⟩) (by assumption) ?_
                rotate_left
                · intro wx hSx
                  go_simp
                  try with_reducible rfl
                try simp only [Act.put]
                try simp only [List.setIfInBounds_toArray]
                try simp only [List.set_cons_succ]
                try simp only [List.set_cons_zero]
                refine wpAnyH_take (i := 14) (v := ?_) rfl (by kernel_rfl) (by kernel_rfl) (by kernel_rfl) (fun _ _ _ h => h) (Or.inl ⟨by kernel_rfl, ?_⟩) (by assumption) ?_
                rotate_left
                · intro wx hSx
                  go_simp
                  try with_reducible rfl
                try simp only [Act.put]
                try simp only [List.setIfInBounds_toArray]
                try simp only [List.set_cons_succ]
                try simp only [List.set_cons_zero]
                refine wpAnyH_take (i := 15) (v := ?_) rfl (by kernel_rfl) (by kernel_rfl) (by kernel_rfl) (fun _ _ _ h => h) (Or.inl ⟨by kernel_rfl, ?_⟩) (by assumption) ?_
                rotate_left
                · intro wx hSx
                  go_simp
                  try with_reducible rfl
                try simp only [Act.put]
                try simp only [List.setIfInBounds_toArray]
                try simp only [List.set_cons_succ]
                try simp only [List.set_cons_zero]
                refine wpAnyH_ready (rs := [9, 22]) (by kernel_rfl) (by simp) ?_
                refine AllReadyH.cons rfl (fun K hK => ?_) (AllReadyH.cons rfl (fun K hK => ?_) AllReadyH.nil)
                · go_simp
                  refine hK.out _ _ (hHeld.alloc hHeld.size _) (fun hHeld => ?_)
                  clear hK K
                  try simp only [Act.put]
                  try simp only [List.setIfInBounds_toArray]
                  try simp only [List.set_cons_succ]
                  try simp only [List.set_cons_zero]
                  refine wpAnyH_ready (rs := [10, 22]) (by kernel_rfl) (by simp) ?_
                  refine AllReadyH.cons rfl (fun K hK => ?_) (AllReadyH.cons rfl (fun K hK => ?_) AllReadyH.nil)
                  · go_simp
                    refine hK.out _ _ hHeld (fun hHeld => ?_)
                    clear hK K
                    try simp only [Act.put]
                    try simp only [List.setIfInBounds_toArray]
                    try simp only [List.set_cons_succ]
                    try simp only [List.set_cons_zero]
                    refine wpAnyH_take (i := 11) (v := ?_) rfl (by kernel_rfl) (by kernel_rfl) (by kernel_rfl) (fun _ _ _ h => h) (Or.inl ⟨by kernel_rfl, ?_⟩) (by assumption) ?_
                    rotate_left
                    · intro wx hSx
                      go_simp
                      try with_reducible rfl
                    try simp only [Act.put]
                    try simp only [List.setIfInBounds_toArray]
                    try simp only [List.set_cons_succ]
                    try simp only [List.set_cons_zero]
                    refine wpAnyH_take (i := 16) (v := ?_) rfl (by kernel_rfl) (by kernel_rfl) (by kernel_rfl) (fun _ _ _ h => h) (Or.inl ⟨by kernel_rfl, ?_⟩) (by assumption) ?_
                    rotate_left
                    · intro wx hSx
                      go_simp
                      try with_reducible rfl
                    try simp only [Act.put]
                    try simp only [List.setIfInBounds_toArray]
                    try simp only [List.set_cons_succ]
                    try simp only [List.set_cons_zero]
                    refine wpAnyH_ready (rs := [17, 22]) (by kernel_rfl) (by simp) ?_
                    refine AllReadyH.cons rfl (fun K hK => ?_) (AllReadyH.cons rfl (fun K hK => ?_) AllReadyH.nil)
                    · go_simp
                      rw [HT.out]
                      refine D1a.mono ?_
                      rintro e v1 ⟨rfl, hc1⟩
                      have hc2 := ext_trans hE1 hc1
                      try go_wp2_with fail
                      refine hK.out _ _ hc2 (fun hHeld => ?_)
                      clear hK K
                      try simp only [Act.put]
                      try simp only [List.setIfInBounds_toArray]
                      try simp only [List.set_cons_succ]
                      try simp only [List.set_cons_zero]
                      refine wpAnyH_take (i := 18) (v := ?_) rfl (by kernel_rfl) (by kernel_rfl) (by kernel_rfl) (fun _ _ _ h => h) (Or.inl ⟨by kernel_rfl, ?_⟩) (by assumption) ?_
                      rotate_left
                      · intro wx hSx
                        go_simp
                        try with_reducible rfl
                      try simp only [Act.put]
                      try simp only [List.setIfInBounds_toArray]
                      try simp only [List.set_cons_succ]
                      try simp only [List.set_cons_zero]
                      refine wpAnyH_take (i := 19) (v := ?_) rfl (by kernel_rfl) (by kernel_rfl) (by kernel_rfl) (fun _ _ _ h => h) (Or.inl ⟨by kernel_rfl, ?_⟩) (by assumption) ?_
                      rotate_left
                      · intro wx hSx
                        go_simp
                        try with_reducible rfl
                      try simp only [Act.put]
                      try simp only [List.setIfInBounds_toArray]
                      try simp only [List.set_cons_succ]
                      try simp only [List.set_cons_zero]
                      refine wpAnyH_take (i := 20) (v := ?_) rfl (by kernel_rfl) (by kernel_rfl) (by kernel_rfl) (fun _ _ _ h => h) (Or.inl ⟨by kernel_rfl, ?_⟩) (by assumption) ?_
                      rotate_left
                      · intro wx hSx
                        go_simp
                        try with_reducible rfl
                      try simp only [Act.put]
                      try simp only [List.setIfInBounds_toArray]
                      try simp only [List.set_cons_succ]
                      try simp only [List.set_cons_zero]
                      refine wpAnyH_take (i := 21) (v := ?_) rfl (by kernel_rfl) (by kernel_rfl) (by kernel_rfl) (fun _ _ _ h => h) (Or.inl ⟨by kernel_rfl, ?_⟩) (by assumption) ?_
                      rotate_left
                      · intro wx hSx
                        go_simp
                        try with_reducible rfl
                      try simp only [Act.put]
                      try simp only [List.setIfInBounds_toArray]
                      try simp only [List.set_cons_succ]
                      try simp only [List.set_cons_zero]
                      refine wpAnyH_ready (rs := [22]) (by kernel_rfl) (by simp) ?_
                      refine AllReadyH.cons rfl (fun K hK => ?_) AllReadyH.nil
                      go_simp
                      refine hK.out _ _ (hHeld.alloc hHeld.size _) (fun hHeld => ?_)
                      clear hK K
                      try simp only [Act.put]
                      try simp only [List.setIfInBounds_toArray]
                      try simp only [List.set_cons_succ]
                      try simp only [List.set_cons_zero]
                      refine wpAnyH_ready (rs := [23]) (by kernel_rfl) (by simp) ?_
                      refine AllReadyH.cons rfl (fun K hK => ?_) AllReadyH.nil
                      go_simp
                      refine hK.out _ _ (by first | exact ((hHeld.setCell (by have := hb4.size; simp; omega) _).setCell (by have := hb4.size; simp; omega) _).setCell (by have := hb4.size; simp; omega) _ | exact hc2.alloc hc2.size _) (fun hHeld => ?_)
                      clear hK K
                      try simp only [Act.put]
                      try simp only [List.setIfInBounds_toArray]
                      try simp only [List.set_cons_succ]
                      try simp only [List.set_cons_zero]
                      refine wpAnyH_take (i := 24) (v := ?_) rfl (by kernel_rfl) (by kernel_rfl) (by kernel_rfl) (fun _ _ _ h => h) (Or.inl ⟨by kernel_rfl, ?_⟩) (by assumption) ?_
                      rotate_left
                      · intro wx hSx
                        go_simp
                        try with_reducible rfl
                      try simp only [Act.put]
                      try simp only [List.setIfInBounds_toArray]
                      try simp only [List.set_cons_succ]
                      try simp only [List.set_cons_zero]
                      refine wpAnyH_take (i := 25) (v := ?_) rfl (by kernel_rfl) (by kernel_rfl) (by kernel_rfl) (fun _ _ _ h => h) (Or.inl ⟨by kernel_rfl, ?_⟩) (by assumption) ?_
                      rotate_left
                      · intro wx hSx
                        go_simp
                        try with_reducible rfl
                      try simp only [Act.put]
                      try simp only [List.setIfInBounds_toArray]
                      try simp only [List.set_cons_succ]
                      try simp only [List.set_cons_zero]
                      refine wpAnyH_done (by kernel_rfl) ?_ _
                      go_wp2_with fail
                      go_ret
                      exact ⟨rfl, hHeld⟩
                    · go_simp
                      refine hK.out _ _ (hHeld.alloc hHeld.size _) (fun hHeld => ?_)
                      clear hK K
                      try simp only [Act.put]
                      try simp only [List.setIfInBounds_toArray]
                      try simp only [List.set_cons_succ]
                      try simp only [List.set_cons_zero]
                      refine wpAnyH_ready (rs := [17]) (by kernel_rfl) (by simp) ?_
                      refine AllReadyH.cons rfl (fun K hK => ?_) AllReadyH.nil
                      go_simp
                      rw [HT.out]
                      refine D1b.mono ?_
                      rintro e v1 ⟨rfl, hc1⟩
                      have hc2 := ext_trans hE2 hc1
                      obtain ⟨k0, k1, k2, f0, f1, f2⟩ := (B2.below hc1).c3
                      try go_wp2_with fail
                      refine hK.out _ _ hc2 (fun hHeld => ?_)
                      clear hK K
                      try simp only [Act.put]
                      try simp only [List.setIfInBounds_toArray]
                      try simp only [List.set_cons_succ]
                      try simp only [List.set_cons_zero]
                      refine wpAnyH_take (i := 18) (v := ?_) rfl (by kernel_rfl) (by kernel_rfl) (by kernel_rfl) (fun _ _ _ h => h) (Or.inl ⟨by kernel_rfl, ?_⟩) (by assumption) ?_
                      rotate_left
                      · intro wx hSx
                        go_simp
                        try with_reducible rfl
                      try simp only [Act.put]
                      try simp only [List.setIfInBounds_toArray]
                      try simp only [List.set_cons_succ]
                      try simp only [List.set_cons_zero]
                      refine wpAnyH_take (i := 19) (v := ?_) rfl (by kernel_rfl) (by kernel_rfl) (by kernel_rfl) (fun _ _ _ h => h) (Or.inl ⟨by kernel_rfl, ?_⟩) (by assumption) ?_
                      rotate_left
                      · intro wx hSx
                        go_simp
                        try with_reducible rfl
                      try simp only [Act.put]
                      try simp only [List.setIfInBounds_toArray]
                      try simp only [List.set_cons_succ]
                      try simp only [List.set_cons_zero]
                      refine wpAnyH_take (i := 20) (v := ?_) rfl (by kernel_rfl) (by kernel_rfl) (by kernel_rfl) (fun _ _ _ h => h) (Or.inl ⟨by kernel_rfl, ?_⟩) (by assumption) ?_
                      rotate_left
                      · intro wx hSx
                        go_simp
                        try with_reducible rfl
                      try simp only [Act.put]
                      try simp only [List.setIfInBounds_toArray]
                      try simp only [List.set_cons_succ]
                      try simp only [List.set_cons_zero]
                      refine wpAnyH_take (i := 21) (v := ?_) rfl (by kernel_rfl) (by kernel_rfl) (by kernel_rfl) (fun _ _ _ h => h) (Or.inl ⟨by kernel_rfl, ?_⟩) (by assumption) ?_
                      rotate_left
                      · intro wx hSx
                        go_simp
                        try with_reducible rfl
                      try simp only [Act.put]
                      try simp only [List.setIfInBounds_toArray]
                      try simp only [List.set_cons_succ]
                      try simp only [List.set_cons_zero]
                      refine wpAnyH_ready (rs := [23]) (by kernel_rfl) (by simp) ?_
                      refine AllReadyH.cons rfl (fun K hK => ?_) AllReadyH.nil
                      go_simp
                      refine hK.out _ _ (by first | exact ((hHeld.setCell (by have := hb4.size; simp; omega) _).setCell (by have := hb4.size; simp; omega) _).setCell (by have := hb4.size; simp; omega) _ | exact hc2.alloc hc2.size _) (fun hHeld => ?_)
                      clear hK K
                      try simp only [Act.put]
                      try simp only [List.setIfInBounds_toArray]
                      try simp only [List.set_cons_succ]
                      try simp only [List.set_cons_zero]
                      refine wpAnyH_take (i := 24) (v := ?_) rfl (by kernel_rfl) (by kernel_rfl) (by kernel_rfl) (fun _ _ _ h => h) (Or.inl ⟨by kernel_rfl, ?_⟩) (by assumption) ?_
                      rotate_left
                      · intro wx hSx
                        go_simp
                        try with_reducible rfl
                      try simp only [Act.put]
                      try simp only [List.setIfInBounds_toArray]
                      try simp only [List.set_cons_succ]
                      try simp only [List.set_cons_zero]
                      refine wpAnyH_take (i := 25) (v := ?_) rfl (by kernel_rfl) (by kernel_rfl) (by kernel_rfl) (fun _ _ _ h => h) (Or.inl ⟨by kernel_rfl, ?_⟩) (by assumption) ?_
                      rotate_left
                      · intro wx hSx
                        go_simp
                        try with_reducible rfl
                      try simp only [Act.put]
                      try simp only [List.setIfInBounds_toArray]
                      try simp only [List.set_cons_succ]
                      try simp only [List.set_cons_zero]
                      refine wpAnyH_done (by kernel_rfl) ?_ _
                      go_wp2_with fail
                      go_ret
                      exact ⟨rfl, hHeld⟩
                  · go_simp
                    refine hK.out _ _ (hHeld.alloc hHeld.size _) (fun hHeld => ?_)
                    clear hK K
                    try simp only [Act.put]
                    try simp only [List.setIfInBounds_toArray]
                    try simp only [List.set_cons_succ]
                    try simp only [List.set_cons_zero]
                    refine wpAnyH_ready (rs := [10]) (by kernel_rfl) (by simp) ?_
                    refine AllReadyH.cons rfl (fun K hK => ?_) AllReadyH.nil
                    go_simp
                    refine hK.out _ _ hHeld (fun hHeld => ?_)
                    clear hK K
                    try simp only [Act.put]
                    try simp only [List.setIfInBounds_toArray]
                    try simp only [List.set_cons_succ]
                    try simp only [List.set_cons_zero]
                    refine wpAnyH_take (i := 11) (v := ?_) rfl (by kernel_rfl) (by kernel_rfl) (by kernel_rfl) (fun _ _ _ h => h) (Or.inl ⟨by kernel_rfl, ?_⟩) (by assumption) ?_
                    rotate_left
                    · intro wx hSx
                      go_simp
                      try with_reducible rfl
                    try simp only [Act.put]
                    try simp only [List.setIfInBounds_toArray]
                    try simp only [List.set_cons_succ]
                    try simp only [List.set_cons_zero]
                    refine wpAnyH_take (i := 16) (v := ?_) rfl (by kernel_rfl) (by kernel_rfl) (by kernel_rfl) (fun _ _ _ h => h) (Or.inl ⟨by kernel_rfl, ?_⟩) (by assumption) ?_
                    rotate_left
                    · intro wx hSx
                      go_simp
                      try with_reducible rfl
                    try simp only [Act.put]
                    try simp only [List.setIfInBounds_toArray]
                    try simp only [List.set_cons_succ]
                    try simp only [List.set_cons_zero]
                    refine wpAnyH_ready (rs := [17]) (by kernel_rfl) (by simp) ?_
                    refine AllReadyH.cons rfl (fun K hK => ?_) AllReadyH.nil
                    go_simp
                    rw [HT.out]
                    refine D1b.mono ?_
                    rintro e v1 ⟨rfl, hc1⟩
                    have hc2 := ext_trans hE2 hc1
                    obtain ⟨k0, k1, k2, f0, f1, f2⟩ := (B2.below hc1).c3
                    try go_wp2_with fail
                    refine hK.out _ _ hc2 (fun hHeld => ?_)
                    clear hK K
                    try simp only [Act.put]
                    try simp only [List.setIfInBounds_toArray]
                    try simp only [List.set_cons_succ]
                    try simp only [List.set_cons_zero]
                    refine wpAnyH_take (i := 18) (v := ?_) rfl (by kernel_rfl) (by kernel_rfl) (by kernel_rfl) (fun _ _ _ h => h) (Or.inl ⟨by kernel_rfl, ?_⟩) (by assumption) ?_
                    rotate_left
                    · intro wx hSx
                      go_simp
                      try with_reducible rfl
                    try simp only [Act.put]
                    try simp only [List.setIfInBounds_toArray]
                    try simp only [List.set_cons_succ]
                    try simp only [List.set_cons_zero]
                    refine wpAnyH_take (i := 19) (v := ?_) rfl (by kernel_rfl) (by kernel_rfl) (by kernel_rfl) (fun _ _ _ h => h) (Or.inl ⟨by kernel_rfl, ?_⟩) (by assumption) ?_
                    rotate_left
                    · intro wx hSx
                      go_simp
                      try with_reducible rfl
                    try simp only [Act.put]
                    try simp only [List.setIfInBounds_toArray]
                    try simp only [List.set_cons_succ]
                    try simp only [List.set_cons_zero]
                    refine wpAnyH_take (i := 20) (v := ?_) rfl (by kernel_rfl) (by kernel_rfl) (by kernel_rfl) (fun _ _ _ h => h) (Or.inl ⟨by kernel_rfl, ?_⟩) (by assumption) ?_
                    rotate_left
                    · intro wx hSx
                      go_simp
                      try with_reducible rfl
                    try simp only [Act.put]
                    try simp only [List.setIfInBounds_toArray]
                    try simp only [List.set_cons_succ]
                    try simp only [List.set_cons_zero]
                    refine wpAnyH_take (i := 21) (v := ?_) rfl (by kernel_rfl) (by kernel_rfl) (by kernel_rfl) (fun _ _ _ h => h) (Or.inl ⟨by kernel_rfl, ?_⟩) (by assumption) ?_
                    rotate_left
                    · intro wx hSx
                      go_simp
                      try with_reducible rfl
                    try simp only [Act.put]
                    try simp only [List.setIfInBounds_toArray]
                    try simp only [List.set_cons_succ]
                    try simp only [List.set_cons_zero]
                    refine wpAnyH_ready (rs := [23]) (by kernel_rfl) (by simp) ?_
                    refine AllReadyH.cons rfl (fun K hK => ?_) AllReadyH.nil
                    go_simp
                    refine hK.out _ _ (by first | exact ((hHeld.setCell (by have := hb4.size; simp; omega) _).setCell (by have := hb4.size; simp; omega) _).setCell (by have := hb4.size; simp; omega) _ | exact hc2.alloc hc2.size _) (fun hHeld => ?_)
                    clear hK K
                    try simp only [Act.put]
                    try simp only [List.setIfInBounds_toArray]
                    try simp only [List.set_cons_succ]
                    try simp only [List.set_cons_zero]
                    refine wpAnyH_take (i := 24) (v := ?_) rfl (by kernel_rfl) (by kernel_rfl) (by kernel_rfl) (fun _ _ _ h => h) (Or.inl ⟨by kernel_rfl, ?_⟩) (by assumption) ?_
                    rotate_left
                    · intro wx hSx
                      go_simp
                      try with_reducible rfl
                    try simp only [Act.put]
                    try simp only [List.setIfInBounds_toArray]
                    try simp only [List.set_cons_succ]
                    try simp only [List.set_cons_zero]
                    refine wpAnyH_take (i := 25) (v := ?_) rfl (by kernel_rfl) (by kernel_rfl) (by kernel_rfl) (fun _ _ _ h => h) (Or.inl ⟨by kernel_rfl, ?_⟩) (by assumption) ?_
                    rotate_left
                    · intro wx hSx
                      go_simp
                      try with_reducible rfl
                    try simp only [Act.put]
                    try simp only [List.setIfInBounds_toArray]
                    try simp only [List.set_cons_succ]
                    try simp only [List.set_cons_zero]
                    refine wpAnyH_done (by kernel_rfl) ?_ _
                    go_wp2_with fail
                    go_ret
                    exact ⟨rfl, hHeld⟩
                · go_simp
                  refine hK.out _ _ (hHeld.alloc hHeld.size _) (fun hHeld => ?_)
                  clear hK K
                  try simp only [Act.put]
                  try simp only [List.setIfInBounds_toArray]
                  try simp only [List.set_cons_succ]
                  try simp only [List.set_cons_zero]
                  refine wpAnyH_ready (rs := [9]) (by kernel_rfl) (by simp) ?_
                  refine AllReadyH.cons rfl (fun K hK => ?_) AllReadyH.nil
                  go_simp
                  refine hK.out _ _ (hHeld.alloc hHeld.size _) (fun hHeld => ?_)
                  clear hK K
                  try simp only [Act.put]
                  try simp only [List.setIfInBounds_toArray]
                  try simp only [List.set_cons_succ]
                  try simp only [List.set_cons_zero]
                  refine wpAnyH_ready (rs := [10]) (by kernel_rfl) (by simp) ?_
                  refine AllReadyH.cons rfl (fun K hK => ?_) AllReadyH.nil
                  go_simp
                  refine hK.out _ _ hHeld (fun hHeld => ?_)
                  clear hK K
                  try simp only [Act.put]
                  try simp only [List.setIfInBounds_toArray]
                  try simp only [List.set_cons_succ]
                  try simp only [List.set_cons_zero]
                  refine wpAnyH_take (i := 11) (v := ?_) rfl (by kernel_rfl) (by kernel_rfl) (by kernel_rfl) (fun _ _ _ h => h) (Or.inl ⟨by kernel_rfl, ?_⟩) (by assumption) ?_
                  rotate_left
                  · intro wx hSx
                    go_simp
                    try with_reducible rfl
                  try simp only [Act.put]
                  try simp only [List.setIfInBounds_toArray]
                  try simp only [List.set_cons_succ]
                  try simp only [List.set_cons_zero]
                  refine wpAnyH_take (i := 16) (v := ?_) rfl (by kernel_rfl) (by kernel_rfl) (by kernel_rfl) (fun _ _ _ h => h) (Or.inl ⟨by kernel_rfl, ?_⟩) (by assumption) ?_
                  rotate_left
                  · intro wx hSx
                    go_simp
                    try with_reducible rfl
                  try simp only [Act.put]
                  try simp only [List.setIfInBounds_toArray]
                  try simp only [List.set_cons_succ]
                  try simp only [List.set_cons_zero]
                  refine wpAnyH_ready (rs := [17]) (by kernel_rfl) (by simp) ?_
                  refine AllReadyH.cons rfl (fun K hK => ?_) AllReadyH.nil
                  go_simp
                  rw [HT.out]
                  refine D1c.mono ?_
                  rintro e v1 ⟨rfl, hc1⟩
                  have hc2 := ext_trans hE3 hc1
                  obtain ⟨k0, k1, k2, f0, f1, f2⟩ := (B3.below hc1).c3
                  try go_wp2_with fail
                  refine hK.out _ _ hc2 (fun hHeld => ?_)
                  clear hK K
                  try simp only [Act.put]
                  try simp only [List.setIfInBounds_toArray]
                  try simp only [List.set_cons_succ]
                  try simp only [List.set_cons_zero]
                  refine wpAnyH_take (i := 18) (v := ?_) rfl (by kernel_rfl) (by kernel_rfl) (by kernel_rfl) (fun _ _ _ h => h) (Or.inl ⟨by kernel_rfl, ?_⟩) (by assumption) ?_
                  rotate_left
                  · intro wx hSx
                    go_simp
                    try with_reducible rfl
                  try simp only [Act.put]
                  try simp only [List.setIfInBounds_toArray]
                  try simp only [List.set_cons_succ]
                  try simp only [List.set_cons_zero]
                  refine wpAnyH_take (i := 19) (v := ?_) rfl (by kernel_rfl) (by kernel_rfl) (by kernel_rfl) (fun _ _ _ h => h) (Or.inl ⟨by kernel_rfl, ?_⟩) (by assumption) ?_
                  rotate_left
                  · intro wx hSx
                    go_simp
                    try with_reducible rfl
                  try simp only [Act.put]
                  try simp only [List.setIfInBounds_toArray]
                  try simp only [List.set_cons_succ]
                  try simp only [List.set_cons_zero]
                  refine wpAnyH_take (i := 20) (v := ?_) rfl (by kernel_rfl) (by kernel_rfl) (by kernel_rfl) (fun _ _ _ h => h) (Or.inl ⟨by kernel_rfl, ?_⟩) (by assumption) ?_
                  rotate_left
                  · intro wx hSx
                    go_simp
                    try with_reducible rfl
                  try simp only [Act.put]
                  try simp only [List.setIfInBounds_toArray]
                  try simp only [List.set_cons_succ]
                  try simp only [List.set_cons_zero]
                  refine wpAnyH_take (i := 21) (v := ?_) rfl (by kernel_rfl) (by kernel_rfl) (by kernel_rfl) (fun _ _ _ h => h) (Or.inl ⟨by kernel_rfl, ?_⟩) (by assumption) ?_
                  rotate_left
                  · intro wx hSx
                    go_simp
                    try with_reducible rfl
                  try simp only [Act.put]
                  try simp only [List.setIfInBounds_toArray]
                  try simp only [List.set_cons_succ]
                  try simp only [List.set_cons_zero]
                  refine wpAnyH_ready (rs := [23]) (by kernel_rfl) (by simp) ?_
                  refine AllReadyH.cons rfl (fun K hK => ?_) AllReadyH.nil
                  go_simp
                  refine hK.out _ _ (by first | exact ((hHeld.setCell (by have := hb4.size; simp; omega) _).setCell (by have := hb4.size; simp; omega) _).setCell (by have := hb4.size; simp; omega) _ | exact hc2.alloc hc2.size _) (fun hHeld => ?_)
                  clear hK K
                  try simp only [Act.put]
                  try simp only [List.setIfInBounds_toArray]
                  try simp only [List.set_cons_succ]
                  try simp only [List.set_cons_zero]
                  refine wpAnyH_take (i := 24) (v := ?_) rfl (by kernel_rfl) (by kernel_rfl) (by kernel_rfl) (fun _ _ _ h => h) (Or.inl ⟨by kernel_rfl, ?_⟩) (by assumption) ?_
                  rotate_left
                  · intro wx hSx
                    go_simp
                    try with_reducible rfl
                  try simp only [Act.put]
                  try simp only [List.setIfInBounds_toArray]
                  try simp only [List.set_cons_succ]
                  try simp only [List.set_cons_zero]
                  refine wpAnyH_take (i := 25) (v := ?_) rfl (by kernel_rfl) (by kernel_rfl) (by kernel_rfl) (fun _ _ _ h => h) (Or.inl ⟨by kernel_rfl, ?_⟩) (by assumption) ?_
                  rotate_left
                  · intro wx hSx
                    go_simp
                    try with_reducible rfl
                  try simp only [Act.put]
                  try simp only [List.setIfInBounds_toArray]
                  try simp only [List.set_cons_succ]
                  try simp only [List.set_cons_zero]
                  refine wpAnyH_done (by kernel_rfl) ?_ _
                  go_wp2_with fail
                  go_ret
                  exact ⟨rfl, hHeld⟩
      · have c5 : (F.size : Int) ≤ (k : Int) := by omega
        go_wp2_with fail
        go_ret
        exact ⟨rfl, hb4⟩

end Go.Proofs.YtlabmomehjfjdaaDoor
