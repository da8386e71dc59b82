/-
  Package postriderlaw05: the walk of the statement CrcBursts: it hands back true. Conditions: the listed variables hold what 'CInv' says.
-/
import Derived.Test.YtdijnffefapcfaaDoorCrcH
namespace Go.Proofs.YtdijnffefapcfaaDoor
open Go.RowKit

theorem CrcBursts_no (n p a b c d : Int) (s : ByteArray) (w : World) (aA aT aN aW aS : Addr) (h : CInv w aA aT aN aW aS) (hs : s.size ≤ 9223372036854775807) (h1 : n ≠ 1) (h2 : n ≠ 2) :
    Calls Tryd.prog 5 #[.int .i64 n, .string s, .int .i64 p, .int .i64 a, .int .i64 b, .int .i64 c, .int .i64 d] w (Ret (.bool true) w) := by
  have HZ := Lib.hid (show sizeV n = 0 by rw [sizeV, if_neg h1, if_neg h2])
  clear h1 h2
  go_enter Tryd.func5, Tryd.ntmps5
  go_wp2_with fail
  refine (cshown_any _ aA aT aN aW aS h).mono ?_
  rintro e w1 ⟨rfl, hb1⟩
  go_wp2_with fail
  refine (ccut_any s _ hs).mono ?_
  rintro e w2 ⟨rfl, rfl⟩
  have hsz := cut200_size s
  generalize cut200 s = s at hsz
  go_wp2_with fail
  refine (Size_any n _ aA aT aN aW aS (h.below hb1)).mono ?_
  rintro e w2 ⟨rfl, hb2'⟩
  have hb2 := ext_trans hb1 hb2'
  clear hb1 hb2'
  rw [HZ.out]
  by_cases h0 : p < 0
  · go_wp2
    go_ret
    exact ⟨rfl, hb2⟩
  · go_wp2
    go_ret
    exact ⟨rfl, hb2⟩

/-- The bytes that are put. -/
def burstB (s : ByteArray) (p : Nat) (vs : List Int) (n : Nat) : List UInt8 := (List.range n).map fun i => UInt8.ofNat ((s.data.toList.getD (p + i) 0).toNat ^^^ (vs.getD i 0 % 256).toNat)
theorem burstB_length (s : ByteArray) (p : Nat) (vs : List Int) (n : Nat) : (burstB s p vs n).length = n := by simp [burstB]
theorem burstB_take (s : ByteArray) (p : Nat) (vs : List Int) (n k : Nat) (h : k < n) : (burstB s p vs n).take (k + 1) = (burstB s p vs n).take k ++ [UInt8.ofNat ((s.data.toList.getD (p + k) 0).toNat ^^^ (vs.getD k 0 % 256).toNat)] := by
  rw [List.take_succ_eq_append_getElem (by rw [burstB_length]; exact h)]
  congr 2
  simp [burstB]
theorem ext_len (s : ByteArray) (p n : Nat) (h : p + n ≤ s.size) : (s.extract p (p + n)).data.toList.length = n := by
  rw [Array.length_toList]
  show (s.extract p (p + n)).size = n
  rw [ByteArray.size_extract]; omega
theorem burst_lists (s : ByteArray) (p n : Nat) (tt : ByteArray) (h : p + n ≤ s.size) : s.data.toList = s.data.toList.take p ++ (s.extract p (p + n)).data.toList ++ s.data.toList.drop (p + n) ∧
    (s.extract 0 p ++ tt ++ s.extract (p + n) s.size).data.toList = s.data.toList.take p ++ tt.data.toList ++ s.data.toList.drop (p + n) := by
  have hl : s.data.toList.length = s.size := by rw [Array.length_toList]; rfl
  have e : ∀ x y : ByteArray, (x ++ y).data.toList = x.data.toList ++ y.data.toList := fun x y => by simp
  have x0 : (s.extract 0 p).data.toList = s.data.toList.take p := by have := extract_list s 0 p; rw [Nat.zero_add] at this; rw [this]; try simp
  have x3 : (s.extract (p + n) s.size).data.toList = s.data.toList.drop (p + n) := by
    have := extract_list s (p + n) (s.size - (p + n))
    rw [show p + n + (s.size - (p + n)) = s.size by omega] at this
    rw [this, List.take_of_length_le (by simp)]
  refine ⟨?_, by rw [e, e, x0, x3]⟩
  rw [extract_list, List.append_assoc, ← List.drop_drop, List.take_append_drop, List.take_append_drop]
theorem strs_eq (a b : List UInt8) : ((⟨a.toArray⟩ : ByteArray).toList == (⟨b.toArray⟩ : ByteArray).toList) = decide (a = b) := by
  rw [Lib.toList_data, Lib.toList_data]
  by_cases h : a = b
  · subst h; simp
  · simp [h]
theorem conv8 (y : Nat) (hy : y < 256) (W : World) :
    (convert 39 9 (.slice (some ⟨W.heap.size, 0, none⟩) 1 1)).run Tryd.prog ((W.alloc (.cells #[.int .u8 (y : Int)] 5)).drew) = .ok (.string ⟨#[UInt8.ofNat y]⟩) ((W.alloc (.cells #[.int .u8 (y : Int)] 5)).drew) := by
  refine run_convert_bytes_back (P := Tryd.prog) _ 39 9 5 ⟨W.heap.size, 0, none⟩ 1 [UInt8.ofNat y] Tryd.underlying39 Tryd.underlying5 Tryd.underlying9 (fun j hj => ?_)
  simp at hj
  subst hj
  rw [addr_add]
  have : (UInt8.ofNat y).toNat = y := UInt8.toNat_ofNat_of_lt' (by show _ < 256; omega)
  simp [this]

set_option maxRecDepth 100000 in
set_option maxHeartbeats 1000000 in
theorem CrcBursts_1out (p a b c d : Int) (s : ByteArray) (w : World) (aA aT aN aW aS : Addr) (h : CInv w aA aT aN aW aS) (hs : s.size ≤ 9223372036854775807) (hp1 : -9223372036854775808 ≤ p) (hp2 : p ≤ 9223372036854775807) (hout : p < 0 ∨ (cut200 s).size < p + 2) :
    Calls Tryd.prog 5 #[.int .i64 1, .string s, .int .i64 p, .int .i64 a, .int .i64 b, .int .i64 c, .int .i64 d] w (Ret (.bool true) w) := by
  go_enter Tryd.func5, Tryd.ntmps5
  go_wp2_with fail
  refine (cshown_any _ aA aT aN aW aS h).mono ?_
  rintro e w1 ⟨rfl, hb1⟩
  go_wp2_with fail
  refine (ccut_any s _ hs).mono ?_
  rintro e w2 ⟨rfl, rfl⟩
  have hsz0 := cut200_size s
  generalize cut200 s = s at hsz0 hout
  go_wp2_with fail
  refine (Size_1 _ aA aT aN aW aS (h.below hb1)).mono ?_
  rintro e w2 ⟨rfl, hb2'⟩
  have hb2 := ext_trans hb1 hb2'
  clear hb1 hb2'
  by_cases h0 : p < 0
  · go_wp2
    go_ret
    exact ⟨rfl, hb2⟩
  · have h1 : (s.size : Int) - 2 < p := by omega
    clear hout
    go_wp2
    go_ret
    exact ⟨rfl, hb2⟩

set_option maxRecDepth 100000 in
set_option maxHeartbeats 2000000 in
theorem CrcBursts_1 (p : Nat) (a b c d : Int) (s : ByteArray) (w : World) (aA aT aN aW aS : Addr) (h : CInv w aA aT aN aW aS) (hs : s.size ≤ 9223372036854775807) (hp : p + 2 ≤ (cut200 s).size) :
    Calls Tryd.prog 5 #[.int .i64 1, .string s, .int .i64 (p : Int), .int .i64 a, .int .i64 b, .int .i64 c, .int .i64 d] w (Ret (.bool true) w) := by
  go_enter Tryd.func5, Tryd.ntmps5
  go_wp2_with fail
  refine (cshown_any _ aA aT aN aW aS h).mono ?_
  rintro e w1 ⟨rfl, hb1⟩
  go_wp2_with fail
  refine (ccut_any s _ hs).mono ?_
  rintro e w2 ⟨rfl, rfl⟩
  have hsz0 := cut200_size s
  generalize cut200 s = s at hsz0 hp
  have hs200 : s.size ≤ 9223372036854775807 := by omega
  go_wp2_with fail
  refine (Size_1 _ aA aT aN aW aS (h.below hb1)).mono ?_
  rintro e w2 ⟨rfl, hb2'⟩
  have hb2 := ext_trans hb1 hb2'
  clear hb1 hb2'
  have h1 : (p : Int) ≤ (s.size : Int) - 2 := by omega
  go_wp2_with fail
  obtain ⟨g, hg⟩ : ∃ g, w2.heap.size = g := ⟨_, rfl⟩
  have hblk : (w2.alloc (.cells #[.int .i64 a, .int .i64 b, .int .i64 c, .int .i64 d] 3)).heap[g]? = some (.cells #[.int .i64 a, .int .i64 b, .int .i64 c, .int .i64 d] 3 (0, 0)) := by rw [← hg]; exact World.alloc_heap_new w2 _
  have hb3 := ext_alloc hb2 (.cells #[.int .i64 a, .int .i64 b, .int .i64 c, .int .i64 d] 3)
  have hgs : g < (w2.alloc (.cells #[.int .i64 a, .int .i64 b, .int .i64 c, .int .i64 d] 3)).heap.size := by simp; omega
  rw [hg]
  generalize w2.alloc (.cells #[.int .i64 a, .int .i64 b, .int .i64 c, .int .i64 d] 3) = w3 at hblk hb3 hgs
  clear hb2 hg
  go_loopw [18, 19] (fun t i wr => ∃ (k : Nat) (tt : ByteArray), k ≤ 2 ∧ i = .int .i64 k ∧ t = .string tt ∧ tt.data.toList = (burstB s p [a, b, c, d] 2).take k ∧ tt.size = k ∧ Below w.heap.size w wr ∧ wr.heap[g]? = some (.cells #[.int .i64 a, .int .i64 b, .int .i64 c, .int .i64 d] 3 (0, 0))) (fun _ i _ => 2 - (intOf i).toNat)
  case atStart => exact ⟨0, ByteArray.empty, by omega, rfl, rfl, rfl, rfl, hb3, hblk⟩
  case round =>
    obtain ⟨k, tt, hk, rfl, rfl, htl, hts, hbe, hbk⟩ := hrel
    have hsz := hbe.size
    have hgl : g < wr.heap.size := (Array.getElem?_eq_some_iff.1 hbk).1
    by_cases hlt : k < 2
    · have HT := Lib.hid (burstB_take s p [a, b, c, d] 2 k hlt)
      have HTL := Lib.hid htl
      have HTS := Lib.hid hts
      have hpk : p + k < s.size := by omega
      have hc0 : wr.cell? ⟨g, k, none⟩ = some (.int .i64 ([a, b, c, d].getD k 0)) := by
        rw [cell_of_row wr g k _ _ (0, 0) hbk]
        match k, hlt with
        | 0, _ => rfl
        | 1, _ => rfl
        
        
      generalize hv : [a, b, c, d].getD k 0 = v at hc0 HT
      have hc := hc0
      have HBK := Lib.hid hbk
      have hx : bits .xor .u8 ((s[p + k]).toNat : Int) (IntKind.u8.wrap v) = ((s[p + k].toNat ^^^ (v % 256).toNat : Nat) : Int) := by
        rw [IntKind.wrap_u8']
        have h2 : (v % 256) = (((v % 256).toNat : Nat) : Int) := by omega
        rw [h2]
        exact u8_xor_nat _ _ s[p + k].toNat_lt (by omega)
      have hg : s.data.toList.getD (p + k) 0 = s[p + k] := by
        rw [List.getD, List.getElem?_eq_getElem (by simpa using hpk)]; rfl
      rw [hg] at HT
      have hy : s[p + k].toNat ^^^ (v % 256).toNat < 256 := Nat.xor_lt_two_pow (n := 8) s[p + k].toNat_lt (by omega)
      generalize s[p + k].toNat ^^^ (v % 256).toNat = y at hx hy HT
      have hcv := conv8 y hy wr
      have htt : tt.size ≤ 4 := by omega
      have c1 : ¬ (9223372036854775807 < tt.size + 1) := by omega
      have i1 : (0 : Int) ≤ (k : Int) := by omega
      have i2 : (k : Int) < 4 := by omega
      have i3 : (0 : Int) ≤ (p : Int) + (k : Int) := by omega
      have i4 : (p : Int) + (k : Int) < (s.size : Int) := by omega
      have j1 : IntKind.i64.wrap ((p : Int) + (k : Int)) = (p : Int) + (k : Int) := IntWalk.i64_in _ (by omega)
      have j2 : ((p : Int) + (k : Int)).toNat = p + k := by omega
      clear hg hv htl hts hbk
      go_wp2_with fail
      refine wp_region_held_drew (S := (fun w' => w'.cell? ⟨g, k, none⟩ = some (.int .i64 v) ∧ Below w.heap.size w w')) (by kernel_rfl) ⟨hc, hbe.drew⟩ (fun hHeld => ?_)
      refine wpAnyH_take (i := 0) (v := ?_) rfl (by kernel_rfl) (by kernel_rfl) (by kernel_rfl) (fun _ _ _ h => h) (Or.inl ⟨by kernel_rfl, ?_⟩) (by assumption) ?_
      rotate_left
      · intro wx hSx
        obtain ⟨hS1, hS2⟩ := hSx
        go_simp
        try with_reducible rfl
      try simp only [Act.put]
      try simp only [List.setIfInBounds_toArray]
      try simp only [List.set_cons_succ]
      try simp only [List.set_cons_zero]
      refine wpAnyH_take (i := 1) (v := ?_) rfl (by kernel_rfl) (by kernel_rfl) (by kernel_rfl) (fun _ _ _ h => h) (Or.inl ⟨by kernel_rfl, ?_⟩) (by assumption) ?_
      rotate_left
      · intro wx hSx
        obtain ⟨hS1, hS2⟩ := hSx
        go_simp
        try with_reducible rfl
      try simp only [Act.put]
      try simp only [List.setIfInBounds_toArray]
      try simp only [List.set_cons_succ]
      try simp only [List.set_cons_zero]
      refine wpAnyH_take (i := 2) (v := ?_) rfl (by kernel_rfl) (by kernel_rfl) (by kernel_rfl) (fun _ _ _ h => h) (Or.inl ⟨by kernel_rfl, ?_⟩) (by assumption) ?_
      rotate_left
      · intro wx hSx
        obtain ⟨hS1, hS2⟩ := hSx
        go_simp
        try with_reducible rfl
      try simp only [Act.put]
      try simp only [List.setIfInBounds_toArray]
      try simp only [List.set_cons_succ]
      try simp only [List.set_cons_zero]
      refine wpAnyH_take (i := 3) (v := ?_) rfl (by kernel_rfl) (by kernel_rfl) (by kernel_rfl) (fun _ _ _ h => h) (Or.inl ⟨by kernel_rfl, ?_⟩) (by assumption) ?_
      rotate_left
      · intro wx hSx
        obtain ⟨hS1, hS2⟩ := hSx
        go_simp
        try with_reducible rfl
      try simp only [Act.put]
      try simp only [List.setIfInBounds_toArray]
      try simp only [List.set_cons_succ]
      try simp only [List.set_cons_zero]
      refine wpAnyH_take (i := 4) (v := ?_) rfl (by kernel_rfl) (by kernel_rfl) (by kernel_rfl) (fun _ _ _ h => h) (Or.inl ⟨by kernel_rfl, ?_⟩) (by assumption) ?_
      rotate_left
      · intro wx hSx
        obtain ⟨hS1, hS2⟩ := hSx
        go_simp
        try with_reducible rfl
      try simp only [Act.put]
      try simp only [List.setIfInBounds_toArray]
      try simp only [List.set_cons_succ]
      try simp only [List.set_cons_zero]
      refine wpAnyH_take (i := 5) (v := ?_) rfl (by kernel_rfl) (by kernel_rfl) (by kernel_rfl) (fun _ _ _ h => h) (Or.inl ⟨by kernel_rfl, ?_⟩) (by assumption) ?_
      rotate_left
      · intro wx hSx
        obtain ⟨hS1, hS2⟩ := hSx
        go_simp
        try with_reducible rfl
      try simp only [Act.put]
      try simp only [List.setIfInBounds_toArray]
      try simp only [List.set_cons_succ]
      try simp only [List.set_cons_zero]
      refine wpAnyH_take (i := 6) (v := ?_) rfl (by kernel_rfl) (by kernel_rfl) (by kernel_rfl) (fun _ _ _ h => h) (Or.inl ⟨by kernel_rfl, ?_⟩) (by assumption) ?_
      rotate_left
      · intro wx hSx
        obtain ⟨hS1, hS2⟩ := hSx
        go_simp
        try with_reducible rfl
      try simp only [Act.put]
      try simp only [List.setIfInBounds_toArray]
      try simp only [List.set_cons_succ]
      try simp only [List.set_cons_zero]
      refine wpAnyH_take (i := 7) (v := ?_) rfl (by kernel_rfl) (by kernel_rfl) (by kernel_rfl) (fun _ _ _ h => h) (Or.inl ⟨by kernel_rfl, ?_⟩) (by assumption) ?_
      rotate_left
      · intro wx hSx
        obtain ⟨hS1, hS2⟩ := hSx
        go_simp
        try with_reducible rfl
      try simp only [Act.put]
      try simp only [List.setIfInBounds_toArray]
      try simp only [List.set_cons_succ]
      try simp only [List.set_cons_zero]
      refine wpAnyH_take (i := 8) (v := ?_) rfl (by kernel_rfl) (by kernel_rfl) (by kernel_rfl) (fun _ _ _ h => h) (Or.inl ⟨by kernel_rfl, ?_⟩) (by assumption) ?_
      rotate_left
      · intro wx hSx
        obtain ⟨hS1, hS2⟩ := hSx
        go_simp
        try with_reducible rfl
      try simp only [Act.put]
      try simp only [List.setIfInBounds_toArray]
      try simp only [List.set_cons_succ]
      try simp only [List.set_cons_zero]
      refine wpAnyH_take (i := 9) (v := ?_) rfl (by kernel_rfl) (by kernel_rfl) (by kernel_rfl) (fun _ _ _ h => h) (Or.inl ⟨by kernel_rfl, ?_⟩) (by assumption) ?_
      rotate_left
      · intro wx hSx
        obtain ⟨hS1, hS2⟩ := hSx
        go_simp
        try with_reducible rfl
      try simp only [Act.put]
      try simp only [List.setIfInBounds_toArray]
      try simp only [List.set_cons_succ]
      try simp only [List.set_cons_zero]
      refine wpAnyH_take (i := 10) (v := ?_) rfl (by kernel_rfl) (by kernel_rfl) (by kernel_rfl) (fun _ _ _ h => h) (Or.inl ⟨by kernel_rfl, ?_⟩) (by assumption) ?_
      rotate_left
      · intro wx hSx
        obtain ⟨hS1, hS2⟩ := hSx
        go_simp
        try with_reducible rfl
      try simp only [Act.put]
      try simp only [List.setIfInBounds_toArray]
      try simp only [List.set_cons_succ]
      try simp only [List.set_cons_zero]
      refine wpAnyH_take (i := 11) (v := ?_) rfl (by kernel_rfl) (by kernel_rfl) (by kernel_rfl) (fun _ _ _ h => h) (Or.inl ⟨by kernel_rfl, ?_⟩) (by assumption) ?_
      rotate_left
      · intro wx hSx
        obtain ⟨hS1, hS2⟩ := hSx
        go_simp
        try with_reducible rfl
      try simp only [Act.put]
      try simp only [List.setIfInBounds_toArray]
      try simp only [List.set_cons_succ]
      try simp only [List.set_cons_zero]
      refine wpAnyH_ready (rs := [12]) (by kernel_rfl) (by simp) ?_
      refine AllReadyH.cons rfl (fun K hK => ?_) AllReadyH.nil
      go_simp
      refine hK.out _ _ ⟨(World.cell?_alloc_lt _ _ _ hgl).trans hHeld.1, hHeld.2.alloc hsz _⟩ (fun hHeld => ?_)
      clear hK K
      try simp only [Act.put]
      try simp only [List.setIfInBounds_toArray]
      try simp only [List.set_cons_succ]
      try simp only [List.set_cons_zero]
      refine wpAnyH_ready (rs := [13]) (by kernel_rfl) (by simp) ?_
      refine AllReadyH.cons rfl (fun K hK => ?_) AllReadyH.nil
      go_simp
      refine hK.out _ _ hHeld (fun hHeld => ?_)
      clear hK K
      try simp only [Act.put]
      try simp only [List.setIfInBounds_toArray]
      try simp only [List.set_cons_succ]
      try simp only [List.set_cons_zero]
      refine wpAnyH_take (i := 14) (v := ?_) rfl (by kernel_rfl) (by kernel_rfl) (by kernel_rfl) (fun _ _ _ h => h) (Or.inl ⟨by kernel_rfl, ?_⟩) (by assumption) ?_
      rotate_left
      · intro wx hSx
        obtain ⟨hS1, hS2⟩ := hSx
        go_simp
        try with_reducible rfl
      try simp only [Act.put]
      try simp only [List.setIfInBounds_toArray]
      try simp only [List.set_cons_succ]
      try simp only [List.set_cons_zero]
      refine wpAnyH_take (i := 15) (v := ?_) rfl (by kernel_rfl) (by kernel_rfl) (by kernel_rfl) (fun _ _ _ h => h) (Or.inl ⟨by kernel_rfl, ?_⟩) (by assumption) ?_
      rotate_left
      · intro wx hSx
        obtain ⟨hS1, hS2⟩ := hSx
        go_simp
        try with_reducible rfl
      try simp only [Act.put]
      try simp only [List.setIfInBounds_toArray]
      try simp only [List.set_cons_succ]
      try simp only [List.set_cons_zero]
      refine wpAnyH_done (by kernel_rfl) ?_ _
      go_wp2_with fail
      refine ⟨⟨k + 1, tt ++ ⟨#[UInt8.ofNat y]⟩, by omega, by go_num, rfl, ?_, ?_, hHeld.2, ?_⟩, ?_⟩
      · rw [HT.out, ← HTL.out]; simp
      · rw [ByteArray.size_append, HTS.out]; rfl
      · exact (Below.heap_alloc wr _ g hgl).trans HBK.out
      · simp [intOf]; omega
    · obtain rfl : k = 2 := by omega
      rw [List.take_of_length_le (by rw [burstB_length]; omega)] at htl
      obtain ⟨e1, e2⟩ := burst_lists s p 2 tt hp
      have hiff := bursts false (s.data.toList.take p) (s.extract p (p + 2)).data.toList tt.data.toList (s.data.toList.drop (p + 2)) (by rw [ext_len s p 2 hp, Array.length_toList]; exact hts.symm) (ext_len s p 2 hp)
      rw [← e1, ← e2] at hiff
      have HQ := Lib.hid (show (((⟨(sumB false s.data.toList).toArray⟩ : ByteArray).toList == (⟨(sumB false (s.extract 0 p ++ tt ++ s.extract (p + 2) s.size).data.toList).toArray⟩ : ByteArray).toList) == (tt.toList == (s.extract p (p + 2)).toList)) = true by
        rw [strs_eq, decide_eq_decide.2 hiff, Lib.toList_data, Lib.toList_data, beq_iff_eq]
        by_cases hxy : (s.extract p (p + 2)).data.toList = tt.data.toList
        · rw [decide_eq_true hxy, hxy]; simp
        · rw [decide_eq_false hxy]
          exact (beq_eq_false_iff_ne.2 (fun e => hxy e.symm)).symm)
      clear e1 e2 hiff htl hbk
      have hts4 : tt.size = 2 := hts
      have HTS := Lib.hid hts
      clear hts
      have i1 : (0 : Int) ≤ (p : Int) := by omega
      have i2 : (p : Int) ≤ (s.size : Int) := by omega
      have i3 : (p : Int) + 2 ≤ (s.size : Int) := by omega
      have j1 : IntKind.i64.wrap ((p : Int) + 2) = (p : Int) + 2 := IntWalk.i64_in _ (by omega)
      have j2 : ((p : Int) + 2).toNat = p + 2 := by omega
      have k1 : (0 : Int) ≤ (p : Int) + 2 := by omega
      have k2 : (p : Int) ≤ (p : Int) + 2 := by omega
      have c1 : ¬ (9223372036854775807 < min p s.size + tt.size) := by omega
      have c2 : ¬ (9223372036854775807 < min p s.size + tt.size + (s.size - (p + 2))) := by omega
      have htt4 : tt.size ≤ 4 := by omega
      clear hts4
      go_wp2_with fail
      refine (Of_1 s _ aA aT aN aW aS (h.below hbe) hs200).mono ?_
      rintro e w5 ⟨rfl, hb5'⟩
      have hb5 := ext_trans hbe hb5'
      clear hb5'
      generalize hB1 : (⟨(sumB false s.data.toList).toArray⟩ : ByteArray) = B1 at HQ
      clear hB1
      go_wp2_with fail
      refine wp_region_held_drew (S := (fun w' => Below w.heap.size w w')) (by kernel_rfl) hb5.drew (fun hHeld => ?_)
      refine wpAnyH_take (i := 0) (v := ?_) rfl (by kernel_rfl) (by kernel_rfl) (by kernel_rfl) (fun _ _ _ h => h) (Or.inl ⟨by kernel_rfl, ?_⟩) (by assumption) ?_
      rotate_left
      · intro wx hSx
        go_simp
        try with_reducible rfl
      try simp only [Act.put]
      try simp only [List.setIfInBounds_toArray]
      try simp only [List.set_cons_succ]
      try simp only [List.set_cons_zero]
      refine wpAnyH_take (i := 1) (v := ?_) rfl (by kernel_rfl) (by kernel_rfl) (by kernel_rfl) (fun _ _ _ h => h) (Or.inl ⟨by kernel_rfl, ?_⟩) (by assumption) ?_
      rotate_left
      · intro wx hSx
        go_simp
        try with_reducible rfl
      try simp only [Act.put]
      try simp only [List.setIfInBounds_toArray]
      try simp only [List.set_cons_succ]
      try simp only [List.set_cons_zero]
      refine wpAnyH_take (i := 2) (v := ?_) rfl (by kernel_rfl) (by kernel_rfl) (by kernel_rfl) (fun _ _ _ h => h) (Or.inl ⟨by kernel_rfl, ?_⟩) (by assumption) ?_
      rotate_left
      · intro wx hSx
        go_simp
        try with_reducible rfl
      try simp only [Act.put]
      try simp only [List.setIfInBounds_toArray]
      try simp only [List.set_cons_succ]
      try simp only [List.set_cons_zero]
      refine wpAnyH_take (i := 3) (v := ?_) rfl (by kernel_rfl) (by kernel_rfl) (by kernel_rfl) (fun _ _ _ h => h) (Or.inl ⟨by kernel_rfl, ?_⟩) (by assumption) ?_
      rotate_left
      · intro wx hSx
        go_simp
        try with_reducible rfl
      try simp only [Act.put]
      try simp only [List.setIfInBounds_toArray]
      try simp only [List.set_cons_succ]
      try simp only [List.set_cons_zero]
      refine wpAnyH_take (i := 4) (v := ?_) rfl (by kernel_rfl) (by kernel_rfl) (by kernel_rfl) (fun _ _ _ h => h) (Or.inl ⟨by kernel_rfl, ?_⟩) (by assumption) ?_
      rotate_left
      · intro wx hSx
        go_simp
        try with_reducible rfl
      try simp only [Act.put]
      try simp only [List.setIfInBounds_toArray]
      try simp only [List.set_cons_succ]
      try simp only [List.set_cons_zero]
      refine wpAnyH_take (i := 5) (v := ?_) rfl (by kernel_rfl) (by kernel_rfl) (by kernel_rfl) (fun _ _ _ h => h) (Or.inl ⟨by kernel_rfl, ?_⟩) (by assumption) ?_
      rotate_left
      · intro wx hSx
        go_simp
        try with_reducible rfl
      try simp only [Act.put]
      try simp only [List.setIfInBounds_toArray]
      try simp only [List.set_cons_succ]
      try simp only [List.set_cons_zero]
      refine wpAnyH_take (i := 6) (v := ?_) rfl (by kernel_rfl) (by kernel_rfl) (by kernel_rfl) (fun _ _ _ h => h) (Or.inl ⟨by kernel_rfl, ?_⟩) (by assumption) ?_
      rotate_left
      · intro wx hSx
        go_simp
        try with_reducible rfl
      try simp only [Act.put]
      try simp only [List.setIfInBounds_toArray]
      try simp only [List.set_cons_succ]
      try simp only [List.set_cons_zero]
      refine wpAnyH_take (i := 7) (v := ?_) rfl (by kernel_rfl) (by kernel_rfl) (by kernel_rfl) (fun _ _ _ h => h) (Or.inl ⟨by kernel_rfl, ?_⟩) (by assumption) ?_
      rotate_left
      · intro wx hSx
        go_simp
        try with_reducible rfl
      try simp only [Act.put]
      try simp only [List.setIfInBounds_toArray]
      try simp only [List.set_cons_succ]
      try simp only [List.set_cons_zero]
      refine wpAnyH_take (i := 8) (v := ?_) rfl (by kernel_rfl) (by kernel_rfl) (by kernel_rfl) (fun _ _ _ h => h) (Or.inl ⟨by kernel_rfl, ?_⟩) (by assumption) ?_
      rotate_left
      · intro wx hSx
        go_simp
        try with_reducible rfl
      try simp only [Act.put]
      try simp only [List.setIfInBounds_toArray]
      try simp only [List.set_cons_succ]
      try simp only [List.set_cons_zero]
      refine wpAnyH_take (i := 9) (v := ?_) rfl (by kernel_rfl) (by kernel_rfl) (by kernel_rfl) (fun _ _ _ h => h) (Or.inl ⟨by kernel_rfl, ?_⟩) (by assumption) ?_
      rotate_left
      · intro wx hSx
        go_simp
        try with_reducible rfl
      try simp only [Act.put]
      try simp only [List.setIfInBounds_toArray]
      try simp only [List.set_cons_succ]
      try simp only [List.set_cons_zero]
      refine wpAnyH_take (i := 10) (v := ?_) rfl (by kernel_rfl) (by kernel_rfl) (by kernel_rfl) (fun _ _ _ h => h) (Or.inl ⟨by kernel_rfl, ?_⟩) (by assumption) ?_
      rotate_left
      · intro wx hSx
        go_simp
        try with_reducible rfl
      try simp only [Act.put]
      try simp only [List.setIfInBounds_toArray]
      try simp only [List.set_cons_succ]
      try simp only [List.set_cons_zero]
      refine wpAnyH_take (i := 11) (v := ?_) rfl (by kernel_rfl) (by kernel_rfl) (by kernel_rfl) (fun _ _ _ h => h) (Or.inl ⟨by kernel_rfl, ?_⟩) (by assumption) ?_
      rotate_left
      · intro wx hSx
        go_simp
        try with_reducible rfl
      try simp only [Act.put]
      try simp only [List.setIfInBounds_toArray]
      try simp only [List.set_cons_succ]
      try simp only [List.set_cons_zero]
      refine wpAnyH_ready (rs := [12]) (by kernel_rfl) (by simp) ?_
      refine AllReadyH.cons rfl (fun K hK => ?_) AllReadyH.nil
      go_simp
      refine (Of_1 _ _ aA aT aN aW aS (h.below hHeld) (by simp only [ByteArray.size_append, ByteArray.size_extract]; omega)).mono ?_
      rintro e w6 ⟨rfl, hb6'⟩
      try go_wp2_with fail
      refine hK.out _ _ (ext_trans hHeld hb6') (fun hHeld => ?_)
      clear hK K
      try simp only [Act.put]
      try simp only [List.setIfInBounds_toArray]
      try simp only [List.set_cons_succ]
      try simp only [List.set_cons_zero]
      refine wpAnyH_take (i := 13) (v := ?_) rfl (by kernel_rfl) (by kernel_rfl) (by kernel_rfl) (fun _ _ _ h => h) (Or.inl ⟨by kernel_rfl, ?_⟩) (by assumption) ?_
      rotate_left
      · intro wx hSx
        go_simp
        try with_reducible rfl
      try simp only [Act.put]
      try simp only [List.setIfInBounds_toArray]
      try simp only [List.set_cons_succ]
      try simp only [List.set_cons_zero]
      refine wpAnyH_take (i := 14) (v := ?_) rfl (by kernel_rfl) (by kernel_rfl) (by kernel_rfl) (fun _ _ _ h => h) (Or.inl ⟨by kernel_rfl, ?_⟩) (by assumption) ?_
      rotate_left
      · intro wx hSx
        go_simp
        try with_reducible rfl
      try simp only [Act.put]
      try simp only [List.setIfInBounds_toArray]
      try simp only [List.set_cons_succ]
      try simp only [List.set_cons_zero]
      refine wpAnyH_take (i := 15) (v := ?_) rfl (by kernel_rfl) (by kernel_rfl) (by kernel_rfl) (fun _ _ _ h => h) (Or.inl ⟨by kernel_rfl, ?_⟩) (by assumption) ?_
      rotate_left
      · intro wx hSx
        go_simp
        try with_reducible rfl
      try simp only [Act.put]
      try simp only [List.setIfInBounds_toArray]
      try simp only [List.set_cons_succ]
      try simp only [List.set_cons_zero]
      refine wpAnyH_take (i := 16) (v := ?_) rfl (by kernel_rfl) (by kernel_rfl) (by kernel_rfl) (fun _ _ _ h => h) (Or.inl ⟨by kernel_rfl, ?_⟩) (by assumption) ?_
      rotate_left
      · intro wx hSx
        go_simp
        try with_reducible rfl
      try simp only [Act.put]
      try simp only [List.setIfInBounds_toArray]
      try simp only [List.set_cons_succ]
      try simp only [List.set_cons_zero]
      refine wpAnyH_take (i := 17) (v := ?_) rfl (by kernel_rfl) (by kernel_rfl) (by kernel_rfl) (fun _ _ _ h => h) (Or.inl ⟨by kernel_rfl, ?_⟩) (by assumption) ?_
      rotate_left
      · intro wx hSx
        go_simp
        try with_reducible rfl
      try simp only [Act.put]
      try simp only [List.setIfInBounds_toArray]
      try simp only [List.set_cons_succ]
      try simp only [List.set_cons_zero]
      refine wpAnyH_done (by kernel_rfl) ?_ _
      go_wp2_with fail
      go_ret
      have hq := HQ.out
      exact ⟨by simp at hq ⊢; exact hq, hHeld⟩

set_option maxRecDepth 100000 in
set_option maxHeartbeats 1000000 in
theorem CrcBursts_2out (p a b c d : Int) (s : ByteArray) (w : World) (aA aT aN aW aS : Addr) (h : CInv w aA aT aN aW aS) (hs : s.size ≤ 9223372036854775807) (hp1 : -9223372036854775808 ≤ p) (hp2 : p ≤ 9223372036854775807) (hout : p < 0 ∨ (cut200 s).size < p + 4) :
    Calls Tryd.prog 5 #[.int .i64 2, .string s, .int .i64 p, .int .i64 a, .int .i64 b, .int .i64 c, .int .i64 d] w (Ret (.bool true) w) := by
  go_enter Tryd.func5, Tryd.ntmps5
  go_wp2_with fail
  refine (cshown_any _ aA aT aN aW aS h).mono ?_
  rintro e w1 ⟨rfl, hb1⟩
  go_wp2_with fail
  refine (ccut_any s _ hs).mono ?_
  rintro e w2 ⟨rfl, rfl⟩
  have hsz0 := cut200_size s
  generalize cut200 s = s at hsz0 hout
  go_wp2_with fail
  refine (Size_2 _ aA aT aN aW aS (h.below hb1)).mono ?_
  rintro e w2 ⟨rfl, hb2'⟩
  have hb2 := ext_trans hb1 hb2'
  clear hb1 hb2'
  by_cases h0 : p < 0
  · go_wp2
    go_ret
    exact ⟨rfl, hb2⟩
  · have h1 : (s.size : Int) - 4 < p := by omega
    clear hout
    go_wp2
    go_ret
    exact ⟨rfl, hb2⟩

set_option maxRecDepth 100000 in
set_option maxHeartbeats 2000000 in
theorem CrcBursts_2 (p : Nat) (a b c d : Int) (s : ByteArray) (w : World) (aA aT aN aW aS : Addr) (h : CInv w aA aT aN aW aS) (hs : s.size ≤ 9223372036854775807) (hp : p + 4 ≤ (cut200 s).size) :
    Calls Tryd.prog 5 #[.int .i64 2, .string s, .int .i64 (p : Int), .int .i64 a, .int .i64 b, .int .i64 c, .int .i64 d] w (Ret (.bool true) w) := by
  go_enter Tryd.func5, Tryd.ntmps5
  go_wp2_with fail
  refine (cshown_any _ aA aT aN aW aS h).mono ?_
  rintro e w1 ⟨rfl, hb1⟩
  go_wp2_with fail
  refine (ccut_any s _ hs).mono ?_
  rintro e w2 ⟨rfl, rfl⟩
  have hsz0 := cut200_size s
  generalize cut200 s = s at hsz0 hp
  have hs200 : s.size ≤ 9223372036854775807 := by omega
  go_wp2_with fail
  refine (Size_2 _ aA aT aN aW aS (h.below hb1)).mono ?_
  rintro e w2 ⟨rfl, hb2'⟩
  have hb2 := ext_trans hb1 hb2'
  clear hb1 hb2'
  have h1 : (p : Int) ≤ (s.size : Int) - 4 := by omega
  go_wp2_with fail
  obtain ⟨g, hg⟩ : ∃ g, w2.heap.size = g := ⟨_, rfl⟩
  have hblk : (w2.alloc (.cells #[.int .i64 a, .int .i64 b, .int .i64 c, .int .i64 d] 3)).heap[g]? = some (.cells #[.int .i64 a, .int .i64 b, .int .i64 c, .int .i64 d] 3 (0, 0)) := by rw [← hg]; exact World.alloc_heap_new w2 _
  have hb3 := ext_alloc hb2 (.cells #[.int .i64 a, .int .i64 b, .int .i64 c, .int .i64 d] 3)
  have hgs : g < (w2.alloc (.cells #[.int .i64 a, .int .i64 b, .int .i64 c, .int .i64 d] 3)).heap.size := by simp; omega
  rw [hg]
  generalize w2.alloc (.cells #[.int .i64 a, .int .i64 b, .int .i64 c, .int .i64 d] 3) = w3 at hblk hb3 hgs
  clear hb2 hg
  go_loopw [18, 19] (fun t i wr => ∃ (k : Nat) (tt : ByteArray), k ≤ 4 ∧ i = .int .i64 k ∧ t = .string tt ∧ tt.data.toList = (burstB s p [a, b, c, d] 4).take k ∧ tt.size = k ∧ Below w.heap.size w wr ∧ wr.heap[g]? = some (.cells #[.int .i64 a, .int .i64 b, .int .i64 c, .int .i64 d] 3 (0, 0))) (fun _ i _ => 4 - (intOf i).toNat)
  case atStart => exact ⟨0, ByteArray.empty, by omega, rfl, rfl, rfl, rfl, hb3, hblk⟩
  case round =>
    obtain ⟨k, tt, hk, rfl, rfl, htl, hts, hbe, hbk⟩ := hrel
    have hsz := hbe.size
    have hgl : g < wr.heap.size := (Array.getElem?_eq_some_iff.1 hbk).1
    by_cases hlt : k < 4
    · have HT := Lib.hid (burstB_take s p [a, b, c, d] 4 k hlt)
      have HTL := Lib.hid htl
      have HTS := Lib.hid hts
      have hpk : p + k < s.size := by omega
      have hc0 : wr.cell? ⟨g, k, none⟩ = some (.int .i64 ([a, b, c, d].getD k 0)) := by
        rw [cell_of_row wr g k _ _ (0, 0) hbk]
        match k, hlt with
        | 0, _ => rfl
        | 1, _ => rfl
        | 2, _ => rfl
        | 3, _ => rfl
      generalize hv : [a, b, c, d].getD k 0 = v at hc0 HT
      have hc := hc0
      have HBK := Lib.hid hbk
      have hx : bits .xor .u8 ((s[p + k]).toNat : Int) (IntKind.u8.wrap v) = ((s[p + k].toNat ^^^ (v % 256).toNat : Nat) : Int) := by
        rw [IntKind.wrap_u8']
        have h2 : (v % 256) = (((v % 256).toNat : Nat) : Int) := by omega
        rw [h2]
        exact u8_xor_nat _ _ s[p + k].toNat_lt (by omega)
      have hg : s.data.toList.getD (p + k) 0 = s[p + k] := by
        rw [List.getD, List.getElem?_eq_getElem (by simpa using hpk)]; rfl
      rw [hg] at HT
      have hy : s[p + k].toNat ^^^ (v % 256).toNat < 256 := Nat.xor_lt_two_pow (n := 8) s[p + k].toNat_lt (by omega)
      generalize s[p + k].toNat ^^^ (v % 256).toNat = y at hx hy HT
      have hcv := conv8 y hy wr
      have htt : tt.size ≤ 4 := by omega
      have c1 : ¬ (9223372036854775807 < tt.size + 1) := by omega
      have i1 : (0 : Int) ≤ (k : Int) := by omega
      have i2 : (k : Int) < 4 := by omega
      have i3 : (0 : Int) ≤ (p : Int) + (k : Int) := by omega
      have i4 : (p : Int) + (k : Int) < (s.size : Int) := by omega
      have j1 : IntKind.i64.wrap ((p : Int) + (k : Int)) = (p : Int) + (k : Int) := IntWalk.i64_in _ (by omega)
      have j2 : ((p : Int) + (k : Int)).toNat = p + k := by omega
      clear hg hv htl hts hbk
      go_wp2_with fail
      refine wp_region_held_drew (S := (fun w' => w'.cell? ⟨g, k, none⟩ = some (.int .i64 v) ∧ Below w.heap.size w w')) (by kernel_rfl) ⟨hc, hbe.drew⟩ (fun hHeld => ?_)
      refine wpAnyH_take (i := 0) (v := ?_) rfl (by kernel_rfl) (by kernel_rfl) (by kernel_rfl) (fun _ _ _ h => h) (Or.inl ⟨by kernel_rfl, ?_⟩) (by assumption) ?_
      rotate_left
      · intro wx hSx
        obtain ⟨hS1, hS2⟩ := hSx
        go_simp
        try with_reducible rfl
      try simp only [Act.put]
      try simp only [List.setIfInBounds_toArray]
      try simp only [List.set_cons_succ]
      try simp only [List.set_cons_zero]
      refine wpAnyH_take (i := 1) (v := ?_) rfl (by kernel_rfl) (by kernel_rfl) (by kernel_rfl) (fun _ _ _ h => h) (Or.inl ⟨by kernel_rfl, ?_⟩) (by assumption) ?_
      rotate_left
      · intro wx hSx
        obtain ⟨hS1, hS2⟩ := hSx
        go_simp
        try with_reducible rfl
      try simp only [Act.put]
      try simp only [List.setIfInBounds_toArray]
      try simp only [List.set_cons_succ]
      try simp only [List.set_cons_zero]
      refine wpAnyH_take (i := 2) (v := ?_) rfl (by kernel_rfl) (by kernel_rfl) (by kernel_rfl) (fun _ _ _ h => h) (Or.inl ⟨by kernel_rfl, ?_⟩) (by assumption) ?_
      rotate_left
      · intro wx hSx
        obtain ⟨hS1, hS2⟩ := hSx
        go_simp
        try with_reducible rfl
      try simp only [Act.put]
      try simp only [List.setIfInBounds_toArray]
      try simp only [List.set_cons_succ]
      try simp only [List.set_cons_zero]
      refine wpAnyH_take (i := 3) (v := ?_) rfl (by kernel_rfl) (by kernel_rfl) (by kernel_rfl) (fun _ _ _ h => h) (Or.inl ⟨by kernel_rfl, ?_⟩) (by assumption) ?_
      rotate_left
      · intro wx hSx
        obtain ⟨hS1, hS2⟩ := hSx
        go_simp
        try with_reducible rfl
      try simp only [Act.put]
      try simp only [List.setIfInBounds_toArray]
      try simp only [List.set_cons_succ]
      try simp only [List.set_cons_zero]
      refine wpAnyH_take (i := 4) (v := ?_) rfl (by kernel_rfl) (by kernel_rfl) (by kernel_rfl) (fun _ _ _ h => h) (Or.inl ⟨by kernel_rfl, ?_⟩) (by assumption) ?_
      rotate_left
      · intro wx hSx
        obtain ⟨hS1, hS2⟩ := hSx
        go_simp
        try with_reducible rfl
      try simp only [Act.put]
      try simp only [List.setIfInBounds_toArray]
      try simp only [List.set_cons_succ]
      try simp only [List.set_cons_zero]
      refine wpAnyH_take (i := 5) (v := ?_) rfl (by kernel_rfl) (by kernel_rfl) (by kernel_rfl) (fun _ _ _ h => h) (Or.inl ⟨by kernel_rfl, ?_⟩) (by assumption) ?_
      rotate_left
      · intro wx hSx
        obtain ⟨hS1, hS2⟩ := hSx
        go_simp
        try with_reducible rfl
      try simp only [Act.put]
      try simp only [List.setIfInBounds_toArray]
      try simp only [List.set_cons_succ]
      try simp only [List.set_cons_zero]
      refine wpAnyH_take (i := 6) (v := ?_) rfl (by kernel_rfl) (by kernel_rfl) (by kernel_rfl) (fun _ _ _ h => h) (Or.inl ⟨by kernel_rfl, ?_⟩) (by assumption) ?_
      rotate_left
      · intro wx hSx
        obtain ⟨hS1, hS2⟩ := hSx
        go_simp
        try with_reducible rfl
      try simp only [Act.put]
      try simp only [List.setIfInBounds_toArray]
      try simp only [List.set_cons_succ]
      try simp only [List.set_cons_zero]
      refine wpAnyH_take (i := 7) (v := ?_) rfl (by kernel_rfl) (by kernel_rfl) (by kernel_rfl) (fun _ _ _ h => h) (Or.inl ⟨by kernel_rfl, ?_⟩) (by assumption) ?_
      rotate_left
      · intro wx hSx
        obtain ⟨hS1, hS2⟩ := hSx
        go_simp
        try with_reducible rfl
      try simp only [Act.put]
      try simp only [List.setIfInBounds_toArray]
      try simp only [List.set_cons_succ]
      try simp only [List.set_cons_zero]
      refine wpAnyH_take (i := 8) (v := ?_) rfl (by kernel_rfl) (by kernel_rfl) (by kernel_rfl) (fun _ _ _ h => h) (Or.inl ⟨by kernel_rfl, ?_⟩) (by assumption) ?_
      rotate_left
      · intro wx hSx
        obtain ⟨hS1, hS2⟩ := hSx
        go_simp
        try with_reducible rfl
      try simp only [Act.put]
      try simp only [List.setIfInBounds_toArray]
      try simp only [List.set_cons_succ]
      try simp only [List.set_cons_zero]
      refine wpAnyH_take (i := 9) (v := ?_) rfl (by kernel_rfl) (by kernel_rfl) (by kernel_rfl) (fun _ _ _ h => h) (Or.inl ⟨by kernel_rfl, ?_⟩) (by assumption) ?_
      rotate_left
      · intro wx hSx
        obtain ⟨hS1, hS2⟩ := hSx
        go_simp
        try with_reducible rfl
      try simp only [Act.put]
      try simp only [List.setIfInBounds_toArray]
      try simp only [List.set_cons_succ]
      try simp only [List.set_cons_zero]
      refine wpAnyH_take (i := 10) (v := ?_) rfl (by kernel_rfl) (by kernel_rfl) (by kernel_rfl) (fun _ _ _ h => h) (Or.inl ⟨by kernel_rfl, ?_⟩) (by assumption) ?_
      rotate_left
      · intro wx hSx
        obtain ⟨hS1, hS2⟩ := hSx
        go_simp
        try with_reducible rfl
      try simp only [Act.put]
      try simp only [List.setIfInBounds_toArray]
      try simp only [List.set_cons_succ]
      try simp only [List.set_cons_zero]
      refine wpAnyH_take (i := 11) (v := ?_) rfl (by kernel_rfl) (by kernel_rfl) (by kernel_rfl) (fun _ _ _ h => h) (Or.inl ⟨by kernel_rfl, ?_⟩) (by assumption) ?_
      rotate_left
      · intro wx hSx
        obtain ⟨hS1, hS2⟩ := hSx
        go_simp
        try with_reducible rfl
      try simp only [Act.put]
      try simp only [List.setIfInBounds_toArray]
      try simp only [List.set_cons_succ]
      try simp only [List.set_cons_zero]
      refine wpAnyH_ready (rs := [12]) (by kernel_rfl) (by simp) ?_
      refine AllReadyH.cons rfl (fun K hK => ?_) AllReadyH.nil
      go_simp
      refine hK.out _ _ ⟨(World.cell?_alloc_lt _ _ _ hgl).trans hHeld.1, hHeld.2.alloc hsz _⟩ (fun hHeld => ?_)
      clear hK K
      try simp only [Act.put]
      try simp only [List.setIfInBounds_toArray]
      try simp only [List.set_cons_succ]
      try simp only [List.set_cons_zero]
      refine wpAnyH_ready (rs := [13]) (by kernel_rfl) (by simp) ?_
      refine AllReadyH.cons rfl (fun K hK => ?_) AllReadyH.nil
      go_simp
      refine hK.out _ _ hHeld (fun hHeld => ?_)
      clear hK K
      try simp only [Act.put]
      try simp only [List.setIfInBounds_toArray]
      try simp only [List.set_cons_succ]
      try simp only [List.set_cons_zero]
      refine wpAnyH_take (i := 14) (v := ?_) rfl (by kernel_rfl) (by kernel_rfl) (by kernel_rfl) (fun _ _ _ h => h) (Or.inl ⟨by kernel_rfl, ?_⟩) (by assumption) ?_
      rotate_left
      · intro wx hSx
        obtain ⟨hS1, hS2⟩ := hSx
        go_simp
        try with_reducible rfl
      try simp only [Act.put]
      try simp only [List.setIfInBounds_toArray]
      try simp only [List.set_cons_succ]
      try simp only [List.set_cons_zero]
      refine wpAnyH_take (i := 15) (v := ?_) rfl (by kernel_rfl) (by kernel_rfl) (by kernel_rfl) (fun _ _ _ h => h) (Or.inl ⟨by kernel_rfl, ?_⟩) (by assumption) ?_
      rotate_left
      · intro wx hSx
        obtain ⟨hS1, hS2⟩ := hSx
        go_simp
        try with_reducible rfl
      try simp only [Act.put]
      try simp only [List.setIfInBounds_toArray]
      try simp only [List.set_cons_succ]
      try simp only [List.set_cons_zero]
      refine wpAnyH_done (by kernel_rfl) ?_ _
      go_wp2_with fail
      refine ⟨⟨k + 1, tt ++ ⟨#[UInt8.ofNat y]⟩, by omega, by go_num, rfl, ?_, ?_, hHeld.2, ?_⟩, ?_⟩
      · rw [HT.out, ← HTL.out]; simp
      · rw [ByteArray.size_append, HTS.out]; rfl
      · exact (Below.heap_alloc wr _ g hgl).trans HBK.out
      · simp [intOf]; omega
    · obtain rfl : k = 4 := by omega
      rw [List.take_of_length_le (by rw [burstB_length]; omega)] at htl
      obtain ⟨e1, e2⟩ := burst_lists s p 4 tt hp
      have hiff := bursts true (s.data.toList.take p) (s.extract p (p + 4)).data.toList tt.data.toList (s.data.toList.drop (p + 4)) (by rw [ext_len s p 4 hp, Array.length_toList]; exact hts.symm) (ext_len s p 4 hp)
      rw [← e1, ← e2] at hiff
      have HQ := Lib.hid (show (((⟨(sumB true s.data.toList).toArray⟩ : ByteArray).toList == (⟨(sumB true (s.extract 0 p ++ tt ++ s.extract (p + 4) s.size).data.toList).toArray⟩ : ByteArray).toList) == (tt.toList == (s.extract p (p + 4)).toList)) = true by
        rw [strs_eq, decide_eq_decide.2 hiff, Lib.toList_data, Lib.toList_data, beq_iff_eq]
        by_cases hxy : (s.extract p (p + 4)).data.toList = tt.data.toList
        · rw [decide_eq_true hxy, hxy]; simp
        · rw [decide_eq_false hxy]
          exact (beq_eq_false_iff_ne.2 (fun e => hxy e.symm)).symm)
      clear e1 e2 hiff htl hbk
      have hts4 : tt.size = 4 := hts
      have HTS := Lib.hid hts
      clear hts
      have i1 : (0 : Int) ≤ (p : Int) := by omega
      have i2 : (p : Int) ≤ (s.size : Int) := by omega
      have i3 : (p : Int) + 4 ≤ (s.size : Int) := by omega
      have j1 : IntKind.i64.wrap ((p : Int) + 4) = (p : Int) + 4 := IntWalk.i64_in _ (by omega)
      have j2 : ((p : Int) + 4).toNat = p + 4 := by omega
      have k1 : (0 : Int) ≤ (p : Int) + 4 := by omega
      have k2 : (p : Int) ≤ (p : Int) + 4 := by omega
      have c1 : ¬ (9223372036854775807 < min p s.size + tt.size) := by omega
      have c2 : ¬ (9223372036854775807 < min p s.size + tt.size + (s.size - (p + 4))) := by omega
      have htt4 : tt.size ≤ 4 := by omega
      clear hts4
      go_wp2_with fail
      refine (Of_2 s _ aA aT aN aW aS (h.below hbe) hs200).mono ?_
      rintro e w5 ⟨rfl, hb5'⟩
      have hb5 := ext_trans hbe hb5'
      clear hb5'
      generalize hB1 : (⟨(sumB true s.data.toList).toArray⟩ : ByteArray) = B1 at HQ
      clear hB1
      go_wp2_with fail
      refine wp_region_held_drew (S := (fun w' => Below w.heap.size w w')) (by kernel_rfl) hb5.drew (fun hHeld => ?_)
      refine wpAnyH_take (i := 0) (v := ?_) rfl (by kernel_rfl) (by kernel_rfl) (by kernel_rfl) (fun _ _ _ h => h) (Or.inl ⟨by kernel_rfl, ?_⟩) (by assumption) ?_
      rotate_left
      · intro wx hSx
        go_simp
        try with_reducible rfl
      try simp only [Act.put]
      try simp only [List.setIfInBounds_toArray]
      try simp only [List.set_cons_succ]
      try simp only [List.set_cons_zero]
      refine wpAnyH_take (i := 1) (v := ?_) rfl (by kernel_rfl) (by kernel_rfl) (by kernel_rfl) (fun _ _ _ h => h) (Or.inl ⟨by kernel_rfl, ?_⟩) (by assumption) ?_
      rotate_left
      · intro wx hSx
        go_simp
        try with_reducible rfl
      try simp only [Act.put]
      try simp only [List.setIfInBounds_toArray]
      try simp only [List.set_cons_succ]
      try simp only [List.set_cons_zero]
      refine wpAnyH_take (i := 2) (v := ?_) rfl (by kernel_rfl) (by kernel_rfl) (by kernel_rfl) (fun _ _ _ h => h) (Or.inl ⟨by kernel_rfl, ?_⟩) (by assumption) ?_
      rotate_left
      · intro wx hSx
        go_simp
        try with_reducible rfl
      try simp only [Act.put]
      try simp only [List.setIfInBounds_toArray]
      try simp only [List.set_cons_succ]
      try simp only [List.set_cons_zero]
      refine wpAnyH_take (i := 3) (v := ?_) rfl (by kernel_rfl) (by kernel_rfl) (by kernel_rfl) (fun _ _ _ h => h) (Or.inl ⟨by kernel_rfl, ?_⟩) (by assumption) ?_
      rotate_left
      · intro wx hSx
        go_simp
        try with_reducible rfl
      try simp only [Act.put]
      try simp only [List.setIfInBounds_toArray]
      try simp only [List.set_cons_succ]
      try simp only [List.set_cons_zero]
      refine wpAnyH_take (i := 4) (v := ?_) rfl (by kernel_rfl) (by kernel_rfl) (by kernel_rfl) (fun _ _ _ h => h) (Or.inl ⟨by kernel_rfl, ?_⟩) (by assumption) ?_
      rotate_left
      · intro wx hSx
        go_simp
        try with_reducible rfl
      try simp only [Act.put]
      try simp only [List.setIfInBounds_toArray]
      try simp only [List.set_cons_succ]
      try simp only [List.set_cons_zero]
      refine wpAnyH_take (i := 5) (v := ?_) rfl (by kernel_rfl) (by kernel_rfl) (by kernel_rfl) (fun _ _ _ h => h) (Or.inl ⟨by kernel_rfl, ?_⟩) (by assumption) ?_
      rotate_left
      · intro wx hSx
        go_simp
        try with_reducible rfl
      try simp only [Act.put]
      try simp only [List.setIfInBounds_toArray]
      try simp only [List.set_cons_succ]
      try simp only [List.set_cons_zero]
      refine wpAnyH_take (i := 6) (v := ?_) rfl (by kernel_rfl) (by kernel_rfl) (by kernel_rfl) (fun _ _ _ h => h) (Or.inl ⟨by kernel_rfl, ?_⟩) (by assumption) ?_
      rotate_left
      · intro wx hSx
        go_simp
        try with_reducible rfl
      try simp only [Act.put]
      try simp only [List.setIfInBounds_toArray]
      try simp only [List.set_cons_succ]
      try simp only [List.set_cons_zero]
      refine wpAnyH_take (i := 7) (v := ?_) rfl (by kernel_rfl) (by kernel_rfl) (by kernel_rfl) (fun _ _ _ h => h) (Or.inl ⟨by kernel_rfl, ?_⟩) (by assumption) ?_
      rotate_left
      · intro wx hSx
        go_simp
        try with_reducible rfl
      try simp only [Act.put]
      try simp only [List.setIfInBounds_toArray]
      try simp only [List.set_cons_succ]
      try simp only [List.set_cons_zero]
      refine wpAnyH_take (i := 8) (v := ?_) rfl (by kernel_rfl) (by kernel_rfl) (by kernel_rfl) (fun _ _ _ h => h) (Or.inl ⟨by kernel_rfl, ?_⟩) (by assumption) ?_
      rotate_left
      · intro wx hSx
        go_simp
        try with_reducible rfl
      try simp only [Act.put]
      try simp only [List.setIfInBounds_toArray]
      try simp only [List.set_cons_succ]
      try simp only [List.set_cons_zero]
      refine wpAnyH_take (i := 9) (v := ?_) rfl (by kernel_rfl) (by kernel_rfl) (by kernel_rfl) (fun _ _ _ h => h) (Or.inl ⟨by kernel_rfl, ?_⟩) (by assumption) ?_
      rotate_left
      · intro wx hSx
        go_simp
        try with_reducible rfl
      try simp only [Act.put]
      try simp only [List.setIfInBounds_toArray]
      try simp only [List.set_cons_succ]
      try simp only [List.set_cons_zero]
      refine wpAnyH_take (i := 10) (v := ?_) rfl (by kernel_rfl) (by kernel_rfl) (by kernel_rfl) (fun _ _ _ h => h) (Or.inl ⟨by kernel_rfl, ?_⟩) (by assumption) ?_
      rotate_left
      · intro wx hSx
        go_simp
        try with_reducible rfl
      try simp only [Act.put]
      try simp only [List.setIfInBounds_toArray]
      try simp only [List.set_cons_succ]
      try simp only [List.set_cons_zero]
      refine wpAnyH_take (i := 11) (v := ?_) rfl (by kernel_rfl) (by kernel_rfl) (by kernel_rfl) (fun _ _ _ h => h) (Or.inl ⟨by kernel_rfl, ?_⟩) (by assumption) ?_
      rotate_left
      · intro wx hSx
        go_simp
        try with_reducible rfl
      try simp only [Act.put]
      try simp only [List.setIfInBounds_toArray]
      try simp only [List.set_cons_succ]
      try simp only [List.set_cons_zero]
      refine wpAnyH_ready (rs := [12]) (by kernel_rfl) (by simp) ?_
      refine AllReadyH.cons rfl (fun K hK => ?_) AllReadyH.nil
      go_simp
      refine (Of_2 _ _ aA aT aN aW aS (h.below hHeld) (by simp only [ByteArray.size_append, ByteArray.size_extract]; omega)).mono ?_
      rintro e w6 ⟨rfl, hb6'⟩
      try go_wp2_with fail
      refine hK.out _ _ (ext_trans hHeld hb6') (fun hHeld => ?_)
      clear hK K
      try simp only [Act.put]
      try simp only [List.setIfInBounds_toArray]
      try simp only [List.set_cons_succ]
      try simp only [List.set_cons_zero]
      refine wpAnyH_take (i := 13) (v := ?_) rfl (by kernel_rfl) (by kernel_rfl) (by kernel_rfl) (fun _ _ _ h => h) (Or.inl ⟨by kernel_rfl, ?_⟩) (by assumption) ?_
      rotate_left
      · intro wx hSx
        go_simp
        try with_reducible rfl
      try simp only [Act.put]
      try simp only [List.setIfInBounds_toArray]
      try simp only [List.set_cons_succ]
      try simp only [List.set_cons_zero]
      refine wpAnyH_take (i := 14) (v := ?_) rfl (by kernel_rfl) (by kernel_rfl) (by kernel_rfl) (fun _ _ _ h => h) (Or.inl ⟨by kernel_rfl, ?_⟩) (by assumption) ?_
      rotate_left
      · intro wx hSx
        go_simp
        try with_reducible rfl
      try simp only [Act.put]
      try simp only [List.setIfInBounds_toArray]
      try simp only [List.set_cons_succ]
      try simp only [List.set_cons_zero]
      refine wpAnyH_take (i := 15) (v := ?_) rfl (by kernel_rfl) (by kernel_rfl) (by kernel_rfl) (fun _ _ _ h => h) (Or.inl ⟨by kernel_rfl, ?_⟩) (by assumption) ?_
      rotate_left
      · intro wx hSx
        go_simp
        try with_reducible rfl
      try simp only [Act.put]
      try simp only [List.setIfInBounds_toArray]
      try simp only [List.set_cons_succ]
      try simp only [List.set_cons_zero]
      refine wpAnyH_take (i := 16) (v := ?_) rfl (by kernel_rfl) (by kernel_rfl) (by kernel_rfl) (fun _ _ _ h => h) (Or.inl ⟨by kernel_rfl, ?_⟩) (by assumption) ?_
      rotate_left
      · intro wx hSx
        go_simp
        try with_reducible rfl
      try simp only [Act.put]
      try simp only [List.setIfInBounds_toArray]
      try simp only [List.set_cons_succ]
      try simp only [List.set_cons_zero]
      refine wpAnyH_take (i := 17) (v := ?_) rfl (by kernel_rfl) (by kernel_rfl) (by kernel_rfl) (fun _ _ _ h => h) (Or.inl ⟨by kernel_rfl, ?_⟩) (by assumption) ?_
      rotate_left
      · intro wx hSx
        go_simp
        try with_reducible rfl
      try simp only [Act.put]
      try simp only [List.setIfInBounds_toArray]
      try simp only [List.set_cons_succ]
      try simp only [List.set_cons_zero]
      refine wpAnyH_done (by kernel_rfl) ?_ _
      go_wp2_with fail
      go_ret
      have hq := HQ.out
      exact ⟨by simp at hq ⊢; exact hq, hHeld⟩

theorem CrcBursts_law (n : Int) (s : ByteArray) (p a b c d : Int) (w : World) (aA aT aN aW aS : Addr) (h : CInv w aA aT aN aW aS) (hs : s.size ≤ 9223372036854775807) (hp1 : -9223372036854775808 ≤ p) (hp2 : p ≤ 9223372036854775807) :
    Calls Tryd.prog 5 #[.int .i64 n, .string s, .int .i64 p, .int .i64 a, .int .i64 b, .int .i64 c, .int .i64 d] w (Ret (.bool true) w) := by
  by_cases h1 : n = 1
  · subst h1
    by_cases ho : p < 0 ∨ (cut200 s).size < p + 2
    · exact CrcBursts_1out p a b c d s w aA aT aN aW aS h hs hp1 hp2 ho
    · obtain ⟨q, rfl⟩ := Int.eq_ofNat_of_zero_le (show 0 ≤ p by omega)
      exact CrcBursts_1 q a b c d s w aA aT aN aW aS h hs (by omega)
  by_cases h2 : n = 2
  · subst h2
    by_cases ho : p < 0 ∨ (cut200 s).size < p + 4
    · exact CrcBursts_2out p a b c d s w aA aT aN aW aS h hs hp1 hp2 ho
    · obtain ⟨q, rfl⟩ := Int.eq_ofNat_of_zero_le (show 0 ≤ p by omega)
      exact CrcBursts_2 q a b c d s w aA aT aN aW aS h hs (by omega)
  · exact CrcBursts_no n p a b c d s w aA aT aN aW aS h hs h1 h2

end Go.Proofs.YtdijnffefapcfaaDoor
