/-
  Package postriderref02 (the document's answer for groups): the walks of Encode, Size, List and Ints. No condition.
-/
import Derived.Test.YtcahfdhfdigjaaaDoorSdF
namespace Go.Proofs.YtcahfdhfdigjaaaDoor
open Go.RowKit

theorem addr_add (g j : Nat) : (⟨g, 0, none⟩ : Addr).add j = ⟨g, j, none⟩ := by
  unfold Addr.add
  split <;> simp_all
/-- The text of one byte. -/
theorem convB (W : World) (g y : Nat) (hy : y < 256) (h : Blk W g 5 #[.int .u8 (y : Int)]) : (convert 58 9 (.slice (some ⟨g, 0, none⟩) 1 1)).run Tryd.prog W = .ok (.string ⟨#[UInt8.ofNat y]⟩) W := by
  refine run_convert_bytes_back (P := Tryd.prog) _ 58 9 5 ⟨g, 0, none⟩ 1 [UInt8.ofNat y] Tryd.underlying58 Tryd.underlying5 Tryd.underlying9 (fun j hj => ?_)
  simp at hj
  subst hj
  rw [addr_add]
  have : (UInt8.ofNat y).toNat = y := UInt8.toNat_ofNat_of_lt' (by show _ < 256; omega)
  simp [this, h.cell 0]

theorem upL_len (k n : Nat) : (upL k n).length ≤ k := by
  induction k generalizing n with
  | zero => simp [upL]
  | succ k ih =>
    rw [upL]
    split
    · simp
    · have := ih (n / 128); simp; omega

set_option maxRecDepth 100000 in
set_option maxHeartbeats 1000000 in
theorem rEncode_any (n : Int) (w : World) : Calls Tryd.prog 21 #[.int .i64 n] w (Ret (.tuple #[.string (encV n).1, .int .i64 (encV n).2]) w) := by
  rcases bool_cases (okNum n) with hk | hk
  · rw [encV, if_neg (by rw [hk]; decide)]
    have HK := Lib.hid hk
    clear hk
    go_enter Tryd.func21, Tryd.ntmps21
    go_wp2_with fail
    refine (rRight_any n _).mono ?_
    rintro e w1 ⟨rfl, rfl⟩
    rw [HK.out]
    go_wp2_with fail
    go_ret2
    exact ⟨rfl, ext_refl _⟩
  · rw [encV, if_pos hk]
    obtain ⟨k0, k1⟩ := okNum_iff.1 hk
    obtain ⟨nv, rfl⟩ := Int.eq_ofNat_of_zero_le k0
    rw [Int.toNat_natCast]
    have HK := Lib.hid hk
    clear hk
    have hy : nv % 128 < 256 := by omega
    have hc := convB (w.alloc (.cells #[.int .u8 ((nv % 128 : Nat) : Int)] 5)) w.heap.size (nv % 128) hy (Blk.new_ _ _ _)
    rw [show ((nv % 128 : Nat) : Int) = (nv : Int) % 128 by omega] at hc
    have hw := ext_new w (.cells #[.int .u8 ((nv : Int) % 128)] 5)
    go_enter Tryd.func21, Tryd.ntmps21
    go_wp2_with fail
    refine (rRight_any (nv : Int) _).mono ?_
    rintro e w1 ⟨rfl, rfl⟩
    rw [HK.out]
    go_wp2_with fail
    clear hc
    go_loopw [0, 4] (fun u s wr => ∃ (q f : Nat) (pre : List UInt8), u = .int .i64 (q : Int) ∧ s = .string ⟨pre.reverse.toArray⟩ ∧ q ≤ 281474976710655 ∧ q / 128 < 128 ^ f ∧ pre.length + f ≤ 10 ∧ grL nv = pre ++ upL f (q / 128) ∧ Below w.heap.size w wr) (fun u _ _ => (intOf u).toNat)
    case atStart => exact ⟨nv, 9, [UInt8.ofNat (nv % 128)], rfl, rfl, by omega, by omega, by simp, by simp [grL], hw⟩
    case round =>
      obtain ⟨q, f, pre, rfl, rfl, hq, hf, hpf, hL, hbe⟩ := hrel
      by_cases hlt : 128 ≤ q
      · have hq1 : (128 : Int) ≤ (q : Int) := by omega
        obtain ⟨f', rfl⟩ : ∃ f', f = f' + 1 := ⟨f - 1, by
          cases f with
          | zero => simp at hf; omega
          | succ f => rfl⟩
        obtain ⟨q', hq'⟩ : ∃ q', q / 128 = q' := ⟨_, rfl⟩
        have hqi : (q : Int) / 128 = (q' : Int) := by omega
        rw [hq'] at hf hL
        rw [upL, if_neg (by omega)] at hL
        have hc := convB (wr.alloc (.cells #[.int .u8 ((128 + q' % 128 : Nat) : Int)] 5)) wr.heap.size (128 + q' % 128) (by omega) (Blk.new_ _ _ _)
        rw [show ((128 + q' % 128 : Nat) : Int) = 128 + (q' : Int) % 128 by omega] at hc
        have hrel' : ∃ (q2 f : Nat) (pre2 : List UInt8), (Value.int .i64 (q' : Int)) = .int .i64 (q2 : Int) ∧ (Value.string (⟨#[UInt8.ofNat (128 + q' % 128)]⟩ ++ ⟨pre.reverse.toArray⟩)) = .string ⟨pre2.reverse.toArray⟩ ∧ q2 ≤ 281474976710655 ∧ q2 / 128 < 128 ^ f ∧ pre2.length + f ≤ 10 ∧ grL nv = pre2 ++ upL f (q2 / 128) ∧ Below w.heap.size w (wr.alloc (.cells #[.int .u8 (128 + (q' : Int) % 128)] 5)) :=
          ⟨q', f', pre ++ [UInt8.ofNat (128 + q' % 128)], rfl, by
            congr 1
            apply ByteArray.ext
            rw [ByteArray.data_append]
            simp, by omega, by rw [Nat.pow_succ] at hf; omega, by simp; omega, by rw [hL]; simp, hbe.alloc (hbe.size) _⟩
        have hsz : (⟨pre.reverse.toArray⟩ : ByteArray).size ≤ 10 := by show pre.reverse.toArray.size ≤ 10; simp; omega
        generalize UInt8.ofNat (128 + q' % 128) = b at hc hrel'
        have HL := Lib.hid hrel'
        clear hrel' hL hf
        generalize (⟨pre.reverse.toArray⟩ : ByteArray) = ps at *
        have hcat : ¬ (9223372036854775807 < 1 + ps.size) := by omega
        go_wp2_with fail
        exact ⟨HL.out, by simp [intOf]; omega⟩
      · have hq1 : ¬ (128 : Int) ≤ (q : Int) := by omega
        have hL2 : grL nv = pre := by
          rw [hL, show q / 128 = 0 by omega]
          cases f <;> simp [upL]
        have hs2 : sdL nv = pre.reverse := by rw [← grL_sdL, hL2]
        have HS := Lib.hid hs2
        clear hs2 hL2 hL
        generalize pre.reverse = l at *
        go_wp2_with fail
        go_ret2
        exact ⟨by rw [HS.out]; rfl, hbe⟩

theorem rSize_any (n : Int) (w : World) : Calls Tryd.prog 23 #[.int .i64 n] w (Ret (.tuple #[.int .i64 (sizeV n).1, .int .i64 (sizeV n).2]) w) := by
  unfold sizeV
  have HE := rEncode_any n w
  generalize encV n = x at *
  obtain ⟨t, e⟩ := x
  dsimp only at HE ⊢
  go_enter Tryd.func23, Tryd.ntmps23
  go_wp2_with fail
  refine HE.mono ?_
  rintro e0 w1 ⟨rfl, hb1⟩
  go_wp2_with fail
  go_ret2
  exact ⟨rfl, hb1⟩

theorem listL_snoc (l : List Nat) (n : Nat) : listL (l ++ [n]) = listL l ++ sdL n := by simp [listL]
theorem encV_len (n : Int) : (encV n).1.size ≤ 7 := by
  unfold encV
  rcases bool_cases (okNum n) with h | h
  · rw [if_neg (by rw [h]; decide)]; decide
  · rw [if_pos h]
    have := okNum_iff.1 h
    show (sdL n.toNat).toArray.size ≤ 7
    rw [List.size_toArray]
    exact sdL_le7 (by omega)
theorem encV_ok {n : Int} (h : okNum n = true) : encV n = (⟨(sdL n.toNat).toArray⟩, 0) := by rw [encV, if_pos h]
theorem encV_bad {n : Int} (h : okNum n = false) : encV n = (ByteArray.empty, 10) := by rw [encV, if_neg (by rw [h]; decide)]
theorem listV_ok {xs : List Int} (h : ∀ x ∈ xs, okNum x = true) : listV xs = (⟨(listL (xs.map Int.toNat)).toArray⟩, 0) := by rw [listV, if_pos (List.all_eq_true.2 h)]
theorem listV_bad {xs : List Int} {x : Int} (h : x ∈ xs) (hx : okNum x = false) : listV xs = (ByteArray.empty, 10) := by
  rw [listV, if_neg (fun e => by rw [List.all_eq_true.1 e x h] at hx; cases hx)]

set_option maxRecDepth 100000 in
set_option maxHeartbeats 1000000 in
theorem rList_any (A : Option Addr) (c n : Nat) (xs : List Int) (w : World) (hn : xs.length = n) (ha : RdI w A xs) (hl : n ≤ 10000) :
    Calls Tryd.prog 19 #[.slice A n c] w (Ret (.tuple #[.string (listV xs).1, .int .i64 (listV xs).2]) w) := by
  subst hn
  go_enter Tryd.func19, Tryd.ntmps19
  go_wp2_with fail
  go_loopw [4, 5] (fun s u wr => ∃ k : Nat, u = .int .i64 (k : Int) ∧ k ≤ xs.length ∧ s = .string ⟨(listL ((xs.take k).map Int.toNat)).toArray⟩ ∧ (∀ x ∈ xs.take k, okNum x = true) ∧ Below w.heap.size w wr) (fun _ u _ => xs.length - (intOf u).toNat)
  case atStart => exact ⟨0, rfl, Nat.zero_le _, rfl, by simp, ext_refl _⟩
  case round =>
    obtain ⟨k, rfl, hk, rfl, hok, hbe⟩ := hrel
    have hXl : (⟨(listL ((xs.take k).map Int.toNat)).toArray⟩ : ByteArray).size ≤ 7 * xs.length := by
      have h1 := listL_len ((xs.take k).map Int.toNat) (fun m hm => by
        obtain ⟨y, hy, rfl⟩ := List.mem_map.1 hm
        have := okNum_iff.1 (hok y hy)
        omega)
      rw [List.length_map, List.length_take] at h1
      show (listL ((xs.take k).map Int.toNat)).toArray.size ≤ _
      rw [List.size_toArray]
      omega
    by_cases hlt : k < xs.length
    · obtain ⟨a, rfl, hab, hca⟩ := ha (by omega)
      have hx := (hbe.cell (by rw [show (a.add k).block = a.block by unfold Addr.add; split <;> rfl]; exact hab)).trans (hca k hlt)
      have hq0 : (0 : Int) ≤ (k : Int) := by omega
      have hq1 : (k : Int) < (xs.length : Int) := by omega
      have HE := rEncode_any xs[k] wr
      have hel := encV_len xs[k]
      rcases bool_cases (okNum xs[k]) with ho | ho
      · have hB := listV_bad (List.getElem_mem hlt) ho
        rw [encV_bad ho] at HE
        have HB := Lib.hid hB
        clear hB ho hel hok
        generalize xs[k] = xv at *
        generalize (⟨(listL ((xs.take k).map Int.toNat)).toArray⟩ : ByteArray) = sx at *
        go_wp2_with fail
        refine HE.mono ?_
        rintro e w1 ⟨rfl, hb1⟩
        go_wp2_with fail
        go_ret2
        exact ⟨by rw [HB.out]; rfl, hbe.trans (hb1.mono hbe.size)⟩
      · have hok1 : ∀ x ∈ xs.take (k + 1), okNum x = true := by
          intro x hx
          rw [List.take_succ_eq_append_getElem hlt, List.mem_append, List.mem_singleton] at hx
          rcases hx with hx | rfl
          · exact hok x hx
          · exact ho
        have hcat : (⟨(listL ((xs.take k).map Int.toNat)).toArray⟩ : ByteArray) ++ (encV xs[k]).1 = ⟨(listL ((xs.take (k + 1)).map Int.toNat)).toArray⟩ := by
          rw [encV_ok ho]
          apply ByteArray.ext
          rw [ByteArray.data_append, List.take_succ_eq_append_getElem hlt, List.map_append, List.map_singleton, listL_snoc, ← List.append_toArray]
        have he : (encV xs[k]).2 = 0 := by rw [encV_ok ho]
        rw [he] at HE
        have HC := Lib.hid hcat
        have HO := Lib.hid hok1
        clear hcat hok1 ho hok he
        generalize (encV xs[k]).1 = sy at *
        generalize xs[k] = xv at *
        generalize (⟨(listL ((xs.take k).map Int.toNat)).toArray⟩ : ByteArray) = sx at *
        have hz : ¬ (9223372036854775807 < sx.size + sy.size) := by omega
        go_wp2_with fail
        refine HE.mono ?_
        rintro e w1 ⟨rfl, hb1⟩
        go_wp2_with fail
        go_roundw
        case rel => exact ⟨k + 1, by go_num, by omega, by rw [HC.out], HO.out, hbe.trans (hb1.mono hbe.size)⟩
        case measure => simp [intOf]; omega
    · obtain rfl : k = xs.length := by omega
      rw [List.take_length] at hok
      have HR := Lib.hid (listV_ok hok)
      clear hok
      rw [List.take_length] at hXl ⊢
      generalize (⟨(listL (xs.map Int.toNat)).toArray⟩ : ByteArray) = sx at *
      have hq1 : ¬ ((xs.length : Int) < (xs.length : Int)) := by omega
      go_wp2_with fail
      go_ret2
      exact ⟨by rw [HR.out]; rfl, hbe⟩

/-- Two slices that read as one list are the same. -/
theorem Ints_true (A B : Option Addr) (c d n : Nat) (xs : List Int) (w : World) (hn : xs.length = n) (ha : RdI w A xs) (hb : RdI w B xs) (hl : n ≤ 100000) : Calls Tryd.prog 16 #[.slice A n c, .slice B n d] w (Ret (.bool true) w) := by
  subst hn
  rcases Nat.eq_zero_or_pos xs.length with h0 | hpos
  · have hx : xs = [] := List.eq_nil_of_length_eq_zero h0
    subst hx
    go_enter Tryd.func16, Tryd.ntmps16
    go_wp2
    refine wp_loop_rounds 1 ?_
    rw [rounds_succ]
    go_wp2
    go_ret
    exact ⟨rfl, Below.refl _ _⟩
  · obtain ⟨a, rfl, hab, hca⟩ := ha hpos
    obtain ⟨b, rfl, hbb, hcb⟩ := hb hpos
    have HA := Lib.hid hca
    have HB := Lib.hid hcb
    clear hca hcb ha hb
    go_enter Tryd.func16, Tryd.ntmps16
    go_wp2
    go_loopw [5] (fun i wr => ∃ k : Nat, k ≤ xs.length ∧ i = .int .i64 k ∧ Below w.heap.size w wr) (fun i _ => xs.length - (intOf i).toNat)
    case atStart => exact ⟨0, Nat.zero_le _, rfl, Below.refl _ _⟩
    case round =>
      obtain ⟨k, hk, rfl, hbe⟩ := hrel
      by_cases hlt : k < xs.length
      · have hblk : ∀ (p : Addr) (i : Nat), (p.add i).block = p.block := fun p i => by unfold Addr.add; split <;> rfl
        have h1 := (hbe.cell (by rw [hblk]; exact hab)).trans (HA.out k hlt)
        have h2 := (hbe.cell (by rw [hblk]; exact hbb)).trans (HB.out k hlt)
        clear hblk
        generalize xs[k] = x at h1 h2
        have hi1 : (0 : Int) ≤ (k : Int) := by omega
        have hi2 : (k : Int) < (xs.length : Int) := by omega
        go_wp2
        go_quiet (fail)
        go_wp2
        go_roundw
        case rel => exact ⟨k + 1, by omega, by go_num, below_drewN' hbe _⟩
        case measure => simp [intOf]; omega
      · go_wp2
        go_ret
        exact ⟨rfl, hbe⟩

end Go.Proofs.YtcahfdhfdigjaaaDoor
