/-
  Package crc: a text's sum by a table (sum), and its plain lemmas. Conditions: as the theorems' own hypotheses say.
-/
import Derived.Test.YtlabmomehjfjdaaDoorCrcC
import Derived.LoopTactic
namespace Go.Proofs.YtlabmomehjfjdaaDoor
open Go.RowKit

/-- A slice of numbers that reads as a list. -/
def RdU (w : World) (A : Option Addr) (xs : List Nat) : Prop := 0 < xs.length → ∃ a, A = some a ∧ a.block < w.heap.size ∧ ∀ i (h : i < xs.length), w.cell? (a.add i) = some (.int .u32 (xs[i] : Int))
theorem RdU.below {w w' : World} {A : Option Addr} {xs : List Nat} (h : RdU w A xs) (hb : Below w.heap.size w w') : RdU w' A xs := fun hl => by
  obtain ⟨a, h1, h2, h3⟩ := h hl
  have hblk : ∀ i, (a.add i).block = a.block := fun i => by unfold Addr.add; split <;> rfl
  exact ⟨a, h1, Nat.lt_of_lt_of_le h2 hb.size, fun i hi => (hb.cell (by rw [hblk]; exact h2)).trans (h3 i hi)⟩

theorem list_take_snoc (s : ByteArray) (k : Nat) (h : k < s.size) : s.data.toList.take (k + 1) = s.data.toList.take k ++ [s[k]] := by
  rw [List.take_succ_eq_append_getElem (by simpa using h)]; rfl

theorem not16 (x : Nat) (h : x < 65536) : bits .xor .u16 IntKind.u16.max (x : Int) = ((x ^^^ 65535 : Nat) : Int) := by
  rw [Nat.xor_comm]; exact u16_xor_nat 65535 x (by omega) h
theorem not32 (x : Nat) (h : x < 4294967296) : bits .xor .u32 IntKind.u32.max (x : Int) = ((x ^^^ 4294967295 : Nat) : Int) := by
  rw [Nat.xor_comm]; exact u32_xor_nat 4294967295 x (by omega) h
theorem ret_u32 {a b : Int} (h : a = b) : Ending.returned (.int .u32 a) = .returned (.int .u32 b) := by rw [h]
theorem val_u16 {a b : Int} (h : a = b) : Value.int .u16 a = .int .u16 b := by rw [h]
theorem val_u32 {a b : Int} (h : a = b) : Value.int .u32 a = .int .u32 b := by rw [h]

set_option maxHeartbeats 1000000 in
theorem sum16_any (A : Option Addr) (c : Nat) (T : List Nat) (s : ByteArray) (w : World) (hT : T.length = 256) (hr : RdU w A T) (hv : ∀ x ∈ T, x < 4294967296) (hs : s.size ≤ 9223372036854775807) :
    Calls Tryd.prog 55 #[.slice A 256 c, .string s] w (Pure (.int .u32 ((sumT false T s.data.toList : Nat) : Int)) w) := by
  obtain ⟨a, rfl, hab, hcell⟩ := hr (by omega)
  have HC := Lib.hid hcell
  have h0 : runT false T (allN false) [] = 65535 := rfl
  have H0 := Lib.hid h0
  clear h0 hcell hr
  go_enter Tryd.func55, Tryd.ntmps55
  go_wp2
  go_loop [5, 11] (fun r i => ∃ k : Nat, k ≤ s.size ∧ i = .int .i64 k ∧ r = .int .u16 ((runT false T (allN false) (s.data.toList.take k) : Nat) : Int)) (fun _ i => s.size - (intOf i).toNat)
  case atStart => exact ⟨0, Nat.zero_le _, rfl, by rw [List.take_zero, H0.out]; rfl⟩
  case round =>
    obtain ⟨k, hk, rfl, rfl⟩ := hrel
    by_cases hlt : k < s.size
    · have hq := runT_lt false T (s.data.toList.take k) _ (allN_lt false)
      have hnext : runT false T (allN false) (s.data.toList.take (k + 1)) = stepT false T (runT false T (allN false) (s.data.toList.take k)) s[k] := by
        rw [list_take_snoc s k hlt, runT_snoc]
      have HN := Lib.hid hnext
      clear hnext
      generalize runT false T (allN false) (s.data.toList.take k) = q at hq HN
      have hq' : q < 65536 := hq
      have hx : bits .xor .u8 ((q : Int) % 256) ((s[k]).toNat : Int) = ((q % 256 ^^^ s[k].toNat : Nat) : Int) := u8_xor_nat (q % 256) s[k].toNat (by omega) s[k].toNat_lt
      have hil := idx_lt q s[k]
      have hc := HC.out (q % 256 ^^^ s[k].toNat) (by omega)
      have htv : T[q % 256 ^^^ s[k].toNat]'(by omega) < 4294967296 := hv _ (List.getElem_mem _)
      have hgd : T.getD (q % 256 ^^^ s[k].toNat) 0 = T[q % 256 ^^^ s[k].toNat]'(by omega) := by
        rw [List.getD, List.getElem?_eq_getElem (by omega)]; rfl
      have HG := Lib.hid hgd
      clear hgd
      go_wp2
      go_round
      case rel =>
        refine ⟨k + 1, by omega, by go_num, val_u16 ?_⟩
        rw [HN.out, stepT, HG.out]
        generalize T[q % 256 ^^^ s[k].toNat]'(by omega) = t at htv
        rw [IntKind.wrap_u16]
        have := u16_xor_nat (q / 256) (t % 65536) (by omega) (by omega)
        exact this
      case measure => simp [intOf]; omega
    · have hq := runT_lt false T (s.data.toList.take k) _ (allN_lt false)
      have hall : s.data.toList.take k = s.data.toList := List.take_of_length_le (by simp; omega)
      rw [hall] at hq ⊢
      have hn := not16 _ hq
      have hqv : runT false T (allN false) s.data.toList ^^^ 65535 = sumT false T s.data.toList := rfl
      have hsl : sumT false T s.data.toList < 65536 := sumT_lt false T _
      rw [hqv] at hn
      clear hqv hall
      generalize hz : sumT false T s.data.toList = z at hn hsl
      have HZ := Lib.hid hz
      clear hz
      go_wp2
      go_ret
      exact ⟨by rw [HZ.out]; rfl, rfl⟩

set_option maxHeartbeats 1000000 in
theorem sum32_any (A : Option Addr) (c : Nat) (T : List Nat) (s : ByteArray) (w : World) (hT : T.length = 256) (hr : RdU w A T) (hv : ∀ x ∈ T, x < 4294967296) (hs : s.size ≤ 9223372036854775807) :
    Calls Tryd.prog 56 #[.slice A 256 c, .string s] w (Pure (.int .u32 ((sumT true T s.data.toList : Nat) : Int)) w) := by
  obtain ⟨a, rfl, hab, hcell⟩ := hr (by omega)
  have HC := Lib.hid hcell
  have h0 : runT true T (allN true) [] = 4294967295 := rfl
  have H0 := Lib.hid h0
  clear h0 hcell hr
  go_enter Tryd.func56, Tryd.ntmps56
  go_wp2
  go_loop [5, 11] (fun r i => ∃ k : Nat, k ≤ s.size ∧ i = .int .i64 k ∧ r = .int .u32 ((runT true T (allN true) (s.data.toList.take k) : Nat) : Int)) (fun _ i => s.size - (intOf i).toNat)
  case atStart => exact ⟨0, Nat.zero_le _, rfl, by rw [List.take_zero, H0.out]; rfl⟩
  case round =>
    obtain ⟨k, hk, rfl, rfl⟩ := hrel
    by_cases hlt : k < s.size
    · have hq := runT_lt true T (s.data.toList.take k) _ (allN_lt true)
      have hnext : runT true T (allN true) (s.data.toList.take (k + 1)) = stepT true T (runT true T (allN true) (s.data.toList.take k)) s[k] := by
        rw [list_take_snoc s k hlt, runT_snoc]
      have HN := Lib.hid hnext
      clear hnext
      generalize runT true T (allN true) (s.data.toList.take k) = q at hq HN
      have hq' : q < 4294967296 := hq
      have hx : bits .xor .u8 ((q : Int) % 256) ((s[k]).toNat : Int) = ((q % 256 ^^^ s[k].toNat : Nat) : Int) := u8_xor_nat (q % 256) s[k].toNat (by omega) s[k].toNat_lt
      have hil := idx_lt q s[k]
      have hc := HC.out (q % 256 ^^^ s[k].toNat) (by omega)
      have htv : T[q % 256 ^^^ s[k].toNat]'(by omega) < 4294967296 := hv _ (List.getElem_mem _)
      have hgd : T.getD (q % 256 ^^^ s[k].toNat) 0 = T[q % 256 ^^^ s[k].toNat]'(by omega) := by
        rw [List.getD, List.getElem?_eq_getElem (by omega)]; rfl
      have HG := Lib.hid hgd
      clear hgd
      go_wp2
      go_round
      case rel =>
        refine ⟨k + 1, by omega, by go_num, val_u32 ?_⟩
        rw [HN.out, stepT, HG.out]
        generalize T[q % 256 ^^^ s[k].toNat]'(by omega) = t at htv
        skip
        have := u32_xor_nat (q / 256) (t % 4294967296) (by omega) (by omega)
        rw [Nat.mod_eq_of_lt htv] at this; rw [show bitsN true = 32 from rfl, Nat.mod_eq_of_lt (show t < 2 ^ 32 from htv)]; exact this
      case measure => simp [intOf]; omega
    · have hq := runT_lt true T (s.data.toList.take k) _ (allN_lt true)
      have hall : s.data.toList.take k = s.data.toList := List.take_of_length_le (by simp; omega)
      rw [hall] at hq ⊢
      have hn := not32 _ hq
      have hqv : runT true T (allN true) s.data.toList ^^^ 4294967295 = sumT true T s.data.toList := rfl
      have hsl : sumT true T s.data.toList < 4294967296 := sumT_lt true T _
      rw [hqv] at hn
      clear hqv hall
      generalize hz : sumT true T s.data.toList = z at hn hsl
      have HZ := Lib.hid hz
      clear hz
      go_wp2
      go_ret
      exact ⟨by rw [HZ.out]; rfl, rfl⟩

end Go.Proofs.YtlabmomehjfjdaaDoor
