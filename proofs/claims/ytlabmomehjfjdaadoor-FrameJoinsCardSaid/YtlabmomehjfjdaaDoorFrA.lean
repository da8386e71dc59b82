/-
  Package frame: what an answer tells (told), which records are right (Right), a number that stands in a text (take), pieces one behind the other (joined). Conditions: the listed variables hold what 'CInv' says.
-/
import Derived.Test.YtlabmomehjfjdaaDoorNumsS
import Derived.Test.YtlabmomehjfjdaaDoorCrcG
import Derived.Test.YtlabmomehjfjdaaDoorFrameM
import Derived.Test.YtlabmomehjfjdaaDoorBs
namespace Go.Proofs.YtlabmomehjfjdaaDoor
open Go.RowKit

/-- A record as a value. -/
def recV (op id : Int) (d : ByteArray) : Value := .agg #[.int .i64 op, .int .i64 id, .string d]

/-- Which records are right. -/
def rightV (op id : Int) (d : ByteArray) : Bool := decide (1 ≤ op) && decide (op ≤ 9) && okNum id && decide (d.size ≤ 2000)
theorem rightV_iff {op id : Int} {d : ByteArray} : rightV op id d = true ↔ 1 ≤ op ∧ op ≤ 9 ∧ okNum id = true ∧ d.size ≤ 2000 := by simp [rightV, and_assoc]

theorem told_no (op id nx : Int) (d : ByteArray) (w : World) :
    Calls Tryd.prog 29 #[.agg #[.int .i64 op, .int .i64 id, .string d, .int .i64 nx, .bool false]] w (Ret (.tuple #[recV 0 0 ByteArray.empty, .int .i64 0, .bool false]) w) := by
  unfold recV
  go_enter Tryd.func29, Tryd.ntmps29
  go_wp2_with fail
  exact bodyPost_ret (v := .tuple #[.agg #[.int .i64 0, .int .i64 0, .string ByteArray.empty], .int .i64 0, .bool false]) (by simp [results, Tryd.results29, go_sem]; rfl) rfl ⟨rfl, ext_alloc (ext_alloc (ext_new w _) _) _⟩
theorem told_ok (op id nx : Int) (d : ByteArray) (w : World) :
    Calls Tryd.prog 29 #[.agg #[.int .i64 op, .int .i64 id, .string d, .int .i64 nx, .bool true]] w (Ret (.tuple #[recV op id d, .int .i64 nx, .bool true]) w) := by
  unfold recV
  go_enter Tryd.func29, Tryd.ntmps29
  go_wp2_with fail
  go_region
  go_wp2_with fail
  exact bodyPost_ret (v := .tuple #[.agg #[.int .i64 op, .int .i64 id, .string d], .int .i64 nx, .bool true]) (by simp [results, Tryd.results29, go_sem]) rfl ⟨rfl, (ext_alloc (ext_alloc (ext_new w _) _) _).drew⟩

theorem FRight_any (op id : Int) (d : ByteArray) (w : World) :
    Calls Tryd.prog 17 #[recV op id d] w (Ret (.bool (rightV op id d)) w) := by
  have hR := fun w' => Right_any id w'
  unfold recV rightV
  generalize okNum id = b at *
  by_cases h1 : 1 ≤ op
  · by_cases h2 : op ≤ 9
    · cases b
      · go_enter Tryd.func17, Tryd.ntmps17
        go_wp2_with (refine (hR _).mono ?_; rintro e w1 ⟨rfl, rfl⟩)
        go_ret
        exact ⟨by first | (simp [h1]; done) | (simp; omega), ext_new w _⟩
      · by_cases h3 : d.size ≤ 2000
        all_goals
          go_enter Tryd.func17, Tryd.ntmps17
          go_wp2_with (refine (hR _).mono ?_; rintro e w1 ⟨rfl, rfl⟩)
          go_ret
          exact ⟨by first | (simp [h1, h2]; done) | (simp [h1, h2]; omega), ext_new w _⟩
    · go_enter Tryd.func17, Tryd.ntmps17
      go_wp2_with fail
      go_ret
      exact ⟨by first | (simp [h1]; done) | (simp; omega), ext_new w _⟩
  · go_enter Tryd.func17, Tryd.ntmps17
    go_wp2_with fail
    go_ret
    exact ⟨by first | (simp [h1]; done) | (simp; omega), ext_new w _⟩

theorem take_any (s : ByteArray) (a n : Int) (w : World) (aN aW aS : Addr) (hI : NInv w aN aW aS) (hs : s.size ≤ 9223372036854775807) (hn1 : -9223372036854775808 ≤ n) (hn2 : n ≤ 9223372036854775807) :
    Calls Tryd.prog 48 #[.agg #[.string s], .int .i64 a, .int .i64 n] w (Ret (.agg #[.int .i64 (takeV s a n).1, .int .i64 (wrap64 (a + n)), .bool ((takeV s a n).2 == 0)]) w) := by
  have hT := fun w' h' => Take_any s a n w' aN aW aS h' hs hn1 hn2
  generalize takeV s a n = x at *
  obtain ⟨v, e⟩ := x
  go_enter Tryd.func48, Tryd.ntmps48
  go_wp2_with fail
  refine (hT _ (hI.below (ext_alloc (ext_new w _) _))).mono ?_
  rintro e0 w1 ⟨rfl, hb1⟩
  have hB : Blk w1 (w.heap.size + 1) 86 #[.int .i64 0, .int .i64 0, .bool false] := (Blk.at_ (by simp)).below hb1
  have c0 := hB.cell 0
  have c1 := hB.cell 1
  have c2 := hB.cell 2
  have f0 := hB.frozen 0
  have f1 := hB.frozen 1
  have f2 := hB.frozen 2
  simp only [List.getElem?_toArray, List.getElem?_cons_zero, List.getElem?_cons_succ] at c0 c1 c2
  have hb2 := ext_trans (ext_alloc (ext_new w (.cells #[.string s] 50)) (.cells #[.int .i64 0, .int .i64 0, .bool false] 86)) hb1
  go_wp2_with fail
  exact bodyPost_ret (v := .agg #[.int .i64 v, .int .i64 (wrap64 (a + n)), .bool (e == 0)]) (by simp [results, Tryd.results48, go_sem, c0, c1, c2]) rfl ⟨rfl, ((hb2.setCell (by simp) _).setCell (by simp) _).setCell (by simp) _⟩

set_option maxRecDepth 100000 in
theorem joined_any (A : Option Addr) (n c : Nat) (ss : List ByteArray) (w : World) (hn : ss.length = n) (hA : RdS w A ss) (hl : (catL ss).length ≤ 1000000) (hn2 : n ≤ 1000000) :
    Calls Tryd.prog 25 #[.slice A n c] w (Ret (.string ⟨(catL ss).toArray⟩) w) := by
  subst hn
  go_enter Tryd.func25, Tryd.ntmps25
  go_wp2_with fail
  go_loopw [3, 8] (fun out i wr => ∃ (k : Nat) (A' : Option Addr) (m c' : Nat), k ≤ ss.length ∧ i = .int .i64 (k : Int) ∧ out = .slice A' m c' ∧ Bs wr w.heap.size A' m c' (catL (ss.take k)) ∧ Below w.heap.size w wr) (fun _ i _ => ss.length - (intOf i).toNat)
  case atStart => exact ⟨0, none, 0, 0, Nat.zero_le _, rfl, rfl, Bs.none_ _ _, Below.refl _ _⟩
  case round =>
    obtain ⟨k, A', m, c', hk, rfl, rfl, hB, hbe⟩ := hrel
    by_cases hlt : k < ss.length
    · have hq : (k : Int) < (ss.length : Int) := by omega
      obtain ⟨a, rfl, hab, hca⟩ := hA (by omega)
      have hx := (hbe.cell (by rw [show (a.add k).block = a.block by unfold Addr.add; split <;> rfl]; exact hab)).trans (hca k hlt)
      have hsn : catL (ss.take (k + 1)) = catL (ss.take k) ++ ss[k].data.toList := by rw [List.take_succ_eq_append_getElem hlt, catL_snoc]
      have hle := catL_take_le ss (k + 1)
      have HS := Lib.hid hsn
      have hlm := hB.1
      rw [hsn, List.length_append, Array.length_toList] at hle
      have hle : (catL (ss.take k)).length + ss[k].size ≤ (catL ss).length := hle
      rw [hlm] at hle
      clear hsn
      generalize ss[k] = s at *
      generalize catL (ss.take k) = l at *
      have hc := hB.2.1
      have hB := hB.narrow
      have HLM := Lib.hid hlm
      clear hlm
      go_wp2_with (at_builtin; refine wpList_append_full rfl _ _ rfl w.heap.size A' m l s rfl rfl hB (by omega) hbe.size ?_; intro A2 c2 w2 hB2 hb2)
      go_roundw
      case rel => exact ⟨k + 1, A2, m + s.size, c2, by omega, by go_num, rfl, by rw [HS.out]; exact hB2, hbe.trans (hb2.mono hbe.size)⟩
      case measure => simp [intOf]; omega
    · have hq : ¬ (k : Int) < (ss.length : Int) := by omega
      rw [List.take_of_length_le (by omega)] at hB
      have hcv := conv_bs hB
      generalize catL ss = l at *
      go_wp2_with fail
      go_ret
      exact ⟨rfl, hbe⟩

end Go.Proofs.YtlabmomehjfjdaaDoor
