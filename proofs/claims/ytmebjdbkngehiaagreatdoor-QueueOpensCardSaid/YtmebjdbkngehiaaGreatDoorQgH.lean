/-
  Package frame: what an answer tells (told), which records are right (Right), a number that stands in a text (take), pieces one behind the other (joined), and more of the kind. Conditions: as the theorems' own hypotheses say.
-/
import Derived.Test.YtmebjdbkngehiaaGreatDoorQgE
import Derived.Test.YtmebjdbkngehiaaGreatDoorQgG
import Derived.Test.YtmebjdbkngehiaaGreatDoorQgC
import Derived.Test.YtmebjdbkngehiaaGreatDoorQgA
namespace Go.Proofs.YtmebjdbkngehiaaGreatDoor
open Go.RowKit
variable {id : Int}
def recV (op id : Int) (d : ByteArray) : Value := .agg #[.int .i64 op, .int .i64 id, .string d]
def rightV (op id : Int) (d : ByteArray) : Bool := decide (1 ≤ op) && decide (op ≤ 9) && okNum id && decide (d.size ≤ 2000)
theorem rightV_iff {op : Int} {d : ByteArray} : rightV op id d = true ↔ 1 ≤ op ∧ op ≤ 9 ∧ okNum id = true ∧ d.size ≤ 2000 := by simp [rightV, and_assoc]
theorem FRight_any (op id : Int) (d : ByteArray) (w : World) :
  Calls Tryz.prog 131 #[recV op id d] w (Ret (.bool (rightV op id d)) w) := by
 have hR := fun w' => Right_any id w'
 unfold recV rightV
 generalize okNum id = b at *
 by_cases h1 : 1 ≤ op
 ·by_cases h2 : op ≤ 9
  ·cases b
   ·go_enter Tryz.func131, Tryz.ntmps131
    go_wp2_with (refine (hR _).mono ?_; rintro e w1 ⟨rfl, rfl⟩)
    go_ret
    exact ⟨by first | (simp [h1]; done) | (simp; omega), ext_new w _⟩
   ·by_cases h3 : d.size ≤ 2000
    all_goals
     go_enter Tryz.func131, Tryz.ntmps131
     go_wp2_with (refine (hR _).mono ?_; rintro e w1 ⟨rfl, rfl⟩)
     go_ret
     exact ⟨by first | (simp [h1, h2]; done) | (simp [h1, h2]; omega), ext_new w _⟩
  ·go_enter Tryz.func131, Tryz.ntmps131
   go_wp2_with fail
   go_ret
   exact ⟨by first | (simp []; done) | (simp; omega), ext_new w _⟩
 ·go_enter Tryz.func131, Tryz.ntmps131
  go_wp2_with fail
  go_ret
  exact ⟨by first | (simp []; done) | (simp; omega), ext_new w _⟩
theorem take_any (s : ByteArray) (a n : Int) (w : World) (aN aW aS : Addr) (hI : NInv w aN aW aS) (hs : s.size ≤ 9223372036854775807) (hn1 : -9223372036854775808 ≤ n) (hn2 : n ≤ 9223372036854775807) :
  Calls Tryz.prog 172 #[.agg #[.string s], .int .i64 a, .int .i64 n] w (Ret (.agg #[.int .i64 (takeV s a n).1, .int .i64 (wrap64 (a + n)), .bool ((takeV s a n).2 == 0)]) w) := by
 have hT := fun w' h' => Take_any s a n w' aN aW aS h' hs hn1 hn2
 generalize takeV s a n = x at *
 obtain ⟨v, e⟩ := x
 go_enter Tryz.func172, Tryz.ntmps172
 go_wp2_with fail
 refine (hT _ (hI.below (ext_alloc (ext_new w _) _))).mono ?_
 rintro e0 w1 ⟨rfl, hb1⟩
 have hB : Blk w1 (w.heap.size + 1) 267 #[.int .i64 0, .int .i64 0, .bool false] := (Blk.at_ (by simp)).below hb1
 have c0 := hB.cell 0
 have c1 := hB.cell 1
 have c2 := hB.cell 2
 have f0 := hB.frozen 0
 have f1 := hB.frozen 1
 have f2 := hB.frozen 2
 simp only [List.getElem?_toArray, List.getElem?_cons_zero, List.getElem?_cons_succ] at c0 c1 c2
 have hb2 := ext_trans (ext_alloc (ext_new w (.cells #[.string s] 198)) (.cells #[.int .i64 0, .int .i64 0, .bool false] 267)) hb1
 go_wp2_with fail
 exact bodyPost_ret (v := .agg #[.int .i64 v, .int .i64 (wrap64 (a + n)), .bool (e == 0)]) (by simp [results, Tryz.results172, go_sem, c0, c1, c2]) rfl ⟨rfl, ((hb2.setCell (by simp) _).setCell (by simp) _).setCell (by simp) _⟩
set_option maxRecDepth 100000 in
theorem joined_any (A : Option Addr) (n c : Nat) (ss : List ByteArray) (w : World) (hn : ss.length = n) (hA : RdS w A ss) (hl : (catL ss).length ≤ 1000000) (hn2 : n ≤ 1000000) :
  Calls Tryz.prog 133 #[.slice A n c] w (Ret (.string ⟨(catL ss).toArray⟩) w) := by
 subst hn
 go_enter Tryz.func133, Tryz.ntmps133
 go_wp2_with fail
 go_loopw [3, 8] (fun out i wr => ∃ (k : Nat) (A' : Option Addr) (m c' : Nat), k ≤ ss.length ∧ i = .int .i64 (k : Int) ∧ out = .slice A' m c' ∧ Bs wr w.heap.size A' m c' (catL (ss.take k)) ∧ Below w.heap.size w wr) (fun _ i _ => ss.length - (intOf i).toNat)
 case atStart => exact ⟨0, none, 0, 0, Nat.zero_le _, rfl, rfl, Bs.none_ _ _, Below.refl _ _⟩
 case round =>
  obtain ⟨k, A', m, c', hk, rfl, rfl, hB, hbe⟩ := hrel
  by_cases hlt : k < ss.length
  ·have hq : (k : Int) < (ss.length : Int) := by omega
   obtain ⟨a, rfl, hab, hca⟩ := hA (by omega)
   have hx := (hbe.cell (by rw [show (a.add k).block = a.block by unfold Addr.add; split <;> rfl]; exact hab)).trans (hca k hlt)
   have hsn : catL (ss.take (k + 1)) = catL (ss.take k) ++ ss[k].data.toList := by rw [List.take_succ_eq_append_getElem hlt, catL_snoc]
   have hle := catL_take_le ss (k + 1)
   have HS := Lib.hid hsn
   have hlm := hB.1
   rw [hsn, List.length_append, Array.length_toList] at hle
   have hle : (catL (ss.take k)).length + ss[k].size ≤ (catL ss).length := hle
   rw [hlm] at hle
   clear hsn
   generalize ss[k] = s at *
   generalize catL (ss.take k) = l at *
   have hc := hB.2.1
   have hB := hB.narrow
   have HLM := Lib.hid hlm
   clear hlm
   go_wp2_with (at_builtin; refine wpList_append_full rfl _ _ rfl w.heap.size A' m l s rfl rfl hB (by omega) hbe.size ?_; intro A2 c2 w2 hB2 hb2)
   go_roundw
   case rel => exact ⟨k + 1, A2, m + s.size, c2, by omega, by go_num, rfl, by rw [HS.out]; exact hB2, hbe.trans (hb2.mono hbe.size)⟩
   case measure => simp [intOf]; omega
  ·have hq : ¬ (k : Int) < (ss.length : Int) := by omega
   rw [List.take_of_length_le (by omega)] at hB
   have hcv := conv_bs hB
   generalize catL ss = l at *
   go_wp2_with fail
   go_ret
   exact ⟨rfl, hbe⟩
def encV (op id : Int) (d : ByteArray) : ByteArray × Int := if rightV op id d then (⟨(frameL ⟨op.toNat, id.toNat, d.data.toList⟩).toArray⟩, 0) else (ByteArray.empty, 170)
theorem bytes6 (h : okNum id = true) : bytesV id 6 = (⟨(digits 6 id.toNat).toArray⟩, 0) := by
 obtain ⟨h1, h2⟩ := okNum_iff.1 h
 have hf : fits id 6 = true := by
  simp only [fits, h, Bool.true_and, decide_eq_true_eq]
  show id.toNat < 256 ^ 6
  omega
 exact bytesV_ok (by decide) hf
theorem bytes2 (n : Nat) (h : n ≤ 2000) : bytesV (n : Int) 2 = (⟨(digits 2 n).toArray⟩, 0) := by
 have hn : okNum (n : Int) = true := okNum_iff.2 (by omega)
 have hf : fits (n : Int) 2 = true := by
  simp only [fits, hn, Bool.true_and, decide_eq_true_eq]
  show n < 256 ^ 2
  omega
 exact bytesV_ok (by decide) hf
theorem conv_b (W : World) (g y : Nat) (hy : y < 256) (h : Blk W g 5 #[.int .u8 (y : Int)]) : (convert 36 9 (.slice (some ⟨g, 0, none⟩) 1 1)).run Tryz.prog W = .ok (.string ⟨#[UInt8.ofNat y]⟩) W := by
 refine run_convert_bytes_back (P := Tryz.prog) _ 36 9 5 ⟨g, 0, none⟩ 1 [UInt8.ofNat y] Tryz.underlying36 Tryz.underlying5 Tryz.underlying9 (fun j hj => ?_)
 obtain rfl : j = 0 := by simp at hj; omega
 have := h.cell 0
 have hv : (UInt8.ofNat y).toNat = y := UInt8.toNat_ofNat_of_lt' (by show _ < 256; exact hy)
 simpa [Addr.add, hv] using this
theorem fbody_size (r : RecN) : (⟨(fbody r).toArray⟩ : ByteArray).size = 10 + r.data.length := by show (fbody r).toArray.size = _; simp [fbody_length]
theorem cat_body (o i : Nat) (d : ByteArray) : catL [⟨#[225]⟩, ⟨#[UInt8.ofNat o]⟩, ⟨(digits 6 i).toArray⟩, ⟨(digits 2 d.size).toArray⟩, d] = fbody ⟨o, i, d.data.toList⟩ := by
 have e : d.data.toList.length = d.size := by rw [Array.length_toList]; rfl
 simp [catL, fbody, e]
set_option maxRecDepth 100000 in
theorem Encode_no (op id : Int) (d : ByteArray) (w : World) (h : rightV op id d = false) :
  Calls Tryz.prog 98 #[recV op id d] w (Ret (.tuple #[.string ByteArray.empty, .int .i64 170]) w) := by
 have hR := fun w' => FRight_any op id d w'
 rw [h] at hR
 unfold recV at hR ⊢
 go_enter Tryz.func98, Tryz.ntmps98
 go_wp2_with fail
 refine (hR _).mono ?_
 rintro e w1 ⟨rfl, hb1⟩
 go_wp2_with fail
 go_ret2
 exact ⟨rfl, ext_trans (ext_new w _) hb1⟩
set_option maxRecDepth 100000 in
theorem Encode_ok (op id : Int) (d : ByteArray) (w : World) (aA aT aN aW aS : Addr) (hI : CInv w aA aT aN aW aS) (h : rightV op id d = true) :
  Calls Tryz.prog 98 #[recV op id d] w (Ret (.tuple #[.string ⟨(frameL ⟨op.toNat, id.toNat, d.data.toList⟩).toArray⟩, .int .i64 0]) w) := by
 obtain ⟨h1, h2, h3, h4⟩ := rightV_iff.1 h
 obtain ⟨o, rfl⟩ := Int.eq_ofNat_of_zero_le (show 0 ≤ op by omega)
 have hR := fun w' => FRight_any (o : Int) id d w'
 rw [h] at hR
 have hB1 := fun w' h' => Bytes_any id 6 w' aN aW aS h'
 have hB2 := fun w' h' => Bytes_any (d.size : Int) 2 w' aN aW aS h'
 rw [bytes6 h3] at hB1
 rw [bytes2 d.size h4] at hB2
 have hS := fun w' h' => Of_2 ⟨(fbody ⟨o, id.toNat, d.data.toList⟩).toArray⟩ w' aA aT aN aW aS h' (by rw [fbody_size]; show 10 + d.data.toList.length ≤ _; rw [Array.length_toList]; show 10 + d.size ≤ _; omega)
 unfold recV at hR ⊢
 dsimp only at hB1 hB2
 go_enter Tryz.func98, Tryz.ntmps98
 go_wp2_with fail
 refine (hR _).mono ?_
 rintro e w1 ⟨rfl, hb1⟩
 have p1 := (Blk.new_ w 128 #[.int .i64 (o : Int), .int .i64 id, .string d]).below hb1
 have hb1 := ext_trans (ext_new w _) hb1
 have c1 := p1.cell 1
 simp only [List.getElem?_toArray, List.getElem?_cons_zero, List.getElem?_cons_succ] at c1
 go_wp2_with fail
 refine (hB1 _ (hI.below hb1).nums).mono ?_
 rintro e w2 ⟨rfl, hb2'⟩
 have p2 := p1.below hb2'
 have hb2 := ext_trans hb1 hb2'
 clear hb1 hb2' p1 c1
 have c2 := p2.cell 2
 simp only [List.getElem?_toArray, List.getElem?_cons_zero, List.getElem?_cons_succ] at c2
 go_wp2_with fail
 refine (hB2 _ (hI.below hb2).nums).mono ?_
 rintro e w3 ⟨rfl, hb3'⟩
 have p3 := p2.below hb3'
 have hb3 := ext_trans hb2 hb3'
 clear hb2 hb3' p2 c2
 have c0 := p3.cell 0
 have c2 := p3.cell 2
 simp only [List.getElem?_toArray, List.getElem?_cons_zero, List.getElem?_cons_succ] at c0 c2
 have hcv := conv_b (w3.alloc (.cells #[.int .u8 (o : Int)] 5)) w3.heap.size o (by omega) (Blk.new_ _ _ _)
 have c2' := (p3.alloc (.cells #[.int .u8 (o : Int)] 5)).cell 2
 simp only [List.getElem?_toArray, List.getElem?_cons_zero, List.getElem?_cons_succ] at c2'
 go_wp2_with fail
 have hcat := cat_body o id.toNat d
 have hlc : (catL [⟨#[225]⟩, ⟨#[UInt8.ofNat o]⟩, ⟨(digits 6 id.toNat).toArray⟩, ⟨(digits 2 d.size).toArray⟩, d]).length ≤ 1000000 := by
  rw [hcat, fbody_length]
  show 10 + d.data.toList.length ≤ _
  rw [Array.length_toList]
  show 10 + d.size ≤ _
  omega
 have hJ := joined_any (some ⟨w3.heap.size + 1, 0, none⟩) 5 5 _ ((w3.alloc (.cells #[.int .u8 (o : Int)] 5)).alloc (.cells #[.string ⟨#[225]⟩, .string ⟨#[UInt8.ofNat o]⟩, .string ⟨(digits 6 id.toNat).toArray⟩, .string ⟨(digits 2 d.size).toArray⟩, .string d] 9)) (show [(⟨#[225]⟩ : ByteArray), ⟨#[UInt8.ofNat o]⟩, ⟨(digits 6 id.toNat).toArray⟩, ⟨(digits 2 d.size).toArray⟩, d].length = 5 from rfl) (rdS_at _ (by simp)) hlc (by omega)
 rw [hcat] at hJ
 have hsz := fbody_size ⟨o, id.toNat, d.data.toList⟩
 have hfr : (⟨(frameL ⟨o, id.toNat, d.data.toList⟩).toArray⟩ : ByteArray) = ⟨(fbody ⟨o, id.toNat, d.data.toList⟩).toArray⟩ ++ ⟨(sumB true (fbody ⟨o, id.toNat, d.data.toList⟩)).toArray⟩ := by
  apply ByteArray.ext
  rw [ByteArray.data_append]
  show (frameL _).toArray = (fbody _).toArray ++ (sumB true (fbody _)).toArray
  rw [List.append_toArray]
  rfl
 have hsz2 : (⟨(sumB true (fbody ⟨o, id.toNat, d.data.toList⟩)).toArray⟩ : ByteArray).size = 4 := by
  show (sumB true (fbody _)).toArray.size = 4
  rw [List.size_toArray]
  exact digits_length _ _
 have hd2 : d.data.toList.length = d.size := by rw [Array.length_toList]; rfl
 rw [show (RecN.mk o id.toNat d.data.toList).data = d.data.toList from rfl, hd2] at hsz
 have HFR := Lib.hid hfr
 clear hfr hcat hlc hd2
 generalize (⟨(fbody ⟨o, id.toNat, d.data.toList⟩).toArray⟩ : ByteArray) = F at *
 generalize (⟨(sumB true (fbody ⟨o, id.toNat, d.data.toList⟩)).toArray⟩ : ByteArray) = G at *
 have hb4 : Below w.heap.size w ((w3.alloc (.cells #[.int .u8 (o : Int)] 5)).alloc (.cells #[.string ⟨#[225]⟩, .string ⟨#[UInt8.ofNat o]⟩, .string ⟨(digits 6 id.toNat).toArray⟩, .string ⟨(digits 2 d.size).toArray⟩, .string d] 9)) := ext_alloc (ext_alloc hb3 _) _
 refine hJ.mono ?_
 rintro e w4 ⟨rfl, hb4'⟩
 have hb5 := ext_trans hb4 hb4'
 clear hb4 hb4' hJ
 go_wp2_with fail
 refine (hS _ (hI.below hb5)).mono ?_
 rintro e w5 ⟨rfl, hb5'⟩
 have hb6 := ext_trans hb5 hb5'
 clear hb5 hb5'
 have u1 : ¬ (9223372036854775807 < F.size + G.size) := by omega
 go_wp2_with fail
 go_ret2
 exact ⟨by rw [Int.toNat_natCast, HFR.out]; rfl, hb6⟩
theorem Encode_any (op id : Int) (d : ByteArray) (w : World) (aA aT aN aW aS : Addr) (hI : CInv w aA aT aN aW aS) :
  Calls Tryz.prog 98 #[recV op id d] w (Ret (.tuple #[.string (encV op id d).1, .int .i64 (encV op id d).2]) w) := by
 rcases bool_cases (rightV op id d) with h | h
 ·rw [encV, if_neg (by rw [h]; decide)]
  exact Encode_no op id d w h
 ·rw [encV, if_pos h]
  exact Encode_ok op id d w aA aT aN aW aS hI h
end Go.Proofs.YtmebjdbkngehiaaGreatDoor
