/-
  Package postriderref17 (the document's answer for frames): Right, Encode, Decode, and more of the kind. Conditions: as the theorems' own hypotheses say.
-/
import Derived.Test.YtmebjdbkngehiaaGreatDoorFrC
import Derived.Test.YtmebjdbkngehiaaGreatDoorQgG
import Derived.Test.YtmebjdbkngehiaaGreatDoorFrD
namespace Go.Proofs.YtmebjdbkngehiaaGreatDoor
open Go.RowKit
set_option maxHeartbeats 4000000
variable {p s base : Nat} {w : World} {V : Value} {l : List RecN} {r : RecN}
theorem rFRight_any (op id : Int) (d : ByteArray) (w : World) :
  Calls Tryz.prog 143 #[recV op id d] w (Ret (.bool (rightV op id d)) w) := by
 have hR := fun w' => rRight_any id w'
 unfold recV rightV
 generalize okNum id = b at *
 by_cases h1 : 1 ≤ op
 ·by_cases h2 : op ≤ 9
  ·cases b
   ·go_enter Tryz.func143, Tryz.ntmps143
    go_wp2_with (refine (hR _).mono ?_; rintro e w1 ⟨rfl, rfl⟩)
    go_ret
    exact ⟨by first | (simp [h1]; done) | (simp; omega), ext_new w _⟩
   ·by_cases h3 : d.size ≤ 2000
    all_goals
     go_enter Tryz.func143, Tryz.ntmps143
     go_wp2_with (refine (hR _).mono ?_; rintro e w1 ⟨rfl, rfl⟩)
     go_ret
     exact ⟨by first | (simp [h1, h2]; done) | (simp [h1, h2]; omega), ext_new w _⟩
  ·go_enter Tryz.func143, Tryz.ntmps143
   go_wp2_with fail
   go_ret
   exact ⟨by first | (simp []; done) | (simp; omega), ext_new w _⟩
 ·go_enter Tryz.func143, Tryz.ntmps143
  go_wp2_with fail
  go_ret
  exact ⟨by first | (simp []; done) | (simp; omega), ext_new w _⟩
set_option maxRecDepth 100000 in
theorem rFEncode_no (op id : Int) (d : ByteArray) (w : World) (h : rightV op id d = false) :
  Calls Tryz.prog 111 #[recV op id d] w (Ret (.tuple #[.string ByteArray.empty, .int .i64 170]) w) := by
 have hR := fun w' => rFRight_any op id d w'
 rw [h] at hR
 unfold recV at hR ⊢
 go_enter Tryz.func111, Tryz.ntmps111
 go_wp2_with fail
 refine (hR _).mono ?_
 rintro e w1 ⟨rfl, hb1⟩
 go_wp2_with fail
 go_ret2
 exact ⟨rfl, ext_trans (ext_new w _) hb1⟩
set_option maxRecDepth 100000 in
theorem rFEncode_ok (op id : Int) (d : ByteArray) (w : World) (h : rightV op id d = true) :
  Calls Tryz.prog 111 #[recV op id d] w (Ret (.tuple #[.string ⟨(frameL ⟨op.toNat, id.toNat, d.data.toList⟩).toArray⟩, .int .i64 0]) w) := by
 obtain ⟨h1, h2, h3, h4⟩ := rightV_iff.1 h
 obtain ⟨o, rfl⟩ := Int.eq_ofNat_of_zero_le (show 0 ≤ op by omega)
 have hR := fun w' => rFRight_any (o : Int) id d w'
 rw [h] at hR
 have hB1 := fun w' => rBytes_any id 6 w'
 have hB2 := fun w' => rBytes_any (d.size : Int) 2 w'
 rw [bytes6 h3] at hB1
 rw [bytes2 d.size h4] at hB2
 have hS := fun w' => rOf_2 ⟨(fbody ⟨o, id.toNat, d.data.toList⟩).toArray⟩ w' (by rw [fbody_size]; show 10 + d.data.toList.length ≤ _; rw [Array.length_toList]; show 10 + d.size ≤ _; omega)
 unfold recV at hR ⊢
 dsimp only at hB1 hB2
 go_enter Tryz.func111, Tryz.ntmps111
 go_wp2_with fail
 refine (hR _).mono ?_
 rintro e w1 ⟨rfl, hb1⟩
 have p1 := (Blk.new_ w 128 #[.int .i64 (o : Int), .int .i64 id, .string d]).below hb1
 have hb1 := ext_trans (ext_new w _) hb1
 have c1 := p1.cell 1
 simp only [List.getElem?_toArray, List.getElem?_cons_zero, List.getElem?_cons_succ] at c1
 go_wp2_with fail
 refine (hB1 _).mono ?_
 rintro e w2 ⟨rfl, hb2'⟩
 have p2 := p1.below hb2'
 have hb2 := ext_trans hb1 hb2'
 clear hb1 hb2' p1 c1
 have c2 := p2.cell 2
 simp only [List.getElem?_toArray, List.getElem?_cons_zero, List.getElem?_cons_succ] at c2
 go_wp2_with fail
 refine (hB2 _).mono ?_
 rintro e w3 ⟨rfl, hb3'⟩
 have p3 := p2.below hb3'
 have hb3 := ext_trans hb2 hb3'
 clear hb2 hb3' p2 c2
 have c0 := p3.cell 0
 have c2 := p3.cell 2
 simp only [List.getElem?_toArray, List.getElem?_cons_zero, List.getElem?_cons_succ] at c0 c2
 have hcv := conv_b (w3.alloc (.cells #[.int .u8 (o : Int)] 5)) w3.heap.size o (by omega) (Blk.new_ _ _ _)
 have c2' := (p3.alloc (.cells #[.int .u8 (o : Int)] 5)).cell 2
 simp only [List.getElem?_toArray, List.getElem?_cons_zero, List.getElem?_cons_succ] at c2'
 have hcat := cat_body o id.toNat d
 have hs6 : (⟨(digits 6 id.toNat).toArray⟩ : ByteArray).size = 6 := by rw [size_of, digits_length]
 have hs2 : (⟨(digits 2 d.size).toArray⟩ : ByteArray).size = 2 := by rw [size_of, digits_length]
 have hfr : (⟨#[225]⟩ : ByteArray) ++ ⟨#[UInt8.ofNat o]⟩ ++ ⟨(digits 6 id.toNat).toArray⟩ ++ ⟨(digits 2 d.size).toArray⟩ ++ d = ⟨(fbody ⟨o, id.toNat, d.data.toList⟩).toArray⟩ := by
  rw [← hcat]
  apply ba_eq
  simp [catL, ByteArray.data_append]
 have hfr2 : (⟨(frameL ⟨o, id.toNat, d.data.toList⟩).toArray⟩ : ByteArray) = ⟨(fbody ⟨o, id.toNat, d.data.toList⟩).toArray⟩ ++ ⟨(sumB true (fbody ⟨o, id.toNat, d.data.toList⟩)).toArray⟩ := by
  apply ByteArray.ext
  rw [ByteArray.data_append]
  show (frameL _).toArray = (fbody _).toArray ++ (sumB true (fbody _)).toArray
  rw [List.append_toArray]
  rfl
 have hsz := fbody_size ⟨o, id.toNat, d.data.toList⟩
 have hd2 : d.data.toList.length = d.size := by rw [Array.length_toList]; rfl
 rw [show (RecN.mk o id.toNat d.data.toList).data = d.data.toList from rfl, hd2] at hsz
 have hsz2 : (⟨(sumB true (fbody ⟨o, id.toNat, d.data.toList⟩)).toArray⟩ : ByteArray).size = 4 := by
  rw [size_of]
  exact digits_length _ _
 have HFR := Lib.hid hfr
 have HFR2 := Lib.hid hfr2
 clear hfr hfr2 hcat hd2
 generalize (⟨(fbody ⟨o, id.toNat, d.data.toList⟩).toArray⟩ : ByteArray) = F at *
 generalize (⟨(sumB true (fbody ⟨o, id.toNat, d.data.toList⟩)).toArray⟩ : ByteArray) = G at *
 generalize (⟨(digits 6 id.toNat).toArray⟩ : ByteArray) = B6 at *
 generalize (⟨(digits 2 d.size).toArray⟩ : ByteArray) = B2 at *
 go_wp2_with fail
 rw [HFR.out]
 have hb4 : Below w.heap.size w (w3.alloc (.cells #[.int .u8 (o : Int)] 5)) := ext_alloc hb3 _
 refine (hS _).mono ?_
 rintro e w5 ⟨rfl, hb5'⟩
 have hb6 := ext_trans hb4 hb5'
 clear hb4 hb5'
 have u1 : ¬ (9223372036854775807 < F.size + G.size) := by omega
 go_wp2_with fail
 go_ret2
 exact ⟨by rw [Int.toNat_natCast, HFR2.out]; rfl, hb6⟩
theorem rFEncode_any (op id : Int) (d : ByteArray) (w : World) :
  Calls Tryz.prog 111 #[recV op id d] w (Ret (.tuple #[.string (encV op id d).1, .int .i64 (encV op id d).2]) w) := by
 rcases bool_cases (rightV op id d) with h | h
 ·rw [encV, if_neg (by rw [h]; decide)]
  exact rFEncode_no op id d w h
 ·rw [encV, if_pos h]
  exact rFEncode_ok op id d w h
theorem wd_ {n : Nat} (h : p + 2 ≤ s) (hs : s ≤ 1000000) (hn : n ≤ 2014) : wrap64 ((p : Int) + (n : Int)) = (p : Int) + (n : Int) := IntWalk.wrap64_in _ ⟨by omega, by omega⟩
theorem p8_ (h : p + 2 ≤ s) (hs : s ≤ 1000000) : (p : Int) ≤ 1000000 := by omega
set_option maxRecDepth 100000 in
theorem rFDecode_any (s : ByteArray) (a : Int) (w : World) (hs : s.size ≤ 1000000) :
  Calls Tryz.prog 107 #[.string s, .int .i64 a] w (Ret (decR (frV s a) a) w) := by
 have T0 := fun w' => rTake_any s a 2 w' (by omega) (by omega) (by omega)
 have F := fr_facts s a
 rcases F with ⟨F1, F2⟩ | ⟨p, X, rfl, hp, hX, F1, F⟩
 ·rw [F2]
  generalize takeV s a 2 = x at *
  obtain ⟨v, e⟩ := x
  dsimp only at F1 T0
  clear F2
  go_enter Tryz.func107, Tryz.ntmps107
  go_wp2_with (refine (T0 _).mono ?_; rintro e0 wp ⟨rfl, rfl⟩)
  exact bodyPost_ret (v := .tuple #[.agg #[.int .i64 0, .int .i64 0, .string ByteArray.empty], .int .i64 0, .bool false]) (by simp [results, Tryz.results107, go_sem]; try rfl) rfl ⟨rfl, ext_new w _⟩
 ·rw [F1] at T0
  dsimp only at T0
  have T6 := fun w' => rTake_any s ((p : Int) + 2) 6 w' (by omega) (by omega) (by omega)
  have T2 := fun w' => rTake_any s ((p : Int) + 8) 2 w' (by omega) (by omega) (by omega)
  have wa : wrap64 ((p : Int) + 2) = (p : Int) + 2 := by unfold wrap64; omega
  have wb : wrap64 ((p : Int) + 8) = (p : Int) + 8 := by unfold wrap64; omega
  have wc : wrap64 ((p : Int) + 10) = (p : Int) + 10 := by unfold wrap64; omega
  have hX2 : ((X : Int)).tmod 256 = ((X % 256 : Nat) : Int) := by rw [Int.tmod_eq_emod_of_nonneg (by omega)]; omega
  obtain ⟨o, ho⟩ : ∃ o, X % 256 = o := ⟨_, rfl⟩
  rw [ho] at F hX2
  have ho2 : o < 256 := by omega
  clear ho F1
  rcases F with ⟨F1, F2⟩ | ⟨I, N, hI6, hN, hp10, F1, F3, F⟩
  ·rw [F2]
   rw [F1] at T2
   dsimp only at T2
   generalize takeV s ((p : Int) + 2) 6 = x6 at *
   obtain ⟨v6, e6⟩ := x6
   dsimp only at T6
   clear F1 F2
   go_enter Tryz.func107, Tryz.ntmps107
   go_wp2_with fail
   refine (T0 _).mono ?_
   rintro e0 wp ⟨rfl, rfl⟩
   go_wp2_with fail
   refine (T6 _).mono ?_
   rintro e0 wp ⟨rfl, rfl⟩
   go_wp2_with fail
   refine (T2 _).mono ?_
   rintro e0 wp ⟨rfl, rfl⟩
   go_wp2_with fail
   all_goals exact bodyPost_ret (v := .tuple #[.agg #[.int .i64 0, .int .i64 0, .string ByteArray.empty], .int .i64 0, .bool false]) (by simp [results, Tryz.results107, go_sem]; try rfl) rfl ⟨rfl, ext_new w _⟩
  ·rw [F1] at T6
   rw [F3] at T2
   dsimp only at T2 T6
   have HC := fun w' => rCut_any s ((p : Int) + 10) (N : Int) w' (by omega) (by omega) (by omega)
   clear F1 F3
   rcases F with ⟨F1, F2⟩ | ⟨D, F1, hDs, F⟩
   ·rw [F2]
    rw [F1] at HC
    dsimp only at HC
    clear F1 F2
    go_enter Tryz.func107, Tryz.ntmps107
    go_wp2_with fail
    refine (T0 _).mono ?_
    rintro e0 wp ⟨rfl, rfl⟩
    go_wp2_with fail
    refine (T6 _).mono ?_
    rintro e0 wp ⟨rfl, rfl⟩
    go_wp2_with fail
    refine (T2 _).mono ?_
    rintro e0 wp ⟨rfl, rfl⟩
    go_wp2_with fail
    refine (HC _).mono ?_
    rintro e0 wp ⟨rfl, rfl⟩
    go_wp2_with fail
    exact bodyPost_ret (v := .tuple #[.agg #[.int .i64 0, .int .i64 0, .string ByteArray.empty], .int .i64 0, .bool false]) (by simp [results, Tryz.results107, go_sem]; try rfl) rfl ⟨rfl, ext_new w _⟩
   ·rw [F1] at HC
    dsimp only at HC
    clear F1
    have HE := fun w' => rFEncode_any (o : Int) (I : Int) D w'
    unfold recV at HE
    obtain ⟨⟨Fr, eF⟩, hev⟩ : ∃ z, encV (o : Int) (I : Int) D = z := ⟨_, rfl⟩
    rw [hev] at HE F
    clear hev
    have hFr : Fr.size ≤ 2014 := by
     rcases F with ⟨F1, -⟩ | ⟨F0, F1, -, F3, -⟩
     ·injection F1 with F1 _
      rw [F1]
      show 0 ≤ _
      omega
     ·injection F1 with F1 _
      rw [F1]
      exact F3
    have HC2 := fun w' => rCut_any s (p : Int) (Fr.size : Int) w' (by omega) (by omega) (by omega)
    dsimp only at HE
    go_enter Tryz.func107, Tryz.ntmps107
    go_wp2_with fail
    refine (T0 _).mono ?_
    rintro e0 wp ⟨rfl, rfl⟩
    go_wp2_with fail
    refine (T6 _).mono ?_
    rintro e0 wp ⟨rfl, rfl⟩
    go_wp2_with fail
    refine (T2 _).mono ?_
    rintro e0 wp ⟨rfl, rfl⟩
    go_wp2_with fail
    refine (HC _).mono ?_
    rintro e0 wp ⟨rfl, rfl⟩
    go_wp2_with fail
    refine (HE _).mono ?_
    rintro e w1 ⟨rfl, hb1'⟩
    have q := (Blk.new_ (w.alloc (.cells #[.int .i64 0, .int .i64 0, .string ⟨#[]⟩] 128)) 128 #[.int .i64 (o : Int), .int .i64 (I : Int), .string D]).below hb1'
    have q0 := (((Blk.new_ w 128 #[.int .i64 0, .int .i64 0, .string ⟨#[]⟩]).alloc (.cells #[.int .i64 (o : Int), .int .i64 (I : Int), .string D] 128)).below hb1')
    have hb1 := ext_trans (ext_alloc (ext_new w (.cells #[.int .i64 0, .int .i64 0, .string ⟨#[]⟩] 128)) (.cells #[.int .i64 (o : Int), .int .i64 (I : Int), .string D] 128)) hb1'
    clear hb1'
    rw [World.size_alloc] at q
    obtain ⟨y0, y1, y2, -⟩ := q.c3
    obtain ⟨x0, x1, x2, g0, g1, g2⟩ := q0.c3
    go_wp2_with fail
    refine (HC2 _).mono ?_
    rintro e0 wp ⟨rfl, rfl⟩
    rcases F with ⟨F1, F2⟩ | ⟨F0, F1, hFs, hFs2, F⟩
    ·injection F1 with F3 F4
     subst F3 F4
     generalize cutV s (p : Int) _ = x at *
     obtain ⟨G, e⟩ := x
     dsimp only
     go_wp2_with fail
     exact bodyPost_ret (v := .tuple #[.agg #[.int .i64 0, .int .i64 0, .string ByteArray.empty], .int .i64 0, .bool false]) (by simp [results, Tryz.results107, go_sem, x0, x1, x2]; try rfl) rfl ⟨by first | (rw [F2]; rfl) | rfl, ((hb1.setCell (by simp) _).setCell (by simp) _).setCell (by simp) _⟩
    ·injection F1 with F3 F4
     subst F3 F4
     rcases F with ⟨F1, F2⟩ | ⟨G, F1, F⟩
     ·rw [F1]
      dsimp only
      go_wp2_with fail
      exact bodyPost_ret (v := .tuple #[.agg #[.int .i64 0, .int .i64 0, .string ByteArray.empty], .int .i64 0, .bool false]) (by simp [results, Tryz.results107, go_sem, x0, x1, x2]; try rfl) rfl ⟨by first | (rw [F2]; rfl) | rfl, ((hb1.setCell (by simp) _).setCell (by simp) _).setCell (by simp) _⟩
     ·rw [F1]
      dsimp only
      rcases F with ⟨F1, F2⟩ | ⟨F1, F2⟩
      ·have F3 : (Fr.toList == G.toList) = false := by
        rw [beq_eq_false_iff_ne] at F1 ⊢
        exact fun h => F1 h.symm
       go_wp2_with fail
       exact bodyPost_ret (v := .tuple #[.agg #[.int .i64 0, .int .i64 0, .string ByteArray.empty], .int .i64 0, .bool false]) (by simp [results, Tryz.results107, go_sem, x0, x1, x2]; try rfl) rfl ⟨by first | (rw [F2]; rfl) | rfl, ((hb1.setCell (by simp) _).setCell (by simp) _).setCell (by simp) _⟩
      ·have hlen : D.data.toList.length = N := by rw [list_size, hDs]
       have F3 : (Fr.toList == G.toList) = true := by rw [F1]; exact beq_self_eq_true _
       have wd : wrap64 ((p : Int) + (Fr.size : Int)) = (p : Int) + (Fr.size : Int) := wd_ hp hs hFs2
       have HFS := Lib.hid hFs
       have HF := Lib.hid F2
       have hp7 : (Fr.size : Int) ≤ 2014 := by exact_mod_cast hFs2
       have hp8 : (p : Int) ≤ 1000000 := p8_ hp hs
       have hp0 : (0 : Int) ≤ (p : Int) := Int.natCast_nonneg _
       clear F2 F1
       have HL := Lib.hid hlen
       clear hFs hlen hDs hX2 wa wb wc T0 T2 T6 HC HE HC2 hX ho2 hI6 hN hp10
       go_wp2_with fail
       exact bodyPost_ret (v := .tuple #[.agg #[.int .i64 (o : Int), .int .i64 (I : Int), .string D], .int .i64 ((p : Int) + (Fr.size : Int)), .bool true]) (by simp [results, Tryz.results107, go_sem, x0, x1, x2]) rfl ⟨by rw [HF.out]; unfold decR; dsimp only; rw [HL.out, HFS.out], by first | exact ((hb1.setCell (by simp) _).setCell (by simp) _).setCell (by simp) _ | exact hb1⟩
attribute [local go_sem] Oper.semAt_some
structure RI where
 op : Int
 id : Int
 d : ByteArray
def RI.n (r : RI) : RecN := ⟨r.op.toNat, r.id.toNat, r.d.data.toList⟩
def RI.ok (r : RI) : Bool := rightV r.op r.id r.d
def RecN.i (r : RecN) : RI := ⟨r.op, r.id, ⟨r.data.toArray⟩⟩
def RI.cs (r : RI) : List Value := [.int .i64 r.op, .int .i64 r.id, .string r.d]
def cellsQ (l : List RI) : List Value := l.flatMap RI.cs
theorem cellsQ_length (l : List RI) : (cellsQ l).length = l.length * 3 := by
 induction l with
 | nil => rfl
 | cons r l ih => rw [show cellsQ (r :: l) = r.cs ++ cellsQ l by simp [cellsQ], List.length_append, ih, List.length_cons]; show 3 + _ = _; omega
theorem cellsQ_snoc (l : List RI) (r : RI) : cellsQ (l ++ [r]) = cellsQ l ++ r.cs := by simp [cellsQ]
theorem cellsR_i (l : List RecN) : cellsR l = cellsQ (l.map RecN.i) := by
 induction l with
 | nil => rfl
 | cons r l ih =>
  rw [List.map_cons, show cellsR (r :: l) = recC r ++ cellsR l by simp [cellsR], show ∀ (q : RI) m, cellsQ (q :: m) = q.cs ++ cellsQ m from fun q m => by simp [cellsQ], ih]
  rfl
theorem cellsQ_get (l : List RI) : ∀ (i : Nat) (h : i < l.length), (cellsQ l)[i * 3]? = some (.int .i64 l[i].op) ∧ (cellsQ l)[i * 3 + 1]? = some (.int .i64 l[i].id) ∧ (cellsQ l)[i * 3 + 2]? = some (.string l[i].d) := by
 induction l with
 | nil => intro i h; simp at h
 | cons r l ih =>
  intro i h
  have e : cellsQ (r :: l) = r.cs ++ cellsQ l := by simp [cellsQ]
  have hc : r.cs.length = 3 := rfl
  cases i with
  | zero => rw [e]; exact ⟨rfl, rfl, rfl⟩
  | succ i =>
   have := ih i (by simpa using h)
   rw [e, List.getElem?_append_right (by omega), List.getElem?_append_right (by omega), List.getElem?_append_right (by omega), hc]
   rw [show (i + 1) * 3 - 3 = i * 3 by omega, show (i + 1) * 3 + 1 - 3 = i * 3 + 1 by omega, show (i + 1) * 3 + 2 - 3 = i * 3 + 2 by omega]
   exact this
def RdR (w : World) (A : Option Addr) (xs : List RI) : Prop := 0 < xs.length → ∃ a, A = some a ∧ a.block < w.heap.size ∧ ∀ (i : Nat) (h : i < xs.length), w.cell? (a.add (i * 3)) = some (.int .i64 xs[i].op) ∧ w.cell? ⟨(a.add (i * 3)).block, (a.add (i * 3)).off + 1, none⟩ = some (.int .i64 xs[i].id) ∧ w.cell? ⟨(a.add (i * 3)).block, (a.add (i * 3)).off + 2, none⟩ = some (.string xs[i].d)
theorem add_blk (a : Addr) (i : Nat) : (a.add i).block = a.block := by unfold Addr.add; split <;> rfl
theorem rdR_own {n : Nat} {l : List RI} (h : w.ownsRow base 128 3 V n (cellsQ l)) : n = l.length ∧ ∃ A c, V = .slice A n c ∧ RdR w A l := by
 have hn : l.length = n := by have := h.1; rw [cellsQ_length] at this; omega
 refine ⟨hn.symm, ?_⟩
 have h' := h
 obtain ⟨-, ⟨rfl, h0⟩ | ⟨g, cap, cur, rfl, -⟩⟩ := h'
 ·subst h0
  exact ⟨none, 0, rfl, fun hp => by omega⟩
 ·refine ⟨some ⟨g, 0, none⟩, cap, rfl, fun hp => ⟨⟨g, 0, none⟩, rfl, (h.lt g rfl).2, fun i hi => ?_⟩⟩
  obtain ⟨g1, g2, g3⟩ := cellsQ_get l i hi
  have k1 := h.cells rfl _ _ g1
  have k2 := h.cells rfl _ _ g2
  have k3 := h.cells rfl _ _ g3
  have ha : ∀ k : Nat, (⟨g, 0, none⟩ : Addr).add k = ⟨g, k, none⟩ := fun k => by unfold Addr.add; split <;> simp_all
  rw [ha] at k1 k2 k3 ⊢
  exact ⟨k1, k2, k3⟩
def layV (l : List RI) : ByteArray × Int := if l.all RI.ok then (⟨(layL (l.map RI.n)).toArray⟩, 0) else (ByteArray.empty, 170)
theorem layV_ok {xs : List RI} (h : ∀ x ∈ xs, x.ok = true) : layV xs = (⟨(layL (xs.map RI.n)).toArray⟩, 0) := by rw [layV, if_pos (List.all_eq_true.2 h)]
theorem layV_bad {xs : List RI} {x : RI} (h : x ∈ xs) (hx : x.ok = false) : layV xs = (ByteArray.empty, 170) := by
 rw [layV, if_neg]
 intro e
 have := List.all_eq_true.1 e x h
 rw [hx] at this
 cases this
theorem enc_ok {r : RI} (h : r.ok = true) : encV r.op r.id r.d = (⟨(frameL r.n).toArray⟩, 0) := by rw [encV, if_pos (show rightV r.op r.id r.d = true from h)]; rfl
theorem enc_bad {r : RI} (h : r.ok = false) : encV r.op r.id r.d = (ByteArray.empty, 170) := by rw [encV, if_neg (by rw [show rightV r.op r.id r.d = false from h]; decide)]
theorem frame_len {r : RI} (h : r.ok = true) : (frameL r.n).length = 14 + r.d.size ∧ r.d.size ≤ 2000 := by
 have := (rightV_iff.1 (show rightV r.op r.id r.d = true from h)).2.2.2
 rw [frameL_length]
 exact ⟨by show 14 + r.d.data.toList.length = _; rw [list_size], this⟩
theorem layL_snoc (l : List RecN) (r : RecN) : layL (l ++ [r]) = layL l ++ frameL r := by simp [layL]
theorem lay_len (xs : List RI) (h : ∀ x ∈ xs, x.ok = true) : (layL (xs.map RI.n)).length ≤ 2014 * xs.length := by
 induction xs with
 | nil => simp [layL]
 | cons r l ih =>
  have h1 := frame_len (h r (by simp))
  have h2 := ih fun x hx => h x (by simp [hx])
  rw [List.map_cons, show layL (r.n :: l.map RI.n) = frameL r.n ++ layL (l.map RI.n) by simp [layL], List.length_append, List.length_cons]
  omega
theorem lay_catL (xs : List RI) : layL (xs.map RI.n) = catL (xs.map fun r => ⟨(frameL r.n).toArray⟩) := by
 simp [layL, catL, List.flatMap_map]
theorem infoS1 : (Tryz.prog.info? 9).map (fun i => (i.zero, i.size, i.bytes)) = some (some (.string ByteArray.empty), 1, 16) := by kernel_rfl
theorem rdS_own {n : Nat} {l : List ByteArray} (h : w.ownsRow base 9 1 V n (l.map Value.string)) : n = l.length ∧ ∃ A c, V = .slice A n c ∧ RdS w A l := by
 have hn : l.length = n := by have := h.1; simpa using this
 refine ⟨hn.symm, ?_⟩
 have h' := h
 obtain ⟨-, ⟨rfl, h0⟩ | ⟨g, cap, cur, rfl, -⟩⟩ := h'
 ·subst h0
  exact ⟨none, 0, rfl, fun hp => by omega⟩
 ·refine ⟨some ⟨g, 0, none⟩, cap, rfl, fun hp => ⟨⟨g, 0, none⟩, rfl, (h.lt g rfl).2, fun i hi => ?_⟩⟩
  exact h.cells rfl i (.string l[i]) (by rw [List.getElem?_map, List.getElem?_eq_getElem hi]; rfl)
set_option maxRecDepth 100000 in
theorem Lay_any (A : Option Addr) (c n : Nat) (xs : List RI) (w : World) (aA aT aN aW aS : Addr) (hI : CInv w aA aT aN aW aS) (hn : xs.length = n) (ha : RdR w A xs) (hl : n ≤ 400) :
  Calls Tryz.prog 136 #[.slice A n c] w (Ret (.tuple #[.string (layV xs).1, .int .i64 (layV xs).2]) w) := by
 subst hn
 obtain ⟨i0, hi0, hz0, hz1, hz2⟩ := info_parts infoS1
 go_enter Tryz.func136, Tryz.ntmps136
 go_wp2_with fail
 go_loopw [4, 11] (fun out i wr => ∃ (k : Nat), k ≤ xs.length ∧ i = .int .i64 (k : Int) ∧ wr.ownsRow w.heap.size 9 1 out k ((xs.take k).map fun r => Value.string ⟨(frameL r.n).toArray⟩) ∧ (∀ x ∈ xs.take k, x.ok = true) ∧ Below w.heap.size w wr) (fun _ i _ => xs.length - (intOf i).toNat)
 case atStart => exact ⟨0, Nat.zero_le _, rfl, own_nil, by simp, Below.refl _ _⟩
 case round =>
  obtain ⟨k, hk, rfl, hown, hok, hbe⟩ := hrel
  by_cases hlt : k < xs.length
  ·have hq : (k : Int) < (xs.length : Int) := by omega
   obtain ⟨a, rfl, hab, hca⟩ := ha (by omega)
   obtain ⟨g1, g2, g3⟩ := hca k hlt
   have x1 := (hbe.cell (by rw [add_blk]; exact hab)).trans g1
   have x2 := (hbe.cell (by show (a.add (k * 3)).block < _; rw [add_blk]; exact hab)).trans g2
   have x3 := (hbe.cell (by show (a.add (k * 3)).block < _; rw [add_blk]; exact hab)).trans g3
   have HE := fun w' h' => Encode_any xs[k].op xs[k].id xs[k].d w' aA aT aN aW aS h'
   unfold recV at HE
   rcases bool_cases xs[k].ok with ho | ho
   ·have HB := Lib.hid (layV_bad (List.getElem_mem hlt) ho)
    rw [enc_bad ho] at HE
    dsimp only at HE
    clear ho hok g1 g2 g3 hca ha hown
    generalize xs[k].op = op at *
    generalize xs[k].id = id at *
    generalize xs[k].d = d at *
    go_wp2_with fail
    refine (HE _ (hI.below (hbe.alloc hbe.size _))).mono ?_
    rintro e w1 ⟨rfl, hb1⟩
    go_wp2_with fail
    go_ret2
    exact ⟨by rw [HB.out]; rfl, (hbe.alloc hbe.size _).trans (hb1.mono (by have := hbe.size; simp; omega))⟩
   ·have hok1 : ∀ x ∈ xs.take (k + 1), x.ok = true := by
     intro x hx
     rw [List.take_succ_eq_append_getElem hlt, List.mem_append, List.mem_singleton] at hx
     rcases hx with hx | rfl
     ·exact hok x hx
     ·exact ho
    have hsn : (xs.take (k + 1)).map (fun r => Value.string ⟨(frameL r.n).toArray⟩) = (xs.take k).map (fun r => Value.string ⟨(frameL r.n).toArray⟩) ++ [.string ⟨(frameL xs[k].n).toArray⟩] := by
     rw [List.take_succ_eq_append_getElem hlt, List.map_append, List.map_singleton]
    rw [enc_ok ho] at HE
    dsimp only at HE
    have HO := Lib.hid hok1
    have HS := Lib.hid hsn
    clear hok1 ho hok g1 g2 g3 hca ha hsn
    generalize (⟨(frameL xs[k].n).toArray⟩ : ByteArray) = F at *
    generalize xs[k].op = op at *
    generalize xs[k].id = id at *
    generalize xs[k].d = d at *
    generalize (xs.take k).map (fun r => Value.string ⟨(frameL r.n).toArray⟩) = L at *
    go_wp2_with fail
    refine (HE _ (hI.below (hbe.alloc hbe.size _))).mono ?_
    rintro e w1 ⟨rfl, hb1⟩
    have hown1 := (own_below (own_below hown (ext_new wr (.cells #[.int .i64 op, .int .i64 id, .string d] 128))) hb1).alloc (.cells #[.string F] 9)
    have hbe1 := (hbe.alloc hbe.size (.cells #[.int .i64 op, .int .i64 id, .string d] 128)).trans (hb1.mono (by have := hbe.size; simp; omega))
    have hnw := new_cells w1 [.string F] 9
    have hsz := hbe1.size
    obtain ⟨A0, c0, rfl⟩ := own_form hown
    clear hb1 hown
    go_wp2_with (at_builtin; refine wpList_append_own _ rfl _ _ 54 rfl w.heap.size 9 i0 (.string ByteArray.empty) 1 16 Tryz.underlying54 hi0 hz0 hz1 hz2 rfl (by omega) _ _ _ rfl hown1 ⟨w1.heap.size, 0, none⟩ 1 1 [.string F] rfl rfl hnw (by intro u hu; rw [List.mem_singleton] at hu; subst hu; rfl) (by unfold maxLen; omega) (by omega) (by simp; omega) ?_; intro v' w3 hown3 hgrow _)
    obtain ⟨A', c', rfl⟩ := own_form hown3
    have k2 := below_append (hbe1.alloc hsz _) hown1 (Nat.le_refl _) (Nat.le_refl _) hgrow
    go_roundw
    case rel => exact ⟨k + 1, by omega, by go_num, by rw [HS.out]; exact hown3, HO.out, k2⟩
    case measure => simp [intOf]; omega
  ·obtain rfl : k = xs.length := by omega
   rw [List.take_length] at hok hown
   have HR := Lib.hid (layV_ok hok)
   have hll := lay_len xs hok
   clear hok
   have e1 : xs.map (fun r => Value.string ⟨(frameL r.n).toArray⟩) = (xs.map fun r => (⟨(frameL r.n).toArray⟩ : ByteArray)).map Value.string := by rw [List.map_map]; rfl
   rw [e1] at hown
   obtain ⟨-, B, c', rfl, hr⟩ := rdS_own hown
   have hJ := joined_any B xs.length c' _ wr (by rw [List.length_map]) hr (by rw [← lay_catL]; omega) (by omega)
   rw [← lay_catL] at hJ
   clear hown e1 hr
   have hq1 : ¬ ((xs.length : Int) < (xs.length : Int)) := by omega
   go_wp2_with fail
   refine hJ.mono ?_
   rintro e w1 ⟨rfl, hb1⟩
   go_wp2_with fail
   go_ret2
   exact ⟨by rw [HR.out]; rfl, hbe.trans (hb1.mono hbe.size)⟩
set_option maxRecDepth 100000 in
theorem rFLay_any (A : Option Addr) (c n : Nat) (xs : List RI) (w : World) (hn : xs.length = n) (ha : RdR w A xs) (hl : n ≤ 400) :
  Calls Tryz.prog 84 #[.slice A n c] w (Ret (.tuple #[.string (layV xs).1, .int .i64 (layV xs).2]) w) := by
 subst hn
 go_enter Tryz.func84, Tryz.ntmps84
 go_wp2_with fail
 go_loopw [4, 5] (fun s u wr => ∃ k : Nat, u = .int .i64 (k : Int) ∧ k ≤ xs.length ∧ s = .string ⟨(layL ((xs.take k).map RI.n)).toArray⟩ ∧ (∀ x ∈ xs.take k, x.ok = true) ∧ Below w.heap.size w wr) (fun _ u _ => xs.length - (intOf u).toNat)
 case atStart => exact ⟨0, rfl, Nat.zero_le _, rfl, by simp, ext_refl _⟩
 case round =>
  obtain ⟨k, rfl, hk, rfl, hok, hbe⟩ := hrel
  have hXl : (⟨(layL ((xs.take k).map RI.n)).toArray⟩ : ByteArray).size ≤ 2014 * 400 := by
   have h1 := lay_len (xs.take k) hok
   rw [List.length_take] at h1
   rw [size_of]
   omega
  by_cases hlt : k < xs.length
  ·obtain ⟨a, rfl, hab, hca⟩ := ha (by omega)
   obtain ⟨g1, g2, g3⟩ := hca k hlt
   have x1 := (hbe.cell (by rw [add_blk]; exact hab)).trans g1
   have x2 := (hbe.cell (by show (a.add (k * 3)).block < _; rw [add_blk]; exact hab)).trans g2
   have x3 := (hbe.cell (by show (a.add (k * 3)).block < _; rw [add_blk]; exact hab)).trans g3
   have hq0 : (0 : Int) ≤ (k : Int) := by omega
   have hq1 : (k : Int) < (xs.length : Int) := by omega
   have HE := rFEncode_any xs[k].op xs[k].id xs[k].d wr
   unfold recV at HE
   rcases bool_cases xs[k].ok with ho | ho
   ·have HB := Lib.hid (layV_bad (List.getElem_mem hlt) ho)
    rw [enc_bad ho] at HE
    dsimp only at HE
    clear ho hok g1 g2 g3 hca ha
    generalize xs[k].op = op at *
    generalize xs[k].id = id at *
    generalize xs[k].d = d at *
    generalize (⟨(layL ((xs.take k).map RI.n)).toArray⟩ : ByteArray) = sx at *
    go_wp2_with fail
    refine HE.mono ?_
    rintro e w1 ⟨rfl, hb1⟩
    go_wp2_with fail
    go_ret2
    exact ⟨by rw [HB.out]; rfl, hbe.trans (hb1.mono hbe.size)⟩
   ·have hok1 : ∀ x ∈ xs.take (k + 1), x.ok = true := by
     intro x hx
     rw [List.take_succ_eq_append_getElem hlt, List.mem_append, List.mem_singleton] at hx
     rcases hx with hx | rfl
     ·exact hok x hx
     ·exact ho
    have hcat : (⟨(layL ((xs.take k).map RI.n)).toArray⟩ : ByteArray) ++ ⟨(frameL xs[k].n).toArray⟩ = ⟨(layL ((xs.take (k + 1)).map RI.n)).toArray⟩ := by
     apply ByteArray.ext
     rw [ByteArray.data_append, List.take_succ_eq_append_getElem hlt, List.map_append, List.map_singleton, layL_snoc, ← List.append_toArray]
    have hFl := frame_len ho
    have hFs : (⟨(frameL xs[k].n).toArray⟩ : ByteArray).size ≤ 2014 := by rw [size_of]; omega
    rw [enc_ok ho] at HE
    dsimp only at HE
    have HC := Lib.hid hcat
    have HO := Lib.hid hok1
    clear hcat hok1 ho hok g1 g2 g3 hca ha hFl
    generalize (⟨(frameL xs[k].n).toArray⟩ : ByteArray) = F at *
    generalize xs[k].op = op at *
    generalize xs[k].id = id at *
    generalize xs[k].d = d at *
    generalize (⟨(layL ((xs.take k).map RI.n)).toArray⟩ : ByteArray) = sx at *
    have hz : ¬ (9223372036854775807 < sx.size + F.size) := by omega
    go_wp2_with fail
    refine HE.mono ?_
    rintro e w1 ⟨rfl, hb1⟩
    go_wp2_with fail
    go_roundw
    case rel => exact ⟨k + 1, by go_num, by omega, by rw [HC.out], HO.out, hbe.trans (hb1.mono hbe.size)⟩
    case measure => simp [intOf]; omega
  ·obtain rfl : k = xs.length := by omega
   rw [List.take_length] at hok
   have HR := Lib.hid (layV_ok hok)
   clear hok
   rw [List.take_length] at hXl ⊢
   generalize (⟨(layL (xs.map RI.n)).toArray⟩ : ByteArray) = sx at *
   have hq1 : ¬ ((xs.length : Int) < (xs.length : Int)) := by omega
   go_wp2_with fail
   go_ret2
   exact ⟨by rw [HR.out]; rfl, hbe⟩
def recO (o : Option RecN) : Array Value := match o with
 | none => #[.int .i64 0, .int .i64 0, .string ByteArray.empty]
 | some r => #[.int .i64 (r.op : Int), .int .i64 (r.id : Int), .string ⟨r.data.toArray⟩]
def nxO (o : Option RecN) (p : Nat) : Int := match o with
 | none => 0
 | some r => ((p + (14 + r.data.length) : Nat) : Int)
theorem decR_form (o : Option RecN) (p : Nat) : ∃ (x y : Int) (z : ByteArray), recO o = #[.int .i64 x, .int .i64 y, .string z] ∧ decR o (p : Int) = .tuple #[.agg #[.int .i64 x, .int .i64 y, .string z], .int .i64 (nxO o p), .bool o.isSome] := by
 cases o with
 | none => exact ⟨_, _, _, rfl, rfl⟩
 | some r => exact ⟨_, _, _, rfl, by rw [decR]; dsimp only [nxO, Option.isSome]; rw [Int.natCast_add p]⟩
theorem scan_step {s : List UInt8} (h : scanOf s = (l ++ (scanOf (s.drop p)).1, p + (scanOf (s.drop p)).2)) (hd : decF (s.drop p) = some r) :
  scanOf s = ((l ++ [r]) ++ (scanOf (s.drop (p + (14 + r.data.length)))).1, (p + (14 + r.data.length)) + (scanOf (s.drop (p + (14 + r.data.length)))).2) := by
 rw [scanOf_some hd, List.drop_drop, frameL_length] at h
 rw [h]
 simp [Nat.add_assoc]
theorem scan_end {s : List UInt8} (h : scanOf s = (l ++ (scanOf (s.drop p)).1, p + (scanOf (s.drop p)).2)) (hd : decF (s.drop p) = none) : scanOf s = (l, p) := by
 rw [scanOf_none hd] at h
 simpa using h
theorem dec_small {s : ByteArray} (hp : p ≤ s.size) (h : decF (s.data.toList.drop p) = some r) : p + (14 + r.data.length) ≤ s.size := by
 obtain ⟨_, _, h3⟩ := frame_dec h
 rw [frameL_length, List.length_drop, list_size] at h3
 omega
set_option maxRecDepth 100000 in
theorem rFScan_any (s : ByteArray) (hs : s.size ≤ 1000000) (w : World) :
  Calls Tryz.prog 69 #[.string s] w (ScanRes (scanOf s.data.toList).1 (scanOf s.data.toList).2 w) := by
 obtain ⟨i0, hi0, hz0, hz1, hz2⟩ := info_parts infoR
 have HD := fun p (hp : p ≤ s.size) w' => (frV_nat s p hp) ▸ rFDecode_any s (p : Int) w' hs
 have h0 := HD 0 (Nat.zero_le _) w
 obtain ⟨o, ho⟩ : ∃ o, decF (s.data.toList.drop 0) = o := ⟨_, rfl⟩
 obtain ⟨x, y, z, hr, hdv⟩ := decR_form o 0
 rw [ho, hdv] at h0
 rw [Int.natCast_zero] at h0
 have Ho := Lib.hid ho
 have Hr := Lib.hid hr
 clear ho hr hdv
 go_enter Tryz.func69, Tryz.ntmps69
 go_wp2_with fail
 refine h0.mono ?_
 rintro e w1 ⟨rfl, hb1⟩
 go_wp2_with fail
 have q0 := Blk.new_ w1 128 #[.int .i64 x, .int .i64 y, .string z]
 have hb2 := ext_alloc hb1 (.cells #[.int .i64 x, .int .i64 y, .string z] 128)
 obtain ⟨d, hd⟩ : ∃ d, w1.heap.size = d := ⟨_, rfl⟩
 rw [hd] at q0 ⊢
 have hdw : w.heap.size ≤ d := by rw [← hd]; exact hb1.size
 generalize hW : w1.alloc (.cells #[.int .i64 x, .int .i64 y, .string z] 128) = W at *
 clear hW hd hb1 h0
 go_loopw [4, 5, 7, 8] (fun out u nx ok wr => ∃ (l : List RecN) (p : Nat) (o : Option RecN), p ≤ s.size ∧ scanOf s.data.toList = (l ++ (scanOf (s.data.toList.drop p)).1, p + (scanOf (s.data.toList.drop p)).2) ∧ decF (s.data.toList.drop p) = o ∧
  u = .int .i64 (p : Int) ∧ nx = .int .i64 (nxO o p) ∧ ok = .bool o.isSome ∧ Blk wr d 128 (recO o) ∧ wr.ownsRow (d + 1) 128 3 out l.length (cellsR l) ∧ Below w.heap.size w wr) (fun _ u _ _ _ => s.size - (intOf u).toNat)
 case atStart => exact ⟨[], 0, o, Nat.zero_le _, by simp, Ho.out, rfl, rfl, rfl, Hr.out ▸ q0, own_nil, hb2⟩
 case round =>
  obtain ⟨l, p, o, hp, hsc, hdo, rfl, rfl, rfl, hq, hown, hbe⟩ := hrel
  cases o with
  | none =>
   have HE := Lib.hid (scan_end hsc hdo)
   obtain ⟨A, c, rfl⟩ := own_form hown
   clear hsc hdo
   rw [show (none : Option RecN).isSome = false from rfl]
   go_wp2_with fail
   go_ret2
   exact ⟨.slice A l.length c, by rw [HE.out]; rfl, by rw [HE.out]; exact own_base hown (by omega), hbe⟩
  | some r =>
   have hsz := dec_small hp hdo
   have hln := scan_small (s.data.toList)
   have HS := Lib.hid (scan_step hsc hdo)
   rw [hsc] at hln
   rw [list_size] at hln
   dsimp only at hln
   rw [List.length_append] at hln
   clear hsc hdo
   obtain ⟨p', hp'⟩ : ∃ p', p + (14 + r.data.length) = p' := ⟨_, rfl⟩
   have hnx : nxO (some r) p = (p' : Int) := by rw [← hp']; rfl
   rw [hp'] at HS hsz
   rw [hnx] at ⊢
   have hpp : p < p' := by omega
   obtain ⟨o', ho'⟩ : ∃ o, decF (s.data.toList.drop p') = o := ⟨_, rfl⟩
   obtain ⟨x', y', z', hr', hdv⟩ := decR_form o' p'
   have hD := HD p' hsz
   rw [ho', hdv] at hD
   have Ho' := Lib.hid ho'
   have Hr' := Lib.hid hr'
   have hdl := hq.lt
   have hsn := cellsR_snoc l r
   unfold recO at hq
   unfold recC at hsn
   dsimp only at hq
   clear ho' hr' hdv hp' hnx
   obtain ⟨q1, q2, q3, -⟩ := hq.c3
   have hnw := fun w => new_cells w [.int .i64 (r.op : Int), .int .i64 (r.id : Int), .string ⟨r.data.toArray⟩] 128
   have HSN := Lib.hid hsn
   clear hsn
   generalize (⟨r.data.toArray⟩ : ByteArray) = D at *
   generalize (r.op : Int) = op at *
   generalize (r.id : Int) = id at *
   obtain ⟨A0, c0, rfl⟩ := own_form hown
   have hown1 := hown.alloc (.cells #[.int .i64 op, .int .i64 id, .string D] 128)
   rw [show ∀ r : RecN, (some r).isSome = true from fun _ => rfl]
   go_wp2_with (at_builtin; refine wpList_append_own _ rfl _ _ 132 rfl (d + 1) 128 i0 (.agg #[.int .i64 0, .int .i64 0, .string ByteArray.empty]) 3 32 Tryz.underlying132 hi0 hz0 hz1 hz2 rfl (by omega) _ _ _ rfl hown1 ⟨wr.heap.size, 0, none⟩ 1 1 [.int .i64 op, .int .i64 id, .string D] rfl rfl (hnw _) (by intro u hu; simp only [List.mem_cons, List.not_mem_nil, or_false] at hu; obtain rfl | rfl | rfl := hu <;> rfl) (by unfold maxLen; omega) (by omega) (by simp; omega) ?_; intro v' w3 hown3 hgrow _)
   obtain ⟨A', c', rfl⟩ := own_form hown3
   have q3' : Blk w3 d 128 #[.int .i64 op, .int .i64 id, .string D] := (hq.alloc _).kept (hgrow.block d (by simp; omega) (fun e => by have := (hown1.lt _ e.symm).1; omega))
   have k3 := below_append (hbe.alloc hbe.size _) hown1 (by omega) (by omega) hgrow
   clear hgrow hown1 hown hq q1 q2 q3 hbe
   go_wp2_with fail
   refine (hD w3).mono ?_
   rintro e w4 ⟨rfl, hb4⟩
   have q4 := q3'.below hb4
   have hown4 := own_below hown3 hb4
   have k4 := k3.trans (hb4.mono k3.size)
   obtain ⟨y1, y2, y3, g1, g2, g3⟩ := q4.c3
   clear hD hb4 q3' k3 hown3
   go_wp2_with fail
   go_roundw
   case rel =>
    refine ⟨l ++ [r], p', o', hsz, HS.out, Ho'.out, rfl, rfl, rfl, ?_, ?_, ((k4.setCell (p := ⟨d, 0, none⟩) hdw _).setCell (p := ⟨d, 1, none⟩) hdw _).setCell (p := ⟨d, 2, none⟩) hdw _⟩
    ·have q5 := ((q4.set_ 0 (.int .i64 x')).set_ 1 (.int .i64 y')).set_ 2 (.string z')
     simp only [List.setIfInBounds_toArray, List.set_cons_succ, List.set_cons_zero] at q5
     rw [Hr'.out]
     exact q5
    ·rw [List.length_append, List.length_singleton, HSN.out]
     exact own_besides hown4 ((((Besides.refl d w4).set_ 0 _).set_ 1 _).set_ 2 _) (by omega)
   case measure => simp [intOf]; omega
end Go.Proofs.YtmebjdbkngehiaaGreatDoor
