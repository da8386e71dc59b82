/-
  Package postriderref17 (the document's answer for frames): Right, Encode, Decode. Conditions: texts below a million bytes.
-/
import Derived.Test.YtlabmomehjfjdaaDoorFrC
import Derived.Test.YtlabmomehjfjdaaDoorCrcG
namespace Go.Proofs.YtlabmomehjfjdaaDoor
open Go.RowKit

theorem rFRight_any (op id : Int) (d : ByteArray) (w : World) :
    Calls Tryd.prog 18 #[recV op id d] w (Ret (.bool (rightV op id d)) w) := by
  have hR := fun w' => rRight_any id w'
  unfold recV rightV
  generalize okNum id = b at *
  by_cases h1 : 1 ≤ op
  · by_cases h2 : op ≤ 9
    · cases b
      · go_enter Tryd.func18, Tryd.ntmps18
        go_wp2_with (refine (hR _).mono ?_; rintro e w1 ⟨rfl, rfl⟩)
        go_ret
        exact ⟨by first | (simp [h1]; done) | (simp; omega), ext_new w _⟩
      · by_cases h3 : d.size ≤ 2000
        all_goals
          go_enter Tryd.func18, Tryd.ntmps18
          go_wp2_with (refine (hR _).mono ?_; rintro e w1 ⟨rfl, rfl⟩)
          go_ret
          exact ⟨by first | (simp [h1, h2]; done) | (simp [h1, h2]; omega), ext_new w _⟩
    · go_enter Tryd.func18, Tryd.ntmps18
      go_wp2_with fail
      go_ret
      exact ⟨by first | (simp [h1]; done) | (simp; omega), ext_new w _⟩
  · go_enter Tryd.func18, Tryd.ntmps18
    go_wp2_with fail
    go_ret
    exact ⟨by first | (simp [h1]; done) | (simp; omega), ext_new w _⟩

set_option maxRecDepth 100000 in
theorem rFEncode_no (op id : Int) (d : ByteArray) (w : World) (h : rightV op id d = false) :
    Calls Tryd.prog 14 #[recV op id d] w (Ret (.tuple #[.string ByteArray.empty, .int .i64 170]) w) := by
  have hR := fun w' => rFRight_any op id d w'
  rw [h] at hR
  unfold recV at hR ⊢
  go_enter Tryd.func14, Tryd.ntmps14
  go_wp2_with fail
  refine (hR _).mono ?_
  rintro e w1 ⟨rfl, hb1⟩
  go_wp2_with fail
  go_ret2
  exact ⟨rfl, ext_trans (ext_new w _) hb1⟩

set_option maxRecDepth 100000 in
theorem rFEncode_ok (op id : Int) (d : ByteArray) (w : World) (h : rightV op id d = true) :
    Calls Tryd.prog 14 #[recV op id d] w (Ret (.tuple #[.string ⟨(frameL ⟨op.toNat, id.toNat, d.data.toList⟩).toArray⟩, .int .i64 0]) w) := by
  obtain ⟨h1, h2, h3, h4⟩ := rightV_iff.1 h
  obtain ⟨o, rfl⟩ := Int.eq_ofNat_of_zero_le (show 0 ≤ op by omega)
  have hR := fun w' => rFRight_any (o : Int) id d w'
  rw [h] at hR
  have hB1 := fun w' => rBytes_any id 6 w'
  have hB2 := fun w' => rBytes_any (d.size : Int) 2 w'
  rw [bytes6 h3] at hB1
  rw [bytes2 d.size h4] at hB2
  have hS := fun w' => rOf_2 ⟨(fbody ⟨o, id.toNat, d.data.toList⟩).toArray⟩ w' (by rw [fbody_size]; show 10 + d.data.toList.length ≤ _; rw [Array.length_toList]; show 10 + d.size ≤ _; omega)
  unfold recV at hR ⊢
  dsimp only at hB1 hB2
  go_enter Tryd.func14, Tryd.ntmps14
  go_wp2_with fail
  refine (hR _).mono ?_
  rintro e w1 ⟨rfl, hb1⟩
  have p1 := (Blk.new_ w 23 #[.int .i64 (o : Int), .int .i64 id, .string d]).below hb1
  have hb1 := ext_trans (ext_new w _) hb1
  have c1 := p1.cell 1
  simp only [List.getElem?_toArray, List.getElem?_cons_zero, List.getElem?_cons_succ] at c1
  go_wp2_with fail
  refine (hB1 _).mono ?_
  rintro e w2 ⟨rfl, hb2'⟩
  have p2 := p1.below hb2'
  have hb2 := ext_trans hb1 hb2'
  clear hb1 hb2' p1 c1
  have c2 := p2.cell 2
  simp only [List.getElem?_toArray, List.getElem?_cons_zero, List.getElem?_cons_succ] at c2
  go_wp2_with fail
  refine (hB2 _).mono ?_
  rintro e w3 ⟨rfl, hb3'⟩
  have p3 := p2.below hb3'
  have hb3 := ext_trans hb2 hb3'
  clear hb2 hb3' p2 c2
  have c0 := p3.cell 0
  have c2 := p3.cell 2
  simp only [List.getElem?_toArray, List.getElem?_cons_zero, List.getElem?_cons_succ] at c0 c2
  have hcv := conv_b (w3.alloc (.cells #[.int .u8 (o : Int)] 5)) w3.heap.size o (by omega) (Blk.new_ _ _ _)
  have c2' := (p3.alloc (.cells #[.int .u8 (o : Int)] 5)).cell 2
  simp only [List.getElem?_toArray, List.getElem?_cons_zero, List.getElem?_cons_succ] at c2'
  have hcat := cat_body o id.toNat d
  have hs6 : (⟨(digits 6 id.toNat).toArray⟩ : ByteArray).size = 6 := by rw [size_of, digits_length]
  have hs2 : (⟨(digits 2 d.size).toArray⟩ : ByteArray).size = 2 := by rw [size_of, digits_length]
  have hfr : (⟨#[225]⟩ : ByteArray) ++ ⟨#[UInt8.ofNat o]⟩ ++ ⟨(digits 6 id.toNat).toArray⟩ ++ ⟨(digits 2 d.size).toArray⟩ ++ d = ⟨(fbody ⟨o, id.toNat, d.data.toList⟩).toArray⟩ := by
    rw [← hcat]
    apply ba_eq
    simp [catL, ByteArray.data_append]
  have hfr2 : (⟨(frameL ⟨o, id.toNat, d.data.toList⟩).toArray⟩ : ByteArray) = ⟨(fbody ⟨o, id.toNat, d.data.toList⟩).toArray⟩ ++ ⟨(sumB true (fbody ⟨o, id.toNat, d.data.toList⟩)).toArray⟩ := by
    apply ByteArray.ext
    rw [ByteArray.data_append]
    show (frameL _).toArray = (fbody _).toArray ++ (sumB true (fbody _)).toArray
    rw [List.append_toArray]
    rfl
  have hsz := fbody_size ⟨o, id.toNat, d.data.toList⟩
  have hd2 : d.data.toList.length = d.size := by rw [Array.length_toList]; rfl
  rw [show (RecN.mk o id.toNat d.data.toList).data = d.data.toList from rfl, hd2] at hsz
  have hsz2 : (⟨(sumB true (fbody ⟨o, id.toNat, d.data.toList⟩)).toArray⟩ : ByteArray).size = 4 := by
    rw [size_of]
    exact digits_length _ _
  have HFR := Lib.hid hfr
  have HFR2 := Lib.hid hfr2
  clear hfr hfr2 hcat hd2
  generalize (⟨(fbody ⟨o, id.toNat, d.data.toList⟩).toArray⟩ : ByteArray) = F at *
  generalize (⟨(sumB true (fbody ⟨o, id.toNat, d.data.toList⟩)).toArray⟩ : ByteArray) = G at *
  generalize (⟨(digits 6 id.toNat).toArray⟩ : ByteArray) = B6 at *
  generalize (⟨(digits 2 d.size).toArray⟩ : ByteArray) = B2 at *
  go_wp2_with fail
  rw [HFR.out]
  have hb4 : Below w.heap.size w (w3.alloc (.cells #[.int .u8 (o : Int)] 5)) := ext_alloc hb3 _
  refine (hS _).mono ?_
  rintro e w5 ⟨rfl, hb5'⟩
  have hb6 := ext_trans hb4 hb5'
  clear hb4 hb5'
  have u1 : ¬ (9223372036854775807 < F.size + G.size) := by omega
  go_wp2_with fail
  go_ret2
  exact ⟨by rw [Int.toNat_natCast, HFR2.out]; rfl, hb6⟩

theorem rFEncode_any (op id : Int) (d : ByteArray) (w : World) :
    Calls Tryd.prog 14 #[recV op id d] w (Ret (.tuple #[.string (encV op id d).1, .int .i64 (encV op id d).2]) w) := by
  rcases bool_cases (rightV op id d) with h | h
  · rw [encV, if_neg (by rw [h]; decide)]
    exact rFEncode_no op id d w h
  · rw [encV, if_pos h]
    exact rFEncode_ok op id d w h

theorem wd_ {p s n : Nat} (h : p + 2 ≤ s) (hs : s ≤ 1000000) (hn : n ≤ 2014) : wrap64 ((p : Int) + (n : Int)) = (p : Int) + (n : Int) := IntWalk.wrap64_in _ ⟨by omega, by omega⟩
theorem p8_ {p s : Nat} (h : p + 2 ≤ s) (hs : s ≤ 1000000) : (p : Int) ≤ 1000000 := by omega
set_option maxRecDepth 100000 in
set_option maxHeartbeats 4000000 in
theorem rFDecode_any (s : ByteArray) (a : Int) (w : World) (hs : s.size ≤ 1000000) :
    Calls Tryd.prog 16 #[.string s, .int .i64 a] w (Ret (decR (frV s a) a) w) := by
  have T0 := fun w' => rTake_any s a 2 w' (by omega) (by omega) (by omega)
  have F := fr_facts s a
  rcases F with ⟨F1, F2⟩ | ⟨p, X, rfl, hp, hX, F1, F⟩
  · rw [F2]
    generalize takeV s a 2 = x at *
    obtain ⟨v, e⟩ := x
    dsimp only at F1 T0
    clear F2
    go_enter Tryd.func16, Tryd.ntmps16
    go_wp2_with (refine (T0 _).mono ?_; rintro e0 wp ⟨rfl, rfl⟩)
    exact bodyPost_ret (v := .tuple #[.agg #[.int .i64 0, .int .i64 0, .string ByteArray.empty], .int .i64 0, .bool false]) (by simp [results, Tryd.results16, go_sem]; try rfl) rfl ⟨rfl, ext_new w _⟩
  · rw [F1] at T0
    dsimp only at T0
    have T6 := fun w' => rTake_any s ((p : Int) + 2) 6 w' (by omega) (by omega) (by omega)
    have T2 := fun w' => rTake_any s ((p : Int) + 8) 2 w' (by omega) (by omega) (by omega)
    have wa : wrap64 ((p : Int) + 2) = (p : Int) + 2 := by unfold wrap64; omega
    have wb : wrap64 ((p : Int) + 8) = (p : Int) + 8 := by unfold wrap64; omega
    have wc : wrap64 ((p : Int) + 10) = (p : Int) + 10 := by unfold wrap64; omega
    have hX2 : ((X : Int)).tmod 256 = ((X % 256 : Nat) : Int) := by rw [Int.tmod_eq_emod_of_nonneg (by omega)]; omega
    obtain ⟨o, ho⟩ : ∃ o, X % 256 = o := ⟨_, rfl⟩
    rw [ho] at F hX2
    have ho2 : o < 256 := by omega
    clear ho F1
    rcases F with ⟨F1, F2⟩ | ⟨I, N, hI6, hN, hp10, F1, F3, F⟩
    · rw [F2]
      rw [F1] at T2
      dsimp only at T2
      generalize takeV s ((p : Int) + 2) 6 = x6 at *
      obtain ⟨v6, e6⟩ := x6
      dsimp only at T6
      clear F1 F2
      go_enter Tryd.func16, Tryd.ntmps16
      go_wp2_with fail
      refine (T0 _).mono ?_
      rintro e0 wp ⟨rfl, rfl⟩
      go_wp2_with fail
      refine (T6 _).mono ?_
      rintro e0 wp ⟨rfl, rfl⟩
      go_wp2_with fail
      refine (T2 _).mono ?_
      rintro e0 wp ⟨rfl, rfl⟩
      go_wp2_with fail
      all_goals exact bodyPost_ret (v := .tuple #[.agg #[.int .i64 0, .int .i64 0, .string ByteArray.empty], .int .i64 0, .bool false]) (by simp [results, Tryd.results16, go_sem]; try rfl) rfl ⟨rfl, ext_new w _⟩
    · rw [F1] at T6
      rw [F3] at T2
      dsimp only at T2 T6
      have HC := fun w' => rCut_any s ((p : Int) + 10) (N : Int) w' (by omega) (by omega) (by omega)
      clear F1 F3
      rcases F with ⟨F1, F2⟩ | ⟨D, F1, hDs, F⟩
      · rw [F2]
        rw [F1] at HC
        dsimp only at HC
        clear F1 F2
        go_enter Tryd.func16, Tryd.ntmps16
        go_wp2_with fail
        refine (T0 _).mono ?_
        rintro e0 wp ⟨rfl, rfl⟩
        go_wp2_with fail
        refine (T6 _).mono ?_
        rintro e0 wp ⟨rfl, rfl⟩
        go_wp2_with fail
        refine (T2 _).mono ?_
        rintro e0 wp ⟨rfl, rfl⟩
        go_wp2_with fail
        refine (HC _).mono ?_
        rintro e0 wp ⟨rfl, rfl⟩
        go_wp2_with fail
        exact bodyPost_ret (v := .tuple #[.agg #[.int .i64 0, .int .i64 0, .string ByteArray.empty], .int .i64 0, .bool false]) (by simp [results, Tryd.results16, go_sem]; try rfl) rfl ⟨rfl, ext_new w _⟩
      · rw [F1] at HC
        dsimp only at HC
        clear F1
        have HE := fun w' => rFEncode_any (o : Int) (I : Int) D w'
        unfold recV at HE
        obtain ⟨⟨Fr, eF⟩, hev⟩ : ∃ z, encV (o : Int) (I : Int) D = z := ⟨_, rfl⟩
        rw [hev] at HE F
        clear hev
        have hFr : Fr.size ≤ 2014 := by
          rcases F with ⟨F1, -⟩ | ⟨F0, F1, -, F3, -⟩
          · injection F1 with F1 _
            rw [F1]
            show 0 ≤ _
            omega
          · injection F1 with F1 _
            rw [F1]
            exact F3
        have HC2 := fun w' => rCut_any s (p : Int) (Fr.size : Int) w' (by omega) (by omega) (by omega)
        dsimp only at HE
        go_enter Tryd.func16, Tryd.ntmps16
        go_wp2_with fail
        refine (T0 _).mono ?_
        rintro e0 wp ⟨rfl, rfl⟩
        go_wp2_with fail
        refine (T6 _).mono ?_
        rintro e0 wp ⟨rfl, rfl⟩
        go_wp2_with fail
        refine (T2 _).mono ?_
        rintro e0 wp ⟨rfl, rfl⟩
        go_wp2_with fail
        refine (HC _).mono ?_
        rintro e0 wp ⟨rfl, rfl⟩
        go_wp2_with fail
        refine (HE _).mono ?_
        rintro e w1 ⟨rfl, hb1'⟩
        have q := (Blk.new_ (w.alloc (.cells #[.int .i64 0, .int .i64 0, .string ⟨#[]⟩] 23)) 23 #[.int .i64 (o : Int), .int .i64 (I : Int), .string D]).below hb1'
        have q0 := (((Blk.new_ w 23 #[.int .i64 0, .int .i64 0, .string ⟨#[]⟩]).alloc (.cells #[.int .i64 (o : Int), .int .i64 (I : Int), .string D] 23)).below hb1')
        have hb1 := ext_trans (ext_alloc (ext_new w (.cells #[.int .i64 0, .int .i64 0, .string ⟨#[]⟩] 23)) (.cells #[.int .i64 (o : Int), .int .i64 (I : Int), .string D] 23)) hb1'
        clear hb1'
        rw [World.size_alloc] at q
        obtain ⟨y0, y1, y2, -⟩ := q.c3
        obtain ⟨x0, x1, x2, g0, g1, g2⟩ := q0.c3
        go_wp2_with fail
        refine (HC2 _).mono ?_
        rintro e0 wp ⟨rfl, rfl⟩
        rcases F with ⟨F1, F2⟩ | ⟨F0, F1, hFs, hFs2, F⟩
        · injection F1 with F3 F4
          subst F3 F4
          generalize cutV s (p : Int) _ = x at *
          obtain ⟨G, e⟩ := x
          dsimp only
          go_wp2_with fail
          exact bodyPost_ret (v := .tuple #[.agg #[.int .i64 0, .int .i64 0, .string ByteArray.empty], .int .i64 0, .bool false]) (by simp [results, Tryd.results16, go_sem, x0, x1, x2]; try rfl) rfl ⟨by first | (rw [F2]; rfl) | rfl, ((hb1.setCell (by simp) _).setCell (by simp) _).setCell (by simp) _⟩
        · injection F1 with F3 F4
          subst F3 F4
          rcases F with ⟨F1, F2⟩ | ⟨G, F1, F⟩
          · rw [F1]
            dsimp only
            go_wp2_with fail
            exact bodyPost_ret (v := .tuple #[.agg #[.int .i64 0, .int .i64 0, .string ByteArray.empty], .int .i64 0, .bool false]) (by simp [results, Tryd.results16, go_sem, x0, x1, x2]; try rfl) rfl ⟨by first | (rw [F2]; rfl) | rfl, ((hb1.setCell (by simp) _).setCell (by simp) _).setCell (by simp) _⟩
          · rw [F1]
            dsimp only
            rcases F with ⟨F1, F2⟩ | ⟨F1, F2⟩
            · have F3 : (Fr.toList == G.toList) = false := by
                rw [beq_eq_false_iff_ne] at F1 ⊢
                exact fun h => F1 h.symm
              go_wp2_with fail
              exact bodyPost_ret (v := .tuple #[.agg #[.int .i64 0, .int .i64 0, .string ByteArray.empty], .int .i64 0, .bool false]) (by simp [results, Tryd.results16, go_sem, x0, x1, x2]; try rfl) rfl ⟨by first | (rw [F2]; rfl) | rfl, ((hb1.setCell (by simp) _).setCell (by simp) _).setCell (by simp) _⟩
            · have hlen : D.data.toList.length = N := by rw [list_size, hDs]
              have F3 : (Fr.toList == G.toList) = true := by rw [F1]; exact beq_self_eq_true _
              have wd : wrap64 ((p : Int) + (Fr.size : Int)) = (p : Int) + (Fr.size : Int) := wd_ hp hs hFs2
              have HFS := Lib.hid hFs
              have HF := Lib.hid F2
              have hp7 : (Fr.size : Int) ≤ 2014 := by exact_mod_cast hFs2
              have hp8 : (p : Int) ≤ 1000000 := p8_ hp hs
              have hp0 : (0 : Int) ≤ (p : Int) := Int.natCast_nonneg _
              clear F2 F1
              have HL := Lib.hid hlen
              clear hFs hlen hDs hX2 wa wb wc T0 T2 T6 HC HE HC2 hX ho2 hI6 hN hp10
              go_wp2_with fail
              exact bodyPost_ret (v := .tuple #[.agg #[.int .i64 (o : Int), .int .i64 (I : Int), .string D], .int .i64 ((p : Int) + (Fr.size : Int)), .bool true]) (by simp [results, Tryd.results16, go_sem, x0, x1, x2]) rfl ⟨by rw [HF.out]; unfold decR; dsimp only; rw [HL.out, HFS.out], by first | exact ((hb1.setCell (by simp) _).setCell (by simp) _).setCell (by simp) _ | exact hb1⟩

end Go.Proofs.YtlabmomehjfjdaaDoor
