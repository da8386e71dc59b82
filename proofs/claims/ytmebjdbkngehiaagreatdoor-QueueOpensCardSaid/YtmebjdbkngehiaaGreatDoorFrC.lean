/-
  Package frame: the record whose frame stands at a place (frame, Decode). Conditions: the listed variables hold what 'CInv' says.
-/
import Derived.Test.YtmebjdbkngehiaaGreatDoorQgH
import Derived.Test.YtmebjdbkngehiaaGreatDoorQgA
import Derived.Lib.Strings
import Derived.Laws.BitsLemmas
import Derived.IntWalk
namespace Go.Proofs.YtmebjdbkngehiaaGreatDoor
open Go.RowKit
set_option maxHeartbeats 40000000
def frV (s : ByteArray) (a : Int) : Option RecN := if a < 0 ∨ (s.size : Int) < a then none else decF (s.data.toList.drop a.toNat)
theorem frV_nat (s : ByteArray) (p : Nat) (h : p ≤ s.size) : frV s (p : Int) = decF (s.data.toList.drop p) := by rw [frV, if_neg (by omega), Int.toNat_natCast]
theorem ba_eq {a b : ByteArray} (h : a.data.toList = b.data.toList) : a = b := by
 apply ByteArray.ext
 rw [← Array.toArray_toList (xs := a.data), h, Array.toArray_toList]
theorem list_size (s : ByteArray) : s.data.toList.length = s.size := by rw [Array.length_toList]; rfl
theorem size_of (l : List UInt8) : (⟨l.toArray⟩ : ByteArray).size = l.length := by show l.toArray.size = _; simp
theorem take_at (s : ByteArray) (p k : Nat) (h1 : 1 ≤ k) (h6 : k ≤ 6) (h : p + k ≤ s.size) : takeV s (p : Int) (k : Int) = ((val ((s.data.toList.drop p).take k) : Int), 0) := by
 have hw : okWidth (k : Int) = true := okWidth_iff.2 ⟨by omega, by omega⟩
 have hi : okWithin s.size (p : Int) (k : Int) = true := okWithin_iff.2 ⟨by omega, by omega, by omega, by omega⟩
 have hv : val ((s.data.toList.drop p).take k) ≤ 281474976710655 := by
  have h1 := val_lt ((s.data.toList.drop p).take k)
  have h2 : 256 ^ ((s.data.toList.drop p).take k).length ≤ 256 ^ 6 := Nat.pow_le_pow_right (by omega) (by rw [List.length_take]; omega)
  omega
 rw [takeV_ok hw hi, Int.toNat_natCast, Int.toNat_natCast, takeN, takeE, if_pos hv, if_pos hv]
theorem take_short (s : ByteArray) (a : Int) (k : Nat) (h1 : 1 ≤ k) (h8 : k ≤ 8) (h : a < 0 ∨ (s.size : Int) < a + k) : takeV s a (k : Int) = (0, 11) := by
 have hw : okWidth (k : Int) = true := okWidth_iff.2 ⟨by omega, by omega⟩
 rcases bool_cases (okWithin s.size a (k : Int)) with hi | hi
 ·exact takeV_short hw hi
 ·have := okWithin_iff.1 hi; omega
theorem cut_at (s : ByteArray) (p k : Nat) (h : p + k ≤ s.size) : cutV s (p : Int) (k : Int) = (s.extract p (p + k), 0) := by
 have hi : okWithin s.size (p : Int) (k : Int) = true := okWithin_iff.2 ⟨by omega, by omega, by omega, by omega⟩
 rw [cutV_ok hi, Int.toNat_natCast, ← Int.natCast_add, Int.toNat_natCast]
theorem cut_short (s : ByteArray) (p k : Nat) (h : s.size < p + k) : cutV s (p : Int) (k : Int) = (ByteArray.empty, 11) := by
 rcases bool_cases (okWithin s.size (p : Int) (k : Int)) with hi | hi
 ·exact cutV_no hi
 ·have := okWithin_iff.1 hi; omega
theorem fr_facts (s : ByteArray) (a : Int) :
  (((takeV s a 2).2 == 0) = false ∧ frV s a = none) ∨
  ∃ p X : Nat, a = (p : Int) ∧ p + 2 ≤ s.size ∧ X < 65536 ∧ takeV s (p : Int) 2 = ((X : Int), 0) ∧
   ((takeV s ((p : Int) + 8) 2 = (0, 11) ∧ frV s (p : Int) = none) ∨
    ∃ I N : Nat, I ≤ 281474976710655 ∧ N < 65536 ∧ p + 10 ≤ s.size ∧ takeV s ((p : Int) + 2) 6 = ((I : Int), 0) ∧ takeV s ((p : Int) + 8) 2 = ((N : Int), 0) ∧
     ((cutV s ((p : Int) + 10) (N : Int) = (ByteArray.empty, 11) ∧ frV s (p : Int) = none) ∨
     ∃ D : ByteArray, cutV s ((p : Int) + 10) (N : Int) = (D, 0) ∧ D.size = N ∧
      ((encV ((X % 256 : Nat) : Int) (I : Int) D = (ByteArray.empty, 170) ∧ frV s (p : Int) = none) ∨
       ∃ F : ByteArray, encV ((X % 256 : Nat) : Int) (I : Int) D = (F, 0) ∧ F.size = 14 + N ∧ F.size ≤ 2014 ∧
        ((cutV s (p : Int) (F.size : Int) = (ByteArray.empty, 11) ∧ frV s (p : Int) = none) ∨
        ∃ G : ByteArray, cutV s (p : Int) (F.size : Int) = (G, 0) ∧ (((G.toList == F.toList) = false ∧ frV s (p : Int) = none) ∨ (G = F ∧ frV s (p : Int) = some ⟨X % 256, I, D.data.toList⟩)))))) := by
 have hz := list_size s
 by_cases h0 : a < 0 ∨ (s.size : Int) < a + 2
 ·refine .inl ⟨by rw [show (2 : Int) = ((2 : Nat) : Int) from rfl, take_short s a 2 (by omega) (by omega) h0]; rfl, ?_⟩
  rw [frV]
  by_cases c : a < 0 ∨ (s.size : Int) < a
  ·rw [if_pos c]
  ·rw [if_neg c, decF, if_neg]
   rintro ⟨h1, -⟩
   rw [List.length_drop] at h1
   omega
 ·obtain ⟨p, rfl⟩ := Int.eq_ofNat_of_zero_le (show 0 ≤ a by omega)
  have hp2 : p + 2 ≤ s.size := by omega
  have hX : val ((s.data.toList.drop p).take 2) < 65536 := by
   have h1 := val_lt ((s.data.toList.drop p).take 2)
   rw [List.length_take, List.length_drop, hz, Nat.min_eq_left (by omega)] at h1
   exact h1
  refine .inr ⟨p, _, rfl, hp2, hX, take_at s p 2 (by omega) (by omega) hp2, ?_⟩
  by_cases h1 : s.size < p + 10
  ·refine .inl ⟨?_, ?_⟩
   ·have := take_short s ((p : Int) + 8) 2 (by omega) (by omega) (by omega)
    exact this
   ·rw [frV_nat s p (by omega), decF, if_neg]
    rintro ⟨h1, -⟩
    rw [List.length_drop] at h1
    omega
  ·have e2 : s.data.toList.drop (p + 2) = (s.data.toList.drop p).drop 2 := by rw [List.drop_drop]
   have e8 : s.data.toList.drop (p + 8) = (s.data.toList.drop p).drop 8 := by rw [List.drop_drop]
   have e10 : s.data.toList.drop (p + 10) = (s.data.toList.drop p).drop 10 := by rw [List.drop_drop]
   have t6 := take_at s (p + 2) 6 (by omega) (by omega) (by omega)
   have t2 := take_at s (p + 8) 2 (by omega) (by omega) (by omega)
   rw [e2] at t6
   rw [e8] at t2
   have hlen : (s.data.toList.drop p).length = s.size - p := by rw [List.length_drop, hz]
   have hfv := frV_nat s p (by omega)
   generalize hl : s.data.toList.drop p = l at *
   have hI : val ((l.drop 2).take 6) ≤ 281474976710655 := by
    have h1 := val_lt ((l.drop 2).take 6)
    have h2 : 256 ^ ((l.drop 2).take 6).length ≤ 256 ^ 6 := Nat.pow_le_pow_right (by omega) (by rw [List.length_take]; omega)
    omega
   have hN : val ((l.drop 8).take 2) < 65536 := by
    have h1 := val_lt ((l.drop 8).take 2)
    rw [List.length_take, List.length_drop, hlen, Nat.min_eq_left (by omega)] at h1
    exact h1
   refine .inr ⟨_, _, hI, hN, by omega, t6, t2, ?_⟩
   rw [hfv, decF]
   obtain ⟨R, hR⟩ : ∃ R, roughF l = R := ⟨_, rfl⟩
   have hRo : R.op = val (l.take 2) % 256 := by rw [← hR]; rfl
   have hRi : R.id = val ((l.drop 2).take 6) := by rw [← hR]; rfl
   have hRd : R.data = (l.drop 10).take (val ((l.drop 8).take 2)) := by rw [← hR]; rfl
   rw [hR]
   clear t6 t2 hfv
   generalize val (l.take 2) = X at *
   generalize val ((l.drop 2).take 6) = I at *
   generalize val ((l.drop 8).take 2) = N at *
   by_cases h2 : s.size < p + 10 + N
   ·refine .inl ⟨cut_short s (p + 10) N h2, ?_⟩
    rw [if_neg]
    rintro ⟨-, h1, -⟩
    omega
   ·have hD := extract_list s (p + 10) N
    rw [e10, ← hRd] at hD
    have hDs : (s.extract (p + 10) (p + 10 + N)).size = N := by rw [ByteArray.size_extract]; omega
    refine .inr ⟨_, cut_at s (p + 10) N (by omega), hDs, ?_⟩
    generalize s.extract (p + 10) (p + 10 + N) = D at *
    have hds := list_size D
    rw [hDs, hD] at hds
    have hRR : R = ⟨X % 256, I, D.data.toList⟩ := by rw [hD, ← hRo, ← hRi]
    have hok : okRec R ↔ rightV ((X % 256 : Nat) : Int) (I : Int) D = true := by
     rw [rightV_iff, okNum_iff, okRec, hRo, hRi, hds, hDs]
     omega
    by_cases h3 : okRec R
    ·have hr := hok.1 h3
     have hfl := frameL_length R
     rw [hds] at hfl
     have h4 := h3.2.2.2
     have he : encV ((X % 256 : Nat) : Int) (I : Int) D = (⟨(frameL R).toArray⟩, 0) := by
      rw [encV, if_pos hr, Int.toNat_natCast, Int.toNat_natCast, ← hRR]
     have hFs : (⟨(frameL R).toArray⟩ : ByteArray).size = 14 + N := by rw [size_of, hfl]
     refine .inr ⟨_, he, hFs, by rw [hFs]; omega, ?_⟩
     rw [hFs]
     by_cases h5 : s.size < p + (14 + N)
     ·refine .inl ⟨cut_short s p (14 + N) h5, ?_⟩
      rw [if_neg]
      rintro ⟨-, -, -, h6⟩
      have := congrArg List.length h6
      rw [List.length_take, hfl, hlen] at this
      omega
     ·refine .inr ⟨_, cut_at s p (14 + N) (by omega), ?_⟩
      have hG : (s.extract p (p + (14 + N))).data.toList = l.take (frameL R).length := by rw [extract_list, hl, hfl]
      generalize s.extract p (p + (14 + N)) = G at *
      by_cases h6 : l.take (frameL R).length = frameL R
      ·refine .inr ⟨ba_eq (by rw [hG, h6]), ?_⟩
       rw [if_pos ⟨by omega, by omega, h3, h6⟩, hRR]
      ·refine .inl ⟨?_, by rw [if_neg (fun h => h6 h.2.2.2)]⟩
       rw [Lib.toList_data, Lib.toList_data, hG]
       simpa using h6
    ·refine .inl ⟨?_, by rw [if_neg (fun h => h3 h.2.2.1)]⟩
     rw [encV, if_neg (fun h => h3 (hok.2 h))]
def frR (o : Option RecN) (a : Int) : Value := match o with
 | none => .agg #[.int .i64 0, .int .i64 0, .string ByteArray.empty, .int .i64 0, .bool false]
 | some r => .agg #[.int .i64 (r.op : Int), .int .i64 (r.id : Int), .string ⟨r.data.toArray⟩, .int .i64 (a + ((14 + r.data.length : Nat) : Int)), .bool true]
theorem wr62 (n : Int) (h0 : 0 ≤ n) (h1 : n < 2 ^ 62) : IntKind.i64.wrap n = n := IntWalk.i64_in n (by omega)
theorem and255 (a : Nat) (ha : a < 2 ^ 62) : bits .and .i64 (a : Int) 255 = ((a % 256 : Nat) : Int) := by
 have := (bits_nat .i64 62 (by decide) wr62 a 255 ha (by decide)).1
 rw [show (255 : Nat) = 2 ^ 8 - 1 from rfl, Nat.and_two_pow_sub_one_eq_mod] at this
 exact this
set_option maxRecDepth 100000 in
theorem frame_any (s : ByteArray) (a : Int) (w : World) (aA aT aN aW aS : Addr) (hI : CInv w aA aT aN aW aS) (hs : s.size ≤ 1000000) :
  Calls Tryz.prog 152 #[.agg #[.string s], .int .i64 a] w (Ret (frR (frV s a) a) w) := by
 have T0 := fun w' h' => take_any s a 2 w' aN aW aS h' (by omega) (by omega) (by omega)
 have F := fr_facts s a
 go_enter Tryz.func152, Tryz.ntmps152
 go_wp2_with fail
 refine wp_scope_once 0 rfl ?_
 go_wp2_with fail
 obtain ⟨d, hd⟩ : ∃ d, w.heap.size = d := ⟨_, rfl⟩
 generalize hW0 : ((((w.alloc (.cells #[.string s] 198)).alloc (.cells #[.int .i64 0, .int .i64 0, .string ⟨#[]⟩, .int .i64 0, .bool false] 237)).alloc (.cells #[.int .i64 0, .int .i64 0, .string ⟨#[]⟩, .int .i64 0, .bool false] 237)).alloc (.cells #[.int .i64 0, .int .i64 0, .string ⟨#[]⟩] 128)).alloc (.cells #[.int .i64 0, .int .i64 0, .bool false] 267) = W0
 have hw : Below w.heap.size w W0 := by rw [← hW0]; exact ext_alloc (ext_alloc (ext_alloc (ext_alloc (ext_new w _) _) _) _) _
 have q0 : Blk W0 d 198 #[.string s] := by rw [← hW0]; exact ((((Blk.at_ hd.symm).alloc _).alloc _).alloc _).alloc _
 have q1 : Blk W0 (d + 1) 237 #[.int .i64 0, .int .i64 0, .string ⟨#[]⟩, .int .i64 0, .bool false] := by rw [← hW0]; exact (((Blk.at_ (by simp [hd])).alloc _).alloc _).alloc _
 have q2 : Blk W0 (d + 1 + 1) 237 #[.int .i64 0, .int .i64 0, .string ⟨#[]⟩, .int .i64 0, .bool false] := by rw [← hW0]; exact ((Blk.at_ (by simp [hd])).alloc _).alloc _
 have q3 : Blk W0 (d + 1 + 1 + 1) 128 #[.int .i64 0, .int .i64 0, .string ⟨#[]⟩] := by rw [← hW0]; exact (Blk.at_ (by simp [hd])).alloc _
 have q4 : Blk W0 (d + 1 + 1 + 1 + 1) 267 #[.int .i64 0, .int .i64 0, .bool false] := by rw [← hW0]; exact Blk.at_ (by simp [hd])
 rw [hd] at hw ⊢
 have HD := Lib.hid hd
 clear hd hW0
 rcases F with ⟨F1, F2⟩ | ⟨p, X, rfl, hp, hX, F1, F⟩
 ·have HF := Lib.hid F2
  refine (T0 _ (hI.below (HD.out ▸ hw)).nums).mono ?_
  rintro e w1 ⟨rfl, hb1⟩
  rw [F1]
  generalize (takeV s a 2).1 = v
  generalize wrap64 (a + 2) = nx
  replace hw : Below d w (w1.alloc (.cells #[.int .i64 v, .int .i64 nx, .bool false] 267)) := HD.out ▸ ext_alloc (ext_trans (HD.out ▸ hw) hb1) _
  replace q0 := (q0.below hb1).alloc (.cells #[.int .i64 v, .int .i64 nx, .bool false] 267)
  replace q1 := (q1.below hb1).alloc (.cells #[.int .i64 v, .int .i64 nx, .bool false] 267)
  replace q2 := (q2.below hb1).alloc (.cells #[.int .i64 v, .int .i64 nx, .bool false] 267)
  replace q3 := (q3.below hb1).alloc (.cells #[.int .i64 v, .int .i64 nx, .bool false] 267)
  replace q4 := (q4.below hb1).alloc (.cells #[.int .i64 v, .int .i64 nx, .bool false] 267)
  clear T0 F1 F2
  obtain ⟨y0, y1, y2, y3, y4, -⟩ := q2.c5
  obtain ⟨x0, x1, x2, x3, x4, g0, g1, g2, g3, g4⟩ := q1.c5
  clear q0 q1 q2 q3 q4
  go_wp2_with fail
  go_step3
  refine ⟨rfl, ?_⟩
  go_wp2_with fail
  try simp only [Exit.noGoto_ret]
  exact bodyPost_ret (v := .agg #[.int .i64 0, .int .i64 0, .string ⟨#[]⟩, .int .i64 0, .bool false]) (by simp [results, Tryz.results152, go_sem, x0, x1, x2, x3, x4]) rfl ⟨by rw [HF.out]; rfl, by rw [HD.out]; exact ((((hw.setCell (by simp) _).setCell (by simp) _).setCell (by simp) _).setCell (by simp) _).setCell (by simp) _⟩
 ·have hv : wrap64 ((p : Int) + 2) = (p : Int) + 2 := by unfold wrap64; omega
  rw [F1, hv] at T0
  clear F1 hv
  refine (T0 _ (hI.below (HD.out ▸ hw)).nums).mono ?_
  rintro e w1 ⟨rfl, hb1⟩
  replace hw : Below d w (w1.alloc (.cells #[.int .i64 (X : Int), .int .i64 ((p : Int) + 2), .bool true] 267)) := HD.out ▸ ext_alloc (ext_trans (HD.out ▸ hw) hb1) _
  replace q0 := (q0.below hb1).alloc (.cells #[.int .i64 (X : Int), .int .i64 ((p : Int) + 2), .bool true] 267)
  replace q1 := (q1.below hb1).alloc (.cells #[.int .i64 (X : Int), .int .i64 ((p : Int) + 2), .bool true] 267)
  replace q2 := (q2.below hb1).alloc (.cells #[.int .i64 (X : Int), .int .i64 ((p : Int) + 2), .bool true] 267)
  replace q3 := (q3.below hb1).alloc (.cells #[.int .i64 (X : Int), .int .i64 ((p : Int) + 2), .bool true] 267)
  replace q4 := (q4.below hb1).alloc (.cells #[.int .i64 (X : Int), .int .i64 ((p : Int) + 2), .bool true] 267)
  have T6 := fun w' h' => take_any s ((p : Int) + 2) 6 w' aN aW aS h' (by omega) (by omega) (by omega)
  have T2 := fun w' h' => take_any s ((p : Int) + 8) 2 w' aN aW aS h' (by omega) (by omega) (by omega)
  rw [show wrap64 ((p : Int) + 2 + 6) = (p : Int) + 8 by unfold wrap64; omega] at T6
  rw [show wrap64 ((p : Int) + 8 + 2) = (p : Int) + 10 by unfold wrap64; omega] at T2
  have hX2 := and255 X (by omega)
  obtain ⟨o, ho⟩ : ∃ o, X % 256 = o := ⟨_, rfl⟩
  rw [ho] at F hX2
  clear ho T0 hb1
  obtain ⟨⟨v6, e6⟩, h6⟩ : ∃ z, takeV s ((p : Int) + 2) 6 = z := ⟨_, rfl⟩
  obtain ⟨⟨v2, e2⟩, h2⟩ : ∃ z, takeV s ((p : Int) + 8) 2 = z := ⟨_, rfl⟩
  rw [h6] at T6 F
  rw [h2] at T2 F
  clear h6 h2
  dsimp only at T6 T2
  have FH := Lib.hid F
  clear F
  obtain ⟨x0, -⟩ := q0.c1
  obtain ⟨y0, y1, y2, g0, g1, g2⟩ := q3.c3
  have hp8 : (p : Int) ≤ 1000000 := by omega
  have hp0 : (0 : Int) ≤ (p : Int) := by omega
  go_wp2_with fail
  clear x0 y0 y1 y2 g0 g1 g2
  replace q0 : Blk ((w1.alloc (.cells #[.int .i64 (X : Int), .int .i64 ((p : Int) + 2), .bool true] 267)).setCell ⟨d + 1 + 1 + 1, 0, none⟩ (.int .i64 (o : Int))) d _ _ := q0.set_other (by omega) 0 _
  replace q1 : Blk ((w1.alloc (.cells #[.int .i64 (X : Int), .int .i64 ((p : Int) + 2), .bool true] 267)).setCell ⟨d + 1 + 1 + 1, 0, none⟩ (.int .i64 (o : Int))) (d + 1) _ _ := q1.set_other (by omega) 0 _
  replace q2 : Blk ((w1.alloc (.cells #[.int .i64 (X : Int), .int .i64 ((p : Int) + 2), .bool true] 267)).setCell ⟨d + 1 + 1 + 1, 0, none⟩ (.int .i64 (o : Int))) (d + 1 + 1) _ _ := q2.set_other (by omega) 0 _
  replace q4 : Blk ((w1.alloc (.cells #[.int .i64 (X : Int), .int .i64 ((p : Int) + 2), .bool true] 267)).setCell ⟨d + 1 + 1 + 1, 0, none⟩ (.int .i64 (o : Int))) (d + 1 + 1 + 1 + 1) _ _ := q4.set_other (by omega) 0 _
  replace q3 := q3.set_ 0 (.int .i64 (o : Int))
  simp only [List.setIfInBounds_toArray, List.set_cons_zero] at q3
  replace hw : Below d w ((w1.alloc (.cells #[.int .i64 (X : Int), .int .i64 ((p : Int) + 2), .bool true] 267)).setCell ⟨d + 1 + 1 + 1, 0, none⟩ (.int .i64 (o : Int))) := hw.setCell (by simp; omega) _
  generalize (w1.alloc (.cells #[.int .i64 (X : Int), .int .i64 ((p : Int) + 2), .bool true] 267)).setCell ⟨d + 1 + 1 + 1, 0, none⟩ (.int .i64 (o : Int)) = V1 at *
  refine (T6 _ (hI.below (HD.out ▸ hw)).nums).mono ?_
  rintro e w2 ⟨rfl, hb2⟩
  replace hw : Below d w w2 := HD.out ▸ ext_trans (HD.out ▸ hw) hb2
  replace q0 := q0.below hb2
  replace q1 := q1.below hb2
  replace q2 := q2.below hb2
  replace q3 := q3.below hb2
  replace q4 := q4.below hb2
  clear T6 hb2
  obtain ⟨x0, -⟩ := q0.c1
  obtain ⟨y0, y1, y2, g0, g1, g2⟩ := q3.c3
  obtain ⟨z0, z1, z2, k0, k1, k2⟩ := q4.c3
  go_wp2_with fail
  clear x0 y0 y1 y2 g0 g1 g2 z0 z1 z2 k0 k1 k2
  replace q0 := ((((q0).set_other (g' := d + 1 + 1 + 1 + 1) (by omega) 0 (.int .i64 v6)).set_other (g' := d + 1 + 1 + 1 + 1) (by omega) 1 (.int .i64 ((p : Int) + 8))).set_other (g' := d + 1 + 1 + 1 + 1) (by omega) 2 (.bool (e6 == 0))).set_other (g' := d + 1 + 1 + 1) (by omega) 1 (.int .i64 v6)
  replace q1 := ((((q1).set_other (g' := d + 1 + 1 + 1 + 1) (by omega) 0 (.int .i64 v6)).set_other (g' := d + 1 + 1 + 1 + 1) (by omega) 1 (.int .i64 ((p : Int) + 8))).set_other (g' := d + 1 + 1 + 1 + 1) (by omega) 2 (.bool (e6 == 0))).set_other (g' := d + 1 + 1 + 1) (by omega) 1 (.int .i64 v6)
  replace q2 := ((((q2).set_other (g' := d + 1 + 1 + 1 + 1) (by omega) 0 (.int .i64 v6)).set_other (g' := d + 1 + 1 + 1 + 1) (by omega) 1 (.int .i64 ((p : Int) + 8))).set_other (g' := d + 1 + 1 + 1 + 1) (by omega) 2 (.bool (e6 == 0))).set_other (g' := d + 1 + 1 + 1) (by omega) 1 (.int .i64 v6)
  replace q3 := ((((q3).set_other (g' := d + 1 + 1 + 1 + 1) (by omega) 0 (.int .i64 v6)).set_other (g' := d + 1 + 1 + 1 + 1) (by omega) 1 (.int .i64 ((p : Int) + 8))).set_other (g' := d + 1 + 1 + 1 + 1) (by omega) 2 (.bool (e6 == 0))).set_ 1 (.int .i64 v6)
  replace q4 := ((((q4).set_ 0 (.int .i64 v6)).set_ 1 (.int .i64 ((p : Int) + 8))).set_ 2 (.bool (e6 == 0))).set_other (g' := d + 1 + 1 + 1) (by omega) 1 (.int .i64 v6)
  simp only [List.setIfInBounds_toArray, List.set_cons_succ, List.set_cons_zero] at q0 q1 q2 q3 q4
  replace hw := ((((hw.setCell (p := ⟨d + 1 + 1 + 1 + 1, 0, none⟩) (show d ≤ d + 1 + 1 + 1 + 1 by omega) (.int .i64 v6)).setCell (p := ⟨d + 1 + 1 + 1 + 1, 1, none⟩) (show d ≤ d + 1 + 1 + 1 + 1 by omega) (.int .i64 ((p : Int) + 8))).setCell (p := ⟨d + 1 + 1 + 1 + 1, 2, none⟩) (show d ≤ d + 1 + 1 + 1 + 1 by omega) (.bool (e6 == 0))).setCell (p := ⟨d + 1 + 1 + 1, 1, none⟩) (show d ≤ d + 1 + 1 + 1 by omega) (.int .i64 v6))
  generalize ((((w2).setCell ⟨d + 1 + 1 + 1 + 1, 0, none⟩ (.int .i64 v6)).setCell ⟨d + 1 + 1 + 1 + 1, 1, none⟩ (.int .i64 ((p : Int) + 8))).setCell ⟨d + 1 + 1 + 1 + 1, 2, none⟩ (.bool (e6 == 0))).setCell ⟨d + 1 + 1 + 1, 1, none⟩ (.int .i64 v6) = V2 at *
  refine (T2 _ (hI.below (HD.out ▸ hw)).nums).mono ?_
  rintro e w3 ⟨rfl, hb3⟩
  replace hw := HD.out ▸ ext_trans (HD.out ▸ hw) hb3
  replace q0 := q0.below hb3
  replace q1 := q1.below hb3
  replace q2 := q2.below hb3
  replace q3 := q3.below hb3
  replace q4 := q4.below hb3
  clear T2 hb3
  have F := FH.out
  clear FH
  rcases F with ⟨F1, F2⟩ | ⟨I, N, hI6, hN, hp10, F1, F2, F⟩
  ·have HF := Lib.hid F2
   injection F1 with F3 F4
   subst F3 F4
   clear F2
   rw [show ((11 : Int) == 0) = false from rfl]
   replace hw := hw.alloc (Nat.le_trans (Nat.le_of_lt q0.lt) (Nat.le_refl _)) (.cells #[.int .i64 0, .int .i64 ((p : Int) + 10), .bool false] 267)
   replace q0 := q0.alloc (.cells #[.int .i64 0, .int .i64 ((p : Int) + 10), .bool false] 267)
   replace q1 := q1.alloc (.cells #[.int .i64 0, .int .i64 ((p : Int) + 10), .bool false] 267)
   replace q2 := q2.alloc (.cells #[.int .i64 0, .int .i64 ((p : Int) + 10), .bool false] 267)
   replace q3 := q3.alloc (.cells #[.int .i64 0, .int .i64 ((p : Int) + 10), .bool false] 267)
   replace q4 := q4.alloc (.cells #[.int .i64 0, .int .i64 ((p : Int) + 10), .bool false] 267)
   obtain ⟨y0, y1, y2, y3, y4, -⟩ := q2.c5
   obtain ⟨x0, x1, x2, x3, x4, g0, g1, g2, g3, g4⟩ := q1.c5
   clear q0 q1 q2 q3 q4
   go_wp2_with fail
   go_step3
   refine ⟨rfl, ?_⟩
   go_wp2_with fail
   try simp only [Exit.noGoto_ret]
   exact bodyPost_ret (v := .agg #[.int .i64 0, .int .i64 0, .string ⟨#[]⟩, .int .i64 0, .bool false]) (by simp [results, Tryz.results152, go_sem, x0, x1, x2, x3, x4]) rfl ⟨by rw [HF.out]; rfl, by rw [HD.out]; exact ((((hw.setCell (by simp) _).setCell (by simp) _).setCell (by simp) _).setCell (by simp) _).setCell (by simp) _⟩
  ·injection F1 with F3 F4
   injection F2 with F5 F6
   subst F3 F4 F5 F6
   rw [show ((0 : Int) == 0) = true from rfl] at q4 ⊢
   replace hw := hw.alloc (Nat.le_of_lt q0.lt) (.cells #[.int .i64 (N : Int), .int .i64 ((p : Int) + 10), .bool true] 267)
   have HCut := fun w' h' => Cut_any s ((p : Int) + 10) (N : Int) w' aN aW aS h' (by omega) (by omega) (by omega)
   replace q0 := q0.alloc (.cells #[.int .i64 (N : Int), .int .i64 ((p : Int) + 10), .bool true] 267)
   replace q1 := q1.alloc (.cells #[.int .i64 (N : Int), .int .i64 ((p : Int) + 10), .bool true] 267)
   replace q2 := q2.alloc (.cells #[.int .i64 (N : Int), .int .i64 ((p : Int) + 10), .bool true] 267)
   replace q3 := q3.alloc (.cells #[.int .i64 (N : Int), .int .i64 ((p : Int) + 10), .bool true] 267)
   replace q4 := q4.alloc (.cells #[.int .i64 (N : Int), .int .i64 ((p : Int) + 10), .bool true] 267)
   have FH := Lib.hid F
   clear F
   obtain ⟨x0, -⟩ := q0.c1
   obtain ⟨z0, z1, z2, -⟩ := q4.c3
   go_wp2_with fail
   clear x0 z0 z1 z2
   obtain ⟨⟨D, eD⟩, hcv⟩ : ∃ z, cutV s ((p : Int) + 10) (N : Int) = z := ⟨_, rfl⟩
   have F := FH.out
   clear FH
   rw [hcv] at HCut F
   dsimp only at HCut
   clear hcv
   refine (HCut _ (hI.below (HD.out ▸ hw)).nums).mono ?_
   rintro e w4 ⟨rfl, hb4⟩
   replace hw := HD.out ▸ ext_trans (HD.out ▸ hw) hb4
   replace q0 := q0.below hb4
   replace q1 := q1.below hb4
   replace q2 := q2.below hb4
   replace q3 := q3.below hb4
   replace q4 := q4.below hb4
   clear HCut hb4
   have HE := fun w' h' => Encode_any (o : Int) (I : Int) D w' aA aT aN aW aS h'
   have FH := Lib.hid F
   clear F
   obtain ⟨y0, y1, y2, g0, g1, g2⟩ := q3.c3
   go_wp2_with fail
   clear y0 y1 y2 g0 g1 g2
   replace q0 := (q0).set_other (g' := d + 1 + 1 + 1) (by omega) 2 (.string D)
   replace q1 := (q1).set_other (g' := d + 1 + 1 + 1) (by omega) 2 (.string D)
   replace q2 := (q2).set_other (g' := d + 1 + 1 + 1) (by omega) 2 (.string D)
   replace q3 := (q3).set_ 2 (.string D)
   replace q4 := (q4).set_other (g' := d + 1 + 1 + 1) (by omega) 2 (.string D)
   simp only [List.setIfInBounds_toArray, List.set_cons_succ, List.set_cons_zero] at q0 q1 q2 q3 q4
   replace hw := (hw.setCell (p := ⟨d + 1 + 1 + 1, 2, none⟩) (show d ≤ d + 1 + 1 + 1 by omega) (.string D))
   generalize (w4).setCell ⟨d + 1 + 1 + 1, 2, none⟩ (.string D) = V4 at *
   obtain ⟨⟨Fr, eF⟩, hev⟩ : ∃ z, encV (o : Int) (I : Int) D = z := ⟨_, rfl⟩
   have F := FH.out
   clear FH
   rcases F with ⟨F1, F2⟩ | ⟨D', F1, hDs, F⟩
   ·have HF := Lib.hid F2
    injection F1 with F3 F4
    subst F3 F4
    rw [hev] at HE
    clear F2 hev
    refine (HE _ (hI.below (HD.out ▸ hw))).mono ?_
    rintro e w5 ⟨rfl, hb5⟩
    replace hw := HD.out ▸ ext_trans (HD.out ▸ hw) hb5
    replace q0 := q0.below hb5
    replace q1 := q1.below hb5
    replace q2 := q2.below hb5
    replace q3 := q3.below hb5
    replace q4 := q4.below hb5
    clear HE hb5
    obtain ⟨y0, y1, y2, y3, y4, -⟩ := q2.c5
    obtain ⟨x0, x1, x2, x3, x4, g0, g1, g2, g3, g4⟩ := q1.c5
    clear q0 q1 q2 q3 q4
    go_wp2_with fail
    go_step3
    refine ⟨rfl, ?_⟩
    go_wp2_with fail
    try simp only [Exit.noGoto_ret]
    exact bodyPost_ret (v := .agg #[.int .i64 0, .int .i64 0, .string ⟨#[]⟩, .int .i64 0, .bool false]) (by simp [results, Tryz.results152, go_sem, x0, x1, x2, x3, x4]) rfl ⟨by rw [HF.out]; rfl, by rw [HD.out]; exact ((((hw.setCell (by simp) _).setCell (by simp) _).setCell (by simp) _).setCell (by simp) _).setCell (by simp) _⟩
   ·injection F1 with F3 F4
    subst F3 F4
    rw [hev] at HE F
    clear hev
    rcases F with ⟨F1, F2⟩ | ⟨Fr', F1, hFs, hFs2, F⟩
    ·have HF := Lib.hid F2
     injection F1 with F3 F4
     subst F3 F4
     clear F2
     refine (HE _ (hI.below (HD.out ▸ hw))).mono ?_
     rintro e w5 ⟨rfl, hb5⟩
     replace hw := HD.out ▸ ext_trans (HD.out ▸ hw) hb5
     replace q0 := q0.below hb5
     replace q1 := q1.below hb5
     replace q2 := q2.below hb5
     replace q3 := q3.below hb5
     replace q4 := q4.below hb5
     clear HE hb5
     obtain ⟨y0, y1, y2, y3, y4, -⟩ := q2.c5
     obtain ⟨x0, x1, x2, x3, x4, g0, g1, g2, g3, g4⟩ := q1.c5
     clear q0 q1 q2 q3 q4
     go_wp2_with fail
     go_step3
     refine ⟨rfl, ?_⟩
     go_wp2_with fail
     try simp only [Exit.noGoto_ret]
     exact bodyPost_ret (v := .agg #[.int .i64 0, .int .i64 0, .string ⟨#[]⟩, .int .i64 0, .bool false]) (by simp [results, Tryz.results152, go_sem, x0, x1, x2, x3, x4]) rfl ⟨by rw [HF.out]; rfl, by rw [HD.out]; exact ((((hw.setCell (by simp) _).setCell (by simp) _).setCell (by simp) _).setCell (by simp) _).setCell (by simp) _⟩
    ·injection F1 with F3 F4
     subst F3 F4
     have HFS := Lib.hid hFs
     have HDS := Lib.hid hDs
     clear hFs hDs
     have FH := Lib.hid F
     clear F
     refine (HE _ (hI.below (HD.out ▸ hw))).mono ?_
     rintro e w5 ⟨rfl, hb5⟩
     replace hw := HD.out ▸ ext_trans (HD.out ▸ hw) hb5
     replace q0 := q0.below hb5
     replace q1 := q1.below hb5
     replace q2 := q2.below hb5
     replace q3 := q3.below hb5
     replace q4 := q4.below hb5
     clear HE hb5
     have HCut := fun w' h' => Cut_any s (p : Int) (Fr.size : Int) w' aN aW aS h' (by omega) (by omega) (by omega)
     obtain ⟨x0, -⟩ := q0.c1
     go_wp2_with fail
     clear x0
     obtain ⟨⟨G, eG⟩, hcv⟩ : ∃ z, cutV s (p : Int) (Fr.size : Int) = z := ⟨_, rfl⟩
     have F := FH.out
     clear FH
     rw [hcv] at HCut F
     dsimp only at HCut
     clear hcv
     refine (HCut _ (hI.below (HD.out ▸ hw)).nums).mono ?_
     rintro e w6 ⟨rfl, hb6⟩
     replace hw := HD.out ▸ ext_trans (HD.out ▸ hw) hb6
     replace q0 := q0.below hb6
     replace q1 := q1.below hb6
     replace q2 := q2.below hb6
     replace q3 := q3.below hb6
     replace q4 := q4.below hb6
     clear HCut hb6
     rcases F with ⟨F1, F2⟩ | ⟨G', F1, ⟨F2, F3⟩ | ⟨F2, F3⟩⟩
     ·have HF := Lib.hid F2
      injection F1 with F3 F4
      subst F3 F4
      clear F2
      obtain ⟨y0, y1, y2, y3, y4, -⟩ := q2.c5
      obtain ⟨x0, x1, x2, x3, x4, g0, g1, g2, g3, g4⟩ := q1.c5
      clear q0 q1 q2 q3 q4
      go_wp2_with fail
      go_step3
      go_wp2_with fail
      try simp only [Exit.noGoto_ret]
      exact bodyPost_ret (v := .agg #[.int .i64 0, .int .i64 0, .string ⟨#[]⟩, .int .i64 0, .bool false]) (by simp [results, Tryz.results152, go_sem, x0, x1, x2, x3, x4]) rfl ⟨by rw [HF.out]; rfl, by rw [HD.out]; exact ((((hw.setCell (by simp) _).setCell (by simp) _).setCell (by simp) _).setCell (by simp) _).setCell (by simp) _⟩
     ·have HF := Lib.hid F3
      injection F1 with F4 F5
      subst F4 F5
      clear F3
      obtain ⟨y0, y1, y2, y3, y4, -⟩ := q2.c5
      obtain ⟨x0, x1, x2, x3, x4, g0, g1, g2, g3, g4⟩ := q1.c5
      clear q0 q1 q2 q3 q4
      go_wp2_with fail
      go_step3
      go_wp2_with fail
      try simp only [Exit.noGoto_ret]
      exact bodyPost_ret (v := .agg #[.int .i64 0, .int .i64 0, .string ⟨#[]⟩, .int .i64 0, .bool false]) (by simp [results, Tryz.results152, go_sem, x0, x1, x2, x3, x4]) rfl ⟨by rw [HF.out]; rfl, by rw [HD.out]; exact ((((hw.setCell (by simp) _).setCell (by simp) _).setCell (by simp) _).setCell (by simp) _).setCell (by simp) _⟩
     ·have HF := Lib.hid F3
      injection F1 with F4 F5
      subst F4 F5
      subst F2
      clear F3
      have hlen : D.data.toList.length = N := by rw [list_size, HDS.out]
      have HLEN := Lib.hid hlen
      have hp7 : (G.size : Int) ≤ 2014 := by omega
      obtain ⟨y0, y1, y2, -⟩ := q3.c3
      obtain ⟨x0, x1, x2, x3, x4, g0, g1, g2, g3, g4⟩ := q1.c5
      clear q0 q1 q2 q3 q4 hlen
      go_wp2_with fail
      try simp only [Exit.noGoto_ret]
      exact bodyPost_ret (v := .agg #[.int .i64 (o : Int), .int .i64 (I : Int), .string D, .int .i64 ((p : Int) + (G.size : Int)), .bool true]) (by simp [results, Tryz.results152, go_sem, x0, x1, x2, x3, x4]) rfl ⟨by rw [HF.out]; unfold frR; dsimp only; rw [HLEN.out, HFS.out], by rw [HD.out]; exact ((((hw.setCell (by simp) _).setCell (by simp) _).setCell (by simp) _).setCell (by simp) _).setCell (by simp) _⟩
def decR (o : Option RecN) (a : Int) : Value := match o with
 | none => .tuple #[.agg #[.int .i64 0, .int .i64 0, .string ByteArray.empty], .int .i64 0, .bool false]
 | some r => .tuple #[.agg #[.int .i64 (r.op : Int), .int .i64 (r.id : Int), .string ⟨r.data.toArray⟩], .int .i64 (a + ((14 + r.data.length : Nat) : Int)), .bool true]
end Go.Proofs.YtmebjdbkngehiaaGreatDoor
