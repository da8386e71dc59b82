/-
  Package queue: isLost, isRight, and more of the kind. Conditions: as the theorems' own hypotheses say.
-/
import Derived.Test.YtmebjdbkngehiaaGreatDoorQhA
import Derived.Test.YtmebjdbkngehiaaGreatDoorQgD
import Derived.Test.YtmebjdbkngehiaaGreatDoorQgH
import Derived.Laws.StructEq
namespace Go.Proofs.YtmebjdbkngehiaaGreatDoor
open Go.RowKit
set_option maxHeartbeats 4000000
variable {g : Nat} {a0 a1 a2 : Value} {w : World} {α : Type}
theorem isLost_any (e : EI) (w : World) : Calls Tryz.prog 63 #[e.val] w (Ret (.bool e.lost) w) := by
 obtain ⟨id, side, key, data, due, cu, se⟩ := e
 have hb := ext_new w (.cells #[.int .i64 id, .int .i64 side, .string key, .string data, .int .i64 due, .bool cu, .bool se] 23)
 unfold EI.val EI.lost
 dsimp only
 cases se <;> cases cu
 all_goals
  go_enter Tryz.func63, Tryz.ntmps63
  go_wp2_with fail
  go_ret
  exact ⟨rfl, hb⟩
set_option maxRecDepth 100000 in
theorem isRight_any (e : EI) (w : World) (hk : e.key.size ≤ 1000000) (hd : e.data.size ≤ 1000000) : Calls Tryz.prog 104 #[e.val] w (Ret (.bool e.right) w) := by
 have hright : e.right = (decide (1 ≤ e.id) && (okNum e.id && ((decide (e.side = 6) || decide (e.side = 7)) && ((decide (1 ≤ e.key.size) && decide (e.key.size ≤ 120)) && (decide (1 ≤ e.data.size) && (decide (e.data.size ≤ 1500) && okNum e.due)))))) := by
  unfold EI.right
  simp only [Bool.and_assoc]
 rw [hright]
 clear hright
 obtain ⟨id, side, key, data, due, cu, se⟩ := e
 have hb := ext_new w (.cells #[.int .i64 id, .int .i64 side, .string key, .string data, .int .i64 due, .bool cu, .bool se] 23)
 unfold EI.val
 dsimp only at hk hd ⊢
 have hR1 := fun W => Right_any id W
 have hR2 := fun W => Right_any due W
 have hkb : ∃ kb : Bool, (decide (1 ≤ key.size) && decide (key.size ≤ 120)) = kb := ⟨_, rfl⟩
 obtain ⟨kb, hkb⟩ := hkb
 rw [hkb]
 generalize okNum id = n1 at *
 generalize okNum due = n2 at *
 generalize hrr : (decide (1 ≤ id) && (n1 && ((decide (side = 6) || decide (side = 7)) && (kb && (decide (1 ≤ data.size) && (decide (data.size ≤ 1500) && n2)))))) = rr
 have HRR := Lib.hid hrr
 have HD := Lib.hid hd
 clear hd hrr
 by_cases k1 : (1 : Int) ≤ (key.size : Int)
 ·have hk2 : decide ((key.size : Int) ≤ 120) = kb := by rw [← hkb, show decide (1 ≤ key.size) = true from decide_eq_true (by omega), Bool.true_and]; exact decide_eq_decide.2 (by omega)
  clear hkb
  by_cases c1 : 1 ≤ id
  ·go_enter Tryz.func104, Tryz.ntmps104
   go_wp2_with fail
   refine (hR1 _).mono ?_
   rintro e w1 ⟨rfl, rfl⟩
   cases n1 with
   | false =>
    have hz : rr = false := by rw [← HRR.out, decide_eq_true c1, Bool.true_and, Bool.false_and]
    have HZ := Lib.hid hz
    clear hz
    go_wp2_with fail
    go_ret
    exact ⟨by rw [HZ.out]; rfl, hb⟩
   | true =>
    by_cases c5 : side = 6
    ·subst c5
     cases kb with
     | false =>
      have hz : rr = false := by rw [← HRR.out, decide_eq_true c1, Bool.true_and, Bool.true_and, show (decide ((6 : Int) = 6) || decide ((6 : Int) = 7)) = true from rfl, Bool.true_and, Bool.false_and]
      have HZ := Lib.hid hz
      clear hz
      go_wp2_with fail
      go_ret
      exact ⟨by rw [HZ.out]; rfl, hb⟩
     | true =>
      by_cases c3 : (1 : Int) ≤ (data.size : Int)
      ·by_cases c4 : (data.size : Int) ≤ 1500
       ·have hz : rr = n2 := by rw [← HRR.out, decide_eq_true c1, Bool.true_and, Bool.true_and, show (decide ((6 : Int) = 6) || decide ((6 : Int) = 7)) = true from rfl, Bool.true_and, Bool.true_and, show decide (1 ≤ data.size) = true from decide_eq_true (by omega), Bool.true_and, show decide (data.size ≤ 1500) = true from decide_eq_true (by omega), Bool.true_and]
        have HZ := Lib.hid hz
        clear hz
        go_wp2_with fail
        refine (hR2 _).mono ?_
        rintro e w1 ⟨rfl, rfl⟩
        go_wp2_with fail
        go_ret
        exact ⟨by rw [HZ.out]; first | rfl | simp, hb⟩
       ·have hz : rr = false := by rw [← HRR.out, decide_eq_true c1, Bool.true_and, Bool.true_and, show (decide ((6 : Int) = 6) || decide ((6 : Int) = 7)) = true from rfl, Bool.true_and, Bool.true_and, show decide (1 ≤ data.size) = true from decide_eq_true (by omega), Bool.true_and, show decide (data.size ≤ 1500) = false from decide_eq_false (by omega), Bool.false_and]
        have HZ := Lib.hid hz
        clear hz
        go_wp2_with fail
        go_ret
        exact ⟨by rw [HZ.out]; rfl, hb⟩
      ·have hz : rr = false := by rw [← HRR.out, decide_eq_true c1, Bool.true_and, Bool.true_and, show (decide ((6 : Int) = 6) || decide ((6 : Int) = 7)) = true from rfl, Bool.true_and, Bool.true_and, show decide (1 ≤ data.size) = false from decide_eq_false (by omega), Bool.false_and]
       have HZ := Lib.hid hz
       clear hz
       go_wp2_with fail
       go_ret
       exact ⟨by rw [HZ.out]; rfl, hb⟩
    ·by_cases c6 : side = 7
     ·subst c6
      cases kb with
      | false =>
       have hz : rr = false := by rw [← HRR.out, decide_eq_true c1, Bool.true_and, Bool.true_and, show (decide ((7 : Int) = 6) || decide ((7 : Int) = 7)) = true from rfl, Bool.true_and, Bool.false_and]
       have HZ := Lib.hid hz
       clear hz
       go_wp2_with fail
       go_ret
       exact ⟨by rw [HZ.out]; rfl, hb⟩
      | true =>
       by_cases c3 : (1 : Int) ≤ (data.size : Int)
       ·by_cases c4 : (data.size : Int) ≤ 1500
        ·have hz : rr = n2 := by rw [← HRR.out, decide_eq_true c1, Bool.true_and, Bool.true_and, show (decide ((7 : Int) = 6) || decide ((7 : Int) = 7)) = true from rfl, Bool.true_and, Bool.true_and, show decide (1 ≤ data.size) = true from decide_eq_true (by omega), Bool.true_and, show decide (data.size ≤ 1500) = true from decide_eq_true (by omega), Bool.true_and]
         have HZ := Lib.hid hz
         clear hz
         go_wp2_with fail
         refine (hR2 _).mono ?_
         rintro e w1 ⟨rfl, rfl⟩
         go_wp2_with fail
         go_ret
         exact ⟨by rw [HZ.out]; first | rfl | simp, hb⟩
        ·have hz : rr = false := by rw [← HRR.out, decide_eq_true c1, Bool.true_and, Bool.true_and, show (decide ((7 : Int) = 6) || decide ((7 : Int) = 7)) = true from rfl, Bool.true_and, Bool.true_and, show decide (1 ≤ data.size) = true from decide_eq_true (by omega), Bool.true_and, show decide (data.size ≤ 1500) = false from decide_eq_false (by omega), Bool.false_and]
         have HZ := Lib.hid hz
         clear hz
         go_wp2_with fail
         go_ret
         exact ⟨by rw [HZ.out]; rfl, hb⟩
       ·have hz : rr = false := by rw [← HRR.out, decide_eq_true c1, Bool.true_and, Bool.true_and, show (decide ((7 : Int) = 6) || decide ((7 : Int) = 7)) = true from rfl, Bool.true_and, Bool.true_and, show decide (1 ≤ data.size) = false from decide_eq_false (by omega), Bool.false_and]
        have HZ := Lib.hid hz
        clear hz
        go_wp2_with fail
        go_ret
        exact ⟨by rw [HZ.out]; rfl, hb⟩
     ·have c8 : (side == 6) = false := beq_eq_false_iff_ne.2 c5
      have c9 : (side == 7) = false := beq_eq_false_iff_ne.2 c6
      have hz : rr = false := by rw [← HRR.out, decide_eq_true c1, Bool.true_and, Bool.true_and, decide_eq_false c5, decide_eq_false c6, Bool.or_false, Bool.false_and]
      have HZ := Lib.hid hz
      clear hz
      go_wp2_with fail
      go_ret
      exact ⟨by rw [HZ.out]; rfl, hb⟩
  ·have hz : rr = false := by rw [← HRR.out, decide_eq_false c1, Bool.false_and]
   have HZ := Lib.hid hz
   clear hz
   go_enter Tryz.func104, Tryz.ntmps104
   go_wp2_with fail
   go_ret
   exact ⟨by rw [HZ.out]; rfl, hb⟩
 ·have hk2 : kb = false := by rw [← hkb, show decide (1 ≤ key.size) = false from decide_eq_false (by omega), Bool.false_and]
  subst hk2
  clear hkb
  by_cases c1 : 1 ≤ id
  ·go_enter Tryz.func104, Tryz.ntmps104
   go_wp2_with fail
   refine (hR1 _).mono ?_
   rintro e w1 ⟨rfl, rfl⟩
   cases n1 with
   | false =>
    have hz : rr = false := by rw [← HRR.out, decide_eq_true c1, Bool.true_and, Bool.false_and]
    have HZ := Lib.hid hz
    clear hz
    go_wp2_with fail
    go_ret
    exact ⟨by rw [HZ.out]; rfl, hb⟩
   | true =>
    by_cases c5 : side = 6
    ·subst c5
     have hz : rr = false := by rw [← HRR.out, decide_eq_true c1, Bool.true_and, Bool.true_and, show (decide ((6 : Int) = 6) || decide ((6 : Int) = 7)) = true from rfl, Bool.true_and, Bool.false_and]
     have HZ := Lib.hid hz
     clear hz
     go_wp2_with fail
     go_ret
     exact ⟨by rw [HZ.out]; rfl, hb⟩
    ·by_cases c6 : side = 7
     ·subst c6
      have hz : rr = false := by rw [← HRR.out, decide_eq_true c1, Bool.true_and, Bool.true_and, show (decide ((7 : Int) = 6) || decide ((7 : Int) = 7)) = true from rfl, Bool.true_and, Bool.false_and]
      have HZ := Lib.hid hz
      clear hz
      go_wp2_with fail
      go_ret
      exact ⟨by rw [HZ.out]; rfl, hb⟩
     ·have c8 : (side == 6) = false := beq_eq_false_iff_ne.2 c5
      have c9 : (side == 7) = false := beq_eq_false_iff_ne.2 c6
      have hz : rr = false := by rw [← HRR.out, decide_eq_true c1, Bool.true_and, Bool.true_and, decide_eq_false c5, decide_eq_false c6, Bool.or_false, Bool.false_and]
      have HZ := Lib.hid hz
      clear hz
      go_wp2_with fail
      go_ret
      exact ⟨by rw [HZ.out]; rfl, hb⟩
  ·have hz : rr = false := by rw [← HRR.out, decide_eq_false c1, Bool.false_and]
   have HZ := Lib.hid hz
   clear hz
   go_enter Tryz.func104, Tryz.ntmps104
   go_wp2_with fail
   go_ret
   exact ⟨by rw [HZ.out]; rfl, hb⟩
def RI.val (r : RI) : Value := .agg #[.int .i64 r.op, .int .i64 r.id, .string r.d]
theorem rec_cat (x : UInt8) (a : List UInt8) (n : UInt8) (k d : ByteArray) : (⟨#[x]⟩ : ByteArray) ++ ⟨a.toArray⟩ ++ ⟨#[n]⟩ ++ k ++ d = ⟨(x :: (a ++ (n :: (k.data.toList ++ d.data.toList)))).toArray⟩ := by
 apply ByteArray.ext
 simp only [ByteArray.data_append]
 apply Array.toList_inj.1
 simp
theorem rec_agg (w : World) : (isAgg 128).run Tryz.prog w = .ok true w := by kernel_rfl
theorem load_rec {W : World} (h : Blk W g 128 #[a0, a1, a2]) : (loadVar 128 ⟨g, 0, none⟩).run Tryz.prog W = .ok (.agg #[a0, a1, a2]) W := by
 obtain ⟨h0, h1, h2, _, _, _⟩ := h.c3
 unfold loadVar
 simp only [Sem.run_bind, rec_agg, Result.andThen]
 simp [loadCells, loadCellsFrom, h0, h1, h2, Result.andThen, Addr.add]
theorem ret_rec1 {fn : Func} {pt : Tmp} (h : fn.results = #[.cell pt 128]) {tmps : Array Value} {W : World} {g : Nat} {a0 a1 a2 : Value} (hp : tmps.getD pt undef = .pointer (some ⟨g, 0, none⟩)) (hB : Blk W g 128 #[a0, a1, a2]) :
  (results fn tmps).run Tryz.prog W = .ok (.agg #[a0, a1, a2]) W := by
 have hp' : tmps[pt]?.getD undef = .pointer (some ⟨g, 0, none⟩) := by simpa using hp
 simp only [results, h]
 simp [hp', asAddr, load_rec hB]
theorem blk_set3 {t : TypeId} (h : Blk w g t #[a0, a1, a2]) (u0 u1 u2 : Value) :
  Blk (((w.setCell ⟨g, 0, none⟩ u0).setCell ⟨g, 1, none⟩ u1).setCell ⟨g, 2, none⟩ u2) g t #[u0, u1, u2] := ((h.set_ 0 u0).set_ 1 u1).set_ 2 u2
theorem below_set3 {B : Nat} {a : World} (h : Below B a w) (hg : B ≤ g) (u0 u1 u2 : Value) : Below B a (((w.setCell ⟨g, 0, none⟩ u0).setCell ⟨g, 1, none⟩ u1).setCell ⟨g, 2, none⟩ u2) :=
 ((h.setCell (p := ⟨g, 0, none⟩) hg u0).setCell (p := ⟨g, 1, none⟩) hg u1).setCell (p := ⟨g, 2, none⟩) hg u2
set_option maxRecDepth 100000 in
theorem record_6n (id due : Int) (key data : ByteArray) (se : Bool) (w : World) (aN aW aS : Addr) (hI : NInv w aN aW aS) (hk : key.size ≤ 120) (hd : data.size ≤ 1500) (hu : okNum due = true) :
  Calls Tryz.prog 105 #[.agg #[.int .i64 id, .int .i64 6, .string key, .string data, .int .i64 due, .bool false, .bool se]] w (Ret (.agg #[.int .i64 1, .int .i64 id, .string ⟨(UInt8.ofNat 6 :: (digits 6 due.toNat ++ (UInt8.ofNat key.size :: (key.data.toList ++ data.data.toList)))).toArray⟩]) w) := by
 have hx := rec_cat (UInt8.ofNat 6) (digits 6 due.toNat) (UInt8.ofNat key.size) key data
 have HX := Lib.hid hx
 clear hx
 have hX := (Blk.new_ w 23 #[.int .i64 id, .int .i64 6, .string key, .string data, .int .i64 due, .bool false, .bool se]).alloc (.cells #[.int .i64 0, .int .i64 0, .string ⟨#[]⟩] 128)
 have hR := Blk.new_ (w.alloc (.cells #[.int .i64 id, .int .i64 6, .string key, .string data, .int .i64 due, .bool false, .bool se] 23)) 128 #[.int .i64 0, .int .i64 0, .string ⟨#[]⟩]
 have hb0 := ext_alloc (ext_new w (.cells #[.int .i64 id, .int .i64 6, .string key, .string data, .int .i64 due, .bool false, .bool se] 23)) (.cells #[.int .i64 0, .int .i64 0, .string ⟨#[]⟩] 128)
 simp only [World.size_alloc] at hR
 obtain ⟨⟨x0, x1, x2, x3, x4, x5, x6⟩, -⟩ := hX.c7
 have hB := fun W hW => Bytes_any due 6 W aN aW aS hW
 rw [bytes6 hu] at hB
 have hwr : IntKind.u8.wrap (key.size : Int) = (key.size : Int) := by
  show (key.size : Int) % 256 = _
  omega
 have hor : bits .or .u8 6 128 = 134 := by rfl
 have HD := Lib.hid hd
 have HU := Lib.hid hu
 clear hd hu
 go_enter Tryz.func105, Tryz.ntmps105
 go_wp2_with fail
 refine (hB _ (hI.below hb0)).mono ?_
 rintro e w3 ⟨rfl, hb3⟩
 have hX3 := hX.below hb3
 have hR3 := hR.below hb3
 have hb4 := ext_trans hb0 hb3
 clear x0 x1 x2 x3 x4 x5 x6 hX hR hb0 hb3 hB hI
 obtain ⟨⟨x0, x1, x2, x3, x4, x5, x6⟩, -⟩ := hX3.c7
 have o1 : Obj := .cells #[.int .u8 6] 5
 have hb5 := ext_alloc (ext_alloc hb4 (.cells #[.int .u8 6] 5)) (.cells #[.int .u8 (key.size : Int)] 5)
 have hXa := hX3.alloc (.cells #[.int .u8 6] 5)
 have hXb := hXa.alloc (.cells #[.int .u8 (key.size : Int)] 5)
 have hRb := (hR3.alloc (.cells #[.int .u8 6] 5)).alloc (.cells #[.int .u8 (key.size : Int)] 5)
 obtain ⟨⟨-, -, y2, y3, -⟩, -⟩ := hXa.c7
 obtain ⟨⟨-, -, z2, z3, -⟩, -⟩ := hXb.c7
 obtain ⟨r0, r1, r2, f0, f1, f2⟩ := hRb.c3
 have hcv1 : (convert 36 9 (.slice (some ⟨w3.heap.size, 0, none⟩) 1 1)).run Tryz.prog (w3.alloc (.cells #[.int .u8 6] 5)) = .ok (.string ⟨#[UInt8.ofNat 6]⟩) (w3.alloc (.cells #[.int .u8 6] 5)) := conv_b _ _ 6 (by omega) (Blk.new_ _ _ _)
 have hcv2 := conv_b ((w3.alloc (.cells #[.int .u8 6] 5)).alloc (.cells #[.int .u8 (key.size : Int)] 5)) (w3.heap.size + 1) key.size (by omega) (Blk.at_ (by simp))
 have hs1 : (⟨#[UInt8.ofNat 6]⟩ : ByteArray).size = 1 := rfl
 have hs2 : (⟨#[UInt8.ofNat key.size]⟩ : ByteArray).size = 1 := rfl
 have hs3 : (⟨(digits 6 due.toNat).toArray⟩ : ByteArray).size = 6 := by show (digits 6 due.toNat).toArray.size = 6; simp [digits_length]
 generalize (⟨#[UInt8.ofNat 6]⟩ : ByteArray) = S1 at *
 generalize (⟨#[UInt8.ofNat key.size]⟩ : ByteArray) = S2 at *
 generalize (⟨(digits 6 due.toNat).toArray⟩ : ByteArray) = S3 at *
 have hd := HD.out
 have q1 : ¬ (9223372036854775807 < S1.size + S3.size) := by omega
 have q2 : ¬ (9223372036854775807 < (S1 ++ S3).size + S2.size) := by rw [ByteArray.size_append]; omega
 have q3 : ¬ (9223372036854775807 < (S1 ++ S3 ++ S2).size + key.size) := by rw [ByteArray.size_append, ByteArray.size_append]; omega
 have q4 : ¬ (9223372036854775807 < (S1 ++ S3 ++ S2 ++ key).size + data.size) := by rw [ByteArray.size_append, ByteArray.size_append, ByteArray.size_append]; omega
 clear hd hs1 hs2 hs3
 have hfin := blk_set3 hRb (.int .i64 1) (.int .i64 id) (.string (S1 ++ S3 ++ S2 ++ key ++ data))
 have hbf := below_set3 hb5 (show w.heap.size ≤ w.heap.size + 1 by omega) (.int .i64 1) (.int .i64 id) (.string (S1 ++ S3 ++ S2 ++ key ++ data))
 have HF := Lib.hid hfin
 have HBF := Lib.hid hbf
 clear hfin hbf hb5 hb4 hX3 hR3 hXa hXb hRb o1
 go_wp2_with fail
 refine bodyPost_ret (v := _) (ret_rec1 (pt := 2) (by kernel_rfl) rfl HF.out) rfl ⟨?_, HBF.out⟩
 rw [HX.out]
set_option maxRecDepth 100000 in
theorem record_6c (id due : Int) (key data : ByteArray) (se : Bool) (w : World) (aN aW aS : Addr) (hI : NInv w aN aW aS) (hk : key.size ≤ 120) (hd : data.size ≤ 1500) (hu : okNum due = true) :
  Calls Tryz.prog 105 #[.agg #[.int .i64 id, .int .i64 6, .string key, .string data, .int .i64 due, .bool true, .bool se]] w (Ret (.agg #[.int .i64 1, .int .i64 id, .string ⟨(UInt8.ofNat 134 :: (digits 6 due.toNat ++ (UInt8.ofNat key.size :: (key.data.toList ++ data.data.toList)))).toArray⟩]) w) := by
 have hx := rec_cat (UInt8.ofNat 134) (digits 6 due.toNat) (UInt8.ofNat key.size) key data
 have HX := Lib.hid hx
 clear hx
 have hX := (Blk.new_ w 23 #[.int .i64 id, .int .i64 6, .string key, .string data, .int .i64 due, .bool true, .bool se]).alloc (.cells #[.int .i64 0, .int .i64 0, .string ⟨#[]⟩] 128)
 have hR := Blk.new_ (w.alloc (.cells #[.int .i64 id, .int .i64 6, .string key, .string data, .int .i64 due, .bool true, .bool se] 23)) 128 #[.int .i64 0, .int .i64 0, .string ⟨#[]⟩]
 have hb0 := ext_alloc (ext_new w (.cells #[.int .i64 id, .int .i64 6, .string key, .string data, .int .i64 due, .bool true, .bool se] 23)) (.cells #[.int .i64 0, .int .i64 0, .string ⟨#[]⟩] 128)
 simp only [World.size_alloc] at hR
 obtain ⟨⟨x0, x1, x2, x3, x4, x5, x6⟩, -⟩ := hX.c7
 have hB := fun W hW => Bytes_any due 6 W aN aW aS hW
 rw [bytes6 hu] at hB
 have hwr : IntKind.u8.wrap (key.size : Int) = (key.size : Int) := by
  show (key.size : Int) % 256 = _
  omega
 have hor : bits .or .u8 6 128 = 134 := by rfl
 have HD := Lib.hid hd
 have HU := Lib.hid hu
 clear hd hu
 go_enter Tryz.func105, Tryz.ntmps105
 go_wp2_with fail
 refine (hB _ (hI.below hb0)).mono ?_
 rintro e w3 ⟨rfl, hb3⟩
 have hX3 := hX.below hb3
 have hR3 := hR.below hb3
 have hb4 := ext_trans hb0 hb3
 clear x0 x1 x2 x3 x4 x5 x6 hX hR hb0 hb3 hB hI
 obtain ⟨⟨x0, x1, x2, x3, x4, x5, x6⟩, -⟩ := hX3.c7
 have o1 : Obj := .cells #[.int .u8 134] 5
 have hb5 := ext_alloc (ext_alloc hb4 (.cells #[.int .u8 134] 5)) (.cells #[.int .u8 (key.size : Int)] 5)
 have hXa := hX3.alloc (.cells #[.int .u8 134] 5)
 have hXb := hXa.alloc (.cells #[.int .u8 (key.size : Int)] 5)
 have hRb := (hR3.alloc (.cells #[.int .u8 134] 5)).alloc (.cells #[.int .u8 (key.size : Int)] 5)
 obtain ⟨⟨-, -, y2, y3, -⟩, -⟩ := hXa.c7
 obtain ⟨⟨-, -, z2, z3, -⟩, -⟩ := hXb.c7
 obtain ⟨r0, r1, r2, f0, f1, f2⟩ := hRb.c3
 have hcv1 : (convert 36 9 (.slice (some ⟨w3.heap.size, 0, none⟩) 1 1)).run Tryz.prog (w3.alloc (.cells #[.int .u8 134] 5)) = .ok (.string ⟨#[UInt8.ofNat 134]⟩) (w3.alloc (.cells #[.int .u8 134] 5)) := conv_b _ _ 134 (by omega) (Blk.new_ _ _ _)
 have hcv2 := conv_b ((w3.alloc (.cells #[.int .u8 134] 5)).alloc (.cells #[.int .u8 (key.size : Int)] 5)) (w3.heap.size + 1) key.size (by omega) (Blk.at_ (by simp))
 have hs1 : (⟨#[UInt8.ofNat 134]⟩ : ByteArray).size = 1 := rfl
 have hs2 : (⟨#[UInt8.ofNat key.size]⟩ : ByteArray).size = 1 := rfl
 have hs3 : (⟨(digits 6 due.toNat).toArray⟩ : ByteArray).size = 6 := by show (digits 6 due.toNat).toArray.size = 6; simp [digits_length]
 generalize (⟨#[UInt8.ofNat 134]⟩ : ByteArray) = S1 at *
 generalize (⟨#[UInt8.ofNat key.size]⟩ : ByteArray) = S2 at *
 generalize (⟨(digits 6 due.toNat).toArray⟩ : ByteArray) = S3 at *
 have hd := HD.out
 have q1 : ¬ (9223372036854775807 < S1.size + S3.size) := by omega
 have q2 : ¬ (9223372036854775807 < (S1 ++ S3).size + S2.size) := by rw [ByteArray.size_append]; omega
 have q3 : ¬ (9223372036854775807 < (S1 ++ S3 ++ S2).size + key.size) := by rw [ByteArray.size_append, ByteArray.size_append]; omega
 have q4 : ¬ (9223372036854775807 < (S1 ++ S3 ++ S2 ++ key).size + data.size) := by rw [ByteArray.size_append, ByteArray.size_append, ByteArray.size_append]; omega
 clear hd hs1 hs2 hs3
 have hfin := blk_set3 hRb (.int .i64 1) (.int .i64 id) (.string (S1 ++ S3 ++ S2 ++ key ++ data))
 have hbf := below_set3 hb5 (show w.heap.size ≤ w.heap.size + 1 by omega) (.int .i64 1) (.int .i64 id) (.string (S1 ++ S3 ++ S2 ++ key ++ data))
 have HF := Lib.hid hfin
 have HBF := Lib.hid hbf
 clear hfin hbf hb5 hb4 hX3 hR3 hXa hXb hRb o1
 go_wp2_with fail
 refine bodyPost_ret (v := _) (ret_rec1 (pt := 2) (by kernel_rfl) rfl HF.out) rfl ⟨?_, HBF.out⟩
 rw [HX.out]
set_option maxRecDepth 100000 in
theorem record_7n (id due : Int) (key data : ByteArray) (se : Bool) (w : World) (aN aW aS : Addr) (hI : NInv w aN aW aS) (hk : key.size ≤ 120) (hd : data.size ≤ 1500) (hu : okNum due = true) :
  Calls Tryz.prog 105 #[.agg #[.int .i64 id, .int .i64 7, .string key, .string data, .int .i64 due, .bool false, .bool se]] w (Ret (.agg #[.int .i64 1, .int .i64 id, .string ⟨(UInt8.ofNat 7 :: (digits 6 due.toNat ++ (UInt8.ofNat key.size :: (key.data.toList ++ data.data.toList)))).toArray⟩]) w) := by
 have hx := rec_cat (UInt8.ofNat 7) (digits 6 due.toNat) (UInt8.ofNat key.size) key data
 have HX := Lib.hid hx
 clear hx
 have hX := (Blk.new_ w 23 #[.int .i64 id, .int .i64 7, .string key, .string data, .int .i64 due, .bool false, .bool se]).alloc (.cells #[.int .i64 0, .int .i64 0, .string ⟨#[]⟩] 128)
 have hR := Blk.new_ (w.alloc (.cells #[.int .i64 id, .int .i64 7, .string key, .string data, .int .i64 due, .bool false, .bool se] 23)) 128 #[.int .i64 0, .int .i64 0, .string ⟨#[]⟩]
 have hb0 := ext_alloc (ext_new w (.cells #[.int .i64 id, .int .i64 7, .string key, .string data, .int .i64 due, .bool false, .bool se] 23)) (.cells #[.int .i64 0, .int .i64 0, .string ⟨#[]⟩] 128)
 simp only [World.size_alloc] at hR
 obtain ⟨⟨x0, x1, x2, x3, x4, x5, x6⟩, -⟩ := hX.c7
 have hB := fun W hW => Bytes_any due 6 W aN aW aS hW
 rw [bytes6 hu] at hB
 have hwr : IntKind.u8.wrap (key.size : Int) = (key.size : Int) := by
  show (key.size : Int) % 256 = _
  omega
 have hor : bits .or .u8 7 128 = 135 := by rfl
 have HD := Lib.hid hd
 have HU := Lib.hid hu
 clear hd hu
 go_enter Tryz.func105, Tryz.ntmps105
 go_wp2_with fail
 refine (hB _ (hI.below hb0)).mono ?_
 rintro e w3 ⟨rfl, hb3⟩
 have hX3 := hX.below hb3
 have hR3 := hR.below hb3
 have hb4 := ext_trans hb0 hb3
 clear x0 x1 x2 x3 x4 x5 x6 hX hR hb0 hb3 hB hI
 obtain ⟨⟨x0, x1, x2, x3, x4, x5, x6⟩, -⟩ := hX3.c7
 have o1 : Obj := .cells #[.int .u8 7] 5
 have hb5 := ext_alloc (ext_alloc hb4 (.cells #[.int .u8 7] 5)) (.cells #[.int .u8 (key.size : Int)] 5)
 have hXa := hX3.alloc (.cells #[.int .u8 7] 5)
 have hXb := hXa.alloc (.cells #[.int .u8 (key.size : Int)] 5)
 have hRb := (hR3.alloc (.cells #[.int .u8 7] 5)).alloc (.cells #[.int .u8 (key.size : Int)] 5)
 obtain ⟨⟨-, -, y2, y3, -⟩, -⟩ := hXa.c7
 obtain ⟨⟨-, -, z2, z3, -⟩, -⟩ := hXb.c7
 obtain ⟨r0, r1, r2, f0, f1, f2⟩ := hRb.c3
 have hcv1 : (convert 36 9 (.slice (some ⟨w3.heap.size, 0, none⟩) 1 1)).run Tryz.prog (w3.alloc (.cells #[.int .u8 7] 5)) = .ok (.string ⟨#[UInt8.ofNat 7]⟩) (w3.alloc (.cells #[.int .u8 7] 5)) := conv_b _ _ 7 (by omega) (Blk.new_ _ _ _)
 have hcv2 := conv_b ((w3.alloc (.cells #[.int .u8 7] 5)).alloc (.cells #[.int .u8 (key.size : Int)] 5)) (w3.heap.size + 1) key.size (by omega) (Blk.at_ (by simp))
 have hs1 : (⟨#[UInt8.ofNat 7]⟩ : ByteArray).size = 1 := rfl
 have hs2 : (⟨#[UInt8.ofNat key.size]⟩ : ByteArray).size = 1 := rfl
 have hs3 : (⟨(digits 6 due.toNat).toArray⟩ : ByteArray).size = 6 := by show (digits 6 due.toNat).toArray.size = 6; simp [digits_length]
 generalize (⟨#[UInt8.ofNat 7]⟩ : ByteArray) = S1 at *
 generalize (⟨#[UInt8.ofNat key.size]⟩ : ByteArray) = S2 at *
 generalize (⟨(digits 6 due.toNat).toArray⟩ : ByteArray) = S3 at *
 have hd := HD.out
 have q1 : ¬ (9223372036854775807 < S1.size + S3.size) := by omega
 have q2 : ¬ (9223372036854775807 < (S1 ++ S3).size + S2.size) := by rw [ByteArray.size_append]; omega
 have q3 : ¬ (9223372036854775807 < (S1 ++ S3 ++ S2).size + key.size) := by rw [ByteArray.size_append, ByteArray.size_append]; omega
 have q4 : ¬ (9223372036854775807 < (S1 ++ S3 ++ S2 ++ key).size + data.size) := by rw [ByteArray.size_append, ByteArray.size_append, ByteArray.size_append]; omega
 clear hd hs1 hs2 hs3
 have hfin := blk_set3 hRb (.int .i64 1) (.int .i64 id) (.string (S1 ++ S3 ++ S2 ++ key ++ data))
 have hbf := below_set3 hb5 (show w.heap.size ≤ w.heap.size + 1 by omega) (.int .i64 1) (.int .i64 id) (.string (S1 ++ S3 ++ S2 ++ key ++ data))
 have HF := Lib.hid hfin
 have HBF := Lib.hid hbf
 clear hfin hbf hb5 hb4 hX3 hR3 hXa hXb hRb o1
 go_wp2_with fail
 refine bodyPost_ret (v := _) (ret_rec1 (pt := 2) (by kernel_rfl) rfl HF.out) rfl ⟨?_, HBF.out⟩
 rw [HX.out]
set_option maxRecDepth 100000 in
theorem record_7c (id due : Int) (key data : ByteArray) (se : Bool) (w : World) (aN aW aS : Addr) (hI : NInv w aN aW aS) (hk : key.size ≤ 120) (hd : data.size ≤ 1500) (hu : okNum due = true) :
  Calls Tryz.prog 105 #[.agg #[.int .i64 id, .int .i64 7, .string key, .string data, .int .i64 due, .bool true, .bool se]] w (Ret (.agg #[.int .i64 1, .int .i64 id, .string ⟨(UInt8.ofNat 135 :: (digits 6 due.toNat ++ (UInt8.ofNat key.size :: (key.data.toList ++ data.data.toList)))).toArray⟩]) w) := by
 have hx := rec_cat (UInt8.ofNat 135) (digits 6 due.toNat) (UInt8.ofNat key.size) key data
 have HX := Lib.hid hx
 clear hx
 have hX := (Blk.new_ w 23 #[.int .i64 id, .int .i64 7, .string key, .string data, .int .i64 due, .bool true, .bool se]).alloc (.cells #[.int .i64 0, .int .i64 0, .string ⟨#[]⟩] 128)
 have hR := Blk.new_ (w.alloc (.cells #[.int .i64 id, .int .i64 7, .string key, .string data, .int .i64 due, .bool true, .bool se] 23)) 128 #[.int .i64 0, .int .i64 0, .string ⟨#[]⟩]
 have hb0 := ext_alloc (ext_new w (.cells #[.int .i64 id, .int .i64 7, .string key, .string data, .int .i64 due, .bool true, .bool se] 23)) (.cells #[.int .i64 0, .int .i64 0, .string ⟨#[]⟩] 128)
 simp only [World.size_alloc] at hR
 obtain ⟨⟨x0, x1, x2, x3, x4, x5, x6⟩, -⟩ := hX.c7
 have hB := fun W hW => Bytes_any due 6 W aN aW aS hW
 rw [bytes6 hu] at hB
 have hwr : IntKind.u8.wrap (key.size : Int) = (key.size : Int) := by
  show (key.size : Int) % 256 = _
  omega
 have hor : bits .or .u8 7 128 = 135 := by rfl
 have HD := Lib.hid hd
 have HU := Lib.hid hu
 clear hd hu
 go_enter Tryz.func105, Tryz.ntmps105
 go_wp2_with fail
 refine (hB _ (hI.below hb0)).mono ?_
 rintro e w3 ⟨rfl, hb3⟩
 have hX3 := hX.below hb3
 have hR3 := hR.below hb3
 have hb4 := ext_trans hb0 hb3
 clear x0 x1 x2 x3 x4 x5 x6 hX hR hb0 hb3 hB hI
 obtain ⟨⟨x0, x1, x2, x3, x4, x5, x6⟩, -⟩ := hX3.c7
 have o1 : Obj := .cells #[.int .u8 135] 5
 have hb5 := ext_alloc (ext_alloc hb4 (.cells #[.int .u8 135] 5)) (.cells #[.int .u8 (key.size : Int)] 5)
 have hXa := hX3.alloc (.cells #[.int .u8 135] 5)
 have hXb := hXa.alloc (.cells #[.int .u8 (key.size : Int)] 5)
 have hRb := (hR3.alloc (.cells #[.int .u8 135] 5)).alloc (.cells #[.int .u8 (key.size : Int)] 5)
 obtain ⟨⟨-, -, y2, y3, -⟩, -⟩ := hXa.c7
 obtain ⟨⟨-, -, z2, z3, -⟩, -⟩ := hXb.c7
 obtain ⟨r0, r1, r2, f0, f1, f2⟩ := hRb.c3
 have hcv1 : (convert 36 9 (.slice (some ⟨w3.heap.size, 0, none⟩) 1 1)).run Tryz.prog (w3.alloc (.cells #[.int .u8 135] 5)) = .ok (.string ⟨#[UInt8.ofNat 135]⟩) (w3.alloc (.cells #[.int .u8 135] 5)) := conv_b _ _ 135 (by omega) (Blk.new_ _ _ _)
 have hcv2 := conv_b ((w3.alloc (.cells #[.int .u8 135] 5)).alloc (.cells #[.int .u8 (key.size : Int)] 5)) (w3.heap.size + 1) key.size (by omega) (Blk.at_ (by simp))
 have hs1 : (⟨#[UInt8.ofNat 135]⟩ : ByteArray).size = 1 := rfl
 have hs2 : (⟨#[UInt8.ofNat key.size]⟩ : ByteArray).size = 1 := rfl
 have hs3 : (⟨(digits 6 due.toNat).toArray⟩ : ByteArray).size = 6 := by show (digits 6 due.toNat).toArray.size = 6; simp [digits_length]
 generalize (⟨#[UInt8.ofNat 135]⟩ : ByteArray) = S1 at *
 generalize (⟨#[UInt8.ofNat key.size]⟩ : ByteArray) = S2 at *
 generalize (⟨(digits 6 due.toNat).toArray⟩ : ByteArray) = S3 at *
 have hd := HD.out
 have q1 : ¬ (9223372036854775807 < S1.size + S3.size) := by omega
 have q2 : ¬ (9223372036854775807 < (S1 ++ S3).size + S2.size) := by rw [ByteArray.size_append]; omega
 have q3 : ¬ (9223372036854775807 < (S1 ++ S3 ++ S2).size + key.size) := by rw [ByteArray.size_append, ByteArray.size_append]; omega
 have q4 : ¬ (9223372036854775807 < (S1 ++ S3 ++ S2 ++ key).size + data.size) := by rw [ByteArray.size_append, ByteArray.size_append, ByteArray.size_append]; omega
 clear hd hs1 hs2 hs3
 have hfin := blk_set3 hRb (.int .i64 1) (.int .i64 id) (.string (S1 ++ S3 ++ S2 ++ key ++ data))
 have hbf := below_set3 hb5 (show w.heap.size ≤ w.heap.size + 1 by omega) (.int .i64 1) (.int .i64 id) (.string (S1 ++ S3 ++ S2 ++ key ++ data))
 have HF := Lib.hid hfin
 have HBF := Lib.hid hbf
 clear hfin hbf hb5 hb4 hX3 hR3 hXa hXb hRb o1
 go_wp2_with fail
 refine bodyPost_ret (v := _) (ret_rec1 (pt := 2) (by kernel_rfl) rfl HF.out) rfl ⟨?_, HBF.out⟩
 rw [HX.out]
theorem record_any (e : EI) (w : World) (aN aW aS : Addr) (hI : NInv w aN aW aS) (h : e.right = true) : Calls Tryz.prog 105 #[e.val] w (Ret e.ri.val w) := by
 obtain ⟨-, -, h3, -, h5, -, h7, h8⟩ := EI.right_iff.1 h
 obtain ⟨id, side, key, data, due, cu, se⟩ := e
 dsimp only at h3 h5 h7 h8
 rcases h3 with rfl | rfl
 ·cases cu
  ·exact record_6n id due key data se w aN aW aS hI h5 h7 h8
  ·exact record_6c id due key data se w aN aW aS hI h5 h7 h8
 ·cases cu
  ·exact record_7n id due key data se w aN aW aS hI h5 h7 h8
  ·exact record_7c id due key data se w aN aW aS hI h5 h7 h8
theorem str_iff (a b : ByteArray) : a.toList = b.toList ↔ a = b := by
 have h := str_eqb a b
 constructor
 ·intro e
  rw [e] at h
  simpa using h.symm
 ·intro e; rw [e]
def EI.same (a b : EI) : Bool := decide (a.id = b.id) && (decide (a.side = b.side) && (decide (a.key = b.key) && (decide (a.data = b.data) && (decide (a.due = b.due) && (decide (a.cust = b.cust) && decide (a.sent = b.sent))))))
theorem EI.same_iff (a b : EI) : a.same b = true ↔ a = b := by
 obtain ⟨a1, a2, a3, a4, a5, a6, a7⟩ := a
 obtain ⟨b1, b2, b3, b4, b5, b6, b7⟩ := b
 simp only [EI.same, Bool.and_eq_true, decide_eq_true_eq, EI.mk.injEq]
def RI.same (a b : RI) : Bool := decide (a.op = b.op) && (decide (a.id = b.id) && decide (a.d = b.d))
theorem RI.same_iff (a b : RI) : a.same b = true ↔ a = b := by
 obtain ⟨a1, a2, a3⟩ := a
 obtain ⟨b1, b2, b3⟩ := b
 simp only [RI.same, Bool.and_eq_true, decide_eq_true_eq, RI.mk.injEq]
theorem ite_and (p : Prop) [Decidable p] (b : Bool) (x : Bool → α) : (if p then x b else x false) = x (decide p && b) := by
 by_cases h : p
 ·rw [if_pos h, decide_eq_true h, Bool.true_and]
 ·rw [if_neg h, decide_eq_false h, Bool.false_and]
theorem ite_last (p : Prop) [Decidable p] (x : Bool → α) : (if p then x true else x false) = x (decide p) := by
 by_cases h : p
 ·rw [if_pos h, decide_eq_true h]
 ·rw [if_neg h, decide_eq_false h]
theorem ent_eql (a b : EI) (w : World) : (Op.equalIn 10000 23 a.val b.val).run Tryz.prog w = .ok (a.same b) w := by
 unfold EI.val EI.same
 rw [run_equalIn_agg _ 9999 _ _ _ (by kernel_rfl) (by kernel_rfl)]
 simp [go_sem, Program.fieldsOf, Tryz.underlying23, str_iff]
 rw [ite_last (a.sent = b.sent) (fun x => Result.ok x w), ite_and (a.cust = b.cust) _ (fun x => Result.ok x w), ite_and (a.due = b.due) _ (fun x => Result.ok x w), ite_and (a.data = b.data) _ (fun x => Result.ok x w), ite_and (a.key = b.key) _ (fun x => Result.ok x w), ite_and (a.side = b.side) _ (fun x => Result.ok x w), ite_and (a.id = b.id) _ (fun x => Result.ok x w)]
theorem rec_eql (a b : RI) (w : World) : (Op.equalIn 10000 128 a.val b.val).run Tryz.prog w = .ok (a.same b) w := by
 unfold RI.val RI.same
 rw [run_equalIn_agg _ 9999 _ _ _ (by kernel_rfl) (by kernel_rfl)]
 simp [go_sem, Program.fieldsOf, Tryz.underlying128, str_iff]
 rw [ite_last (a.d = b.d) (fun x => Result.ok x w), ite_and (a.id = b.id) _ (fun x => Result.ok x w), ite_and (a.op = b.op) _ (fun x => Result.ok x w)]
theorem ent_neq_run (a b : EI) (w : World) : (binOp .neq 23 a.val b.val).run Tryz.prog w = .ok (.bool (!a.same b)) w := by
 unfold EI.val
 rw [run_neq_struct]
 have := ent_eql a b w
 unfold EI.val at this
 rw [this]
 rfl
theorem rec_eql_run (a b : RI) (w : World) : (binOp .eql 128 a.val b.val).run Tryz.prog w = .ok (.bool (a.same b)) w := by
 unfold RI.val
 rw [run_eql_struct]
 have := rec_eql a b w
 unfold RI.val at this
 rw [this]
 rfl
end Go.Proofs.YtmebjdbkngehiaaGreatDoor
