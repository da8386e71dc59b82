/-
  Package postriderlaw05: three texts put together (mixed), and the walk of the statement CrcMixed: it hands back true. Conditions: the listed variables hold what 'CInv' says.
-/
import Derived.Test.YtdijnffefapcfaaDoorCrcH
import Derived.Deep.AppendLies
namespace Go.Proofs.YtdijnffefapcfaaDoor
open Go.RowKit

def cells8 (l : List UInt8) : List Value := l.map fun (b : UInt8) => Value.int .u8 (b.toNat : Int)
theorem cells8_snoc (l : List UInt8) (b : UInt8) : cells8 (l ++ [b]) = cells8 l ++ [.int .u8 (b.toNat : Int)] := by simp [cells8]
theorem mix_take (s t u : ByteArray) (h1 : s.size = t.size) (h2 : s.size = u.size) (k : Nat) (h : k < s.size) (h' : k < t.size) (h'' : k < u.size) :
    (mix3 s.data.toList t.data.toList u.data.toList).take (k + 1) = (mix3 s.data.toList t.data.toList u.data.toList).take k ++ [s[k] ^^^ t[k] ^^^ u[k]] := by
  have hs : s.data.toList.length = s.size := by rw [Array.length_toList]; rfl
  have ht : t.data.toList.length = t.size := by rw [Array.length_toList]; rfl
  have hu : u.data.toList.length = u.size := by rw [Array.length_toList]; rfl
  have hl := mix3_length s.data.toList t.data.toList u.data.toList (by omega) (by omega)
  rw [List.take_succ_eq_append_getElem (by omega)]
  congr 2
  apply UInt8.toNat_inj.1
  rw [mix3_get _ _ _ (by omega) (by omega) k (by omega) (by omega) (by omega) (by omega), UInt8.toNat_xor, UInt8.toNat_xor]
  rfl

set_option maxRecDepth 100000 in
set_option maxHeartbeats 1000000 in
theorem mixed_any (s t u : ByteArray) (w : World) (hs : s.size ≤ 200) (h1 : s.size = t.size) (h2 : s.size = u.size) :
    Calls Tryd.prog 21 #[.string s, .string t, .string u] w (Ret (.string ⟨(mix3 s.data.toList t.data.toList u.data.toList).toArray⟩) w) := by
  have e1 : ((s.size : Int) != (t.size : Int)) = false := by rw [h1]; simp
  have e2 : ((s.size : Int) != (u.size : Int)) = false := by rw [h2]; simp
  have hl := mix3_length s.data.toList t.data.toList u.data.toList (by simpa using h1) (by simpa using h2)
  have HM := Lib.hid (fun k (h : k < s.size) (h' : k < t.size) (h'' : k < u.size) => mix_take s t u h1 h2 k h h' h'')
  have H1 := Lib.hid h1
  have H2 := Lib.hid h2
  have HL := Lib.hid hl
  clear hl h1 h2
  obtain ⟨i0, hi0, hz0, hz1, hz2⟩ := info_parts infoU8
  have ht200 : t.size ≤ 200 := by rw [← H1.out]; exact hs
  have hu200 : u.size ≤ 200 := by rw [← H2.out]; exact hs
  go_enter Tryd.func21, Tryd.ntmps21
  go_wp2_with fail
  go_loopw [7, 8] (fun out i wr => ∃ k : Nat, k ≤ s.size ∧ i = .int .i64 k ∧ wr.ownsRow w.heap.size 5 1 out k (cells8 ((mix3 s.data.toList t.data.toList u.data.toList).take k)) ∧ Below w.heap.size w wr) (fun _ i _ => s.size - (intOf i).toNat)
  case atStart => exact ⟨0, by omega, rfl, own_nil, Below.refl _ _⟩
  case round =>
    obtain ⟨k, hk, rfl, hown, hbe⟩ := hrel
    have hsz := hbe.size
    by_cases hlt : k < s.size
    · have hlt2 : k < t.size := by rw [← H1.out]; exact hlt
      have hlt3 : k < u.size := by rw [← H2.out]; exact hlt
      have HT := Lib.hid (HM.out k hlt hlt2 hlt3)
      have x1 : bits .xor .u8 (s[k].toNat : Int) (t[k].toNat : Int) = ((s[k].toNat ^^^ t[k].toNat : Nat) : Int) := u8_xor_nat _ _ s[k].toNat_lt t[k].toNat_lt
      have x2 : bits .xor .u8 ((s[k].toNat ^^^ t[k].toNat : Nat) : Int) (u[k].toNat : Int) = ((s[k].toNat ^^^ t[k].toNat ^^^ u[k].toNat : Nat) : Int) := u8_xor_nat _ _ (Nat.xor_lt_two_pow (n := 8) s[k].toNat_lt t[k].toNat_lt) u[k].toNat_lt
      have hx3 : (s[k] ^^^ t[k] ^^^ u[k]).toNat = s[k].toNat ^^^ t[k].toNat ^^^ u[k].toNat := by rw [UInt8.toNat_xor, UInt8.toNat_xor]
      generalize hz : s[k].toNat ^^^ t[k].toNat ^^^ u[k].toNat = z at x2 hx3
      generalize s[k] ^^^ t[k] ^^^ u[k] = y at HT hx3
      have HX := Lib.hid hx3
      clear hx3 hz
      have i1 : (0 : Int) ≤ (k : Int) := by omega
      have i2 : (k : Int) < (s.size : Int) := by omega
      have i3 : (k : Int) < (t.size : Int) := by omega
      have i4 : (k : Int) < (u.size : Int) := by omega
      go_wp2_with fail
      go_region_held3 (fun _ => True) (trivial) ((refine step_append_lies _ (by rfl) _ _ _ (by rfl) w.heap.size 5 i0 (.int .u8 0) 1 1 Tryd.underlying39 hi0 hz0 hz1 hz2 rfl (by omega) _ k _ (by rfl) (hown.alloc _).drew ⟨wr.heap.size, 0, none⟩ 1 1 [.int .u8 (z : Int)] (by rfl) rfl (new_one _ _ _) (fun v hv => by rw [List.mem_singleton.1 hv]; rfl) (by omega) (by unfold maxLen; omega) (by omega) (by simp; omega) (wr.heap.size + 1) (by simp) ?_; intro g cap w3 hown3 hgrow hat hltg))
      all_goals
        have hbe3 : Below w.heap.size w w3 := below_append (hbe.alloc hsz _).drew (hown.alloc _).drew (Nat.le_refl _) (Nat.le_refl _) hgrow
        have hc8 : cells8 ((mix3 s.data.toList t.data.toList u.data.toList).take (k + 1)) = cells8 ((mix3 s.data.toList t.data.toList u.data.toList).take k) ++ [.int .u8 (z : Int)] := by rw [HT.out, cells8_snoc, HX.out]
        rw [← hc8] at hown3
        go_wp2_with fail
        refine ⟨⟨k + 1, by omega, by go_num, hown3, hbe3⟩, ?_⟩
        simp [intOf]
        omega
    · obtain rfl : k = s.size := by omega
      rw [List.take_of_length_le (by rw [HL.out]; simp)] at hown
      have hlen : (mix3 s.data.toList t.data.toList u.data.toList).length = s.size := by rw [HL.out, Array.length_toList]; rfl
      clear HL HM
      generalize hL : mix3 s.data.toList t.data.toList u.data.toList = L at hown hlen
      have HLL := Lib.hid hL
      clear hL
      rcases hown.2 with ⟨rfl, h0⟩ | ⟨g, cap, cur, rfl, _⟩
      · have hnil : L = [] := List.eq_nil_of_length_eq_zero (by omega)
        subst hnil
        have hcv : (convert 39 9 (.slice none 0 0)).run Tryd.prog wr = .ok (.string ⟨#[]⟩) wr := by kernel_rfl
        go_wp2_with fail
        go_ret
        exact ⟨by rw [HLL.out]; rfl, hbe⟩
      · have hcv : (convert 39 9 (.slice (some ⟨g, 0, none⟩) s.size cap)).run Tryd.prog wr = .ok (.string ⟨L.toArray⟩) wr := by
          have := run_convert_bytes_back (P := Tryd.prog) wr 39 9 5 ⟨g, 0, none⟩ cap L Tryd.underlying39 Tryd.underlying5 Tryd.underlying9 (fun j hj =>
            hown.cells rfl j _ (by simp [cells8, hj]))
          rwa [hlen] at this
        clear hlen
        go_wp2_with fail
        go_ret
        exact ⟨by rw [HLL.out]; rfl, hbe⟩

theorem run_min_int4 (ts : Array TypeId) (t : TypeId) (x y z v : Int) (w : World) : (Builtin.min_ ts t #[.int .i64 x, .int .i64 y, .int .i64 z, .int .i64 v]).run Tryd.prog w =
    .ok (.int .i64 (if v < (if z < (if y < x then y else x) then z else (if y < x then y else x)) then v else (if z < (if y < x then y else x) then z else (if y < x then y else x)))) w := by
  simp [Builtin.min_, Builtin.min2]
theorem min4 (ts : Array TypeId) (t : TypeId) (x y z : Nat) : ∃ m : Nat, m ≤ x ∧ m ≤ y ∧ m ≤ z ∧ m ≤ 200 ∧ ∀ w : World, (Builtin.min_ ts t #[.int .i64 (x : Int), .int .i64 (y : Int), .int .i64 (z : Int), .int .i64 200]).run Tryd.prog w = .ok (.int .i64 (m : Int)) w := by
  refine ⟨min (min (min x y) z) 200, by omega, by omega, by omega, by omega, fun w => ?_⟩
  rw [run_min_int4]
  congr 2
  split <;> split <;> split <;> omega
theorem mk_size (l : List UInt8) : (⟨l.toArray⟩ : ByteArray).size = l.length := by simp [ByteArray.size]
theorem mk_list (l : List UInt8) : (⟨l.toArray⟩ : ByteArray).data.toList = l := by simp

set_option maxRecDepth 100000 in
set_option maxHeartbeats 2000000 in
theorem CrcMixed_1 (s t u : ByteArray) (w : World) (aA aT aN aW aS : Addr) (h : CInv w aA aT aN aW aS) (hs : s.size ≤ 9223372036854775807) (ht : t.size ≤ 9223372036854775807) (hu : u.size ≤ 9223372036854775807) : Calls Tryd.prog 6 #[.int .i64 1, .string s, .string t, .string u] w (Ret (.bool true) w) := by
  obtain ⟨m, m1, m2, m3, m4, hmin⟩ := min4 #[3, 3, 3, 3] 3 s.size t.size u.size
  have z0 : (0 : Int) ≤ (m : Int) := by omega
  have z1 : (m : Int) ≤ (s.size : Int) := by omega
  have z2 : (m : Int) ≤ (t.size : Int) := by omega
  have z3 : (m : Int) ≤ (u.size : Int) := by omega
  have s1 : (s.extract 0 m).size = m := by rw [ByteArray.size_extract]; omega
  have s2 : (t.extract 0 m).size = m := by rw [ByteArray.size_extract]; omega
  have s3 : (u.extract 0 m).size = m := by rw [ByteArray.size_extract]; omega
  have S1 := Lib.hid s1
  have S2 := Lib.hid s2
  have S3 := Lib.hid s3
  clear s1 s2 s3
  go_enter Tryd.func6, Tryd.ntmps6
  go_wp2_with fail
  refine (cshown_any _ aA aT aN aW aS h).mono ?_
  rintro e w1 ⟨rfl, hb1⟩
  go_wp2_with fail
  generalize s.extract 0 m = s' at S1
  generalize t.extract 0 m = t' at S2
  generalize u.extract 0 m = u' at S3
  clear hmin z1 z2 z3
  refine (Of_1 _ _ aA aT aN aW aS (h.below hb1) (by rw [S1.out]; omega)).mono ?_
  rintro e w2 ⟨rfl, hb2'⟩
  have hb2 := ext_trans hb1 hb2'
  clear hb1 hb2'
  go_wp2_with fail
  refine (Of_1 _ _ aA aT aN aW aS (h.below hb2) (by rw [S2.out]; omega)).mono ?_
  rintro e w3 ⟨rfl, hb3'⟩
  have hb3 := ext_trans hb2 hb3'
  clear hb2 hb3'
  go_wp2_with fail
  refine (Of_1 _ _ aA aT aN aW aS (h.below hb3) (by rw [S3.out]; omega)).mono ?_
  rintro e w4 ⟨rfl, hb4'⟩
  have hb4 := ext_trans hb3 hb4'
  clear hb3 hb4'
  go_wp2_with fail
  refine (mixed_any s' t' u' _ (by rw [S1.out]; exact m4) (by rw [S1.out, S2.out]) (by rw [S1.out, S3.out])).mono ?_
  rintro e w5 ⟨rfl, hb5'⟩
  have hb5 := ext_trans hb4 hb5'
  clear hb4 hb5'
  have HL : ∀ x : ByteArray, x.data.toList.length = x.size := fun x => by rw [Array.length_toList]; rfl
  have hms := mixed_sum false s'.data.toList t'.data.toList u'.data.toList (by rw [HL, HL, S1.out, S2.out]) (by rw [HL, HL, S1.out, S3.out])
  have hml := mix3_length s'.data.toList t'.data.toList u'.data.toList (by rw [HL, HL, S1.out, S2.out]) (by rw [HL, HL, S1.out, S3.out])
  have HMS := Lib.hid hms
  have hsz : (⟨(mix3 s'.data.toList t'.data.toList u'.data.toList).toArray⟩ : ByteArray).size ≤ 9223372036854775807 := by rw [mk_size, hml, HL, S1.out]; omega
  clear hms hml HL
  go_wp2_with fail
  refine (Of_1 _ _ aA aT aN aW aS (h.below hb5) hsz).mono ?_
  rintro e w6 ⟨rfl, hb6'⟩
  have hb6 := ext_trans hb5 hb6'
  clear hb5 hb6' hsz
  rw [mk_list, HMS.out]
  clear HMS
  have l1 := sumB_length false s'.data.toList
  have l2 := sumB_length false t'.data.toList
  have l3 := sumB_length false u'.data.toList
  generalize sumB false s'.data.toList = a at l1
  generalize sumB false t'.data.toList = b at l2
  generalize sumB false u'.data.toList = c at l3
  have k1 : (⟨a.toArray⟩ : ByteArray).size = 2 := by rw [mk_size, l1]; rfl
  have k2 : (⟨b.toArray⟩ : ByteArray).size = 2 := by rw [mk_size, l2]; rfl
  have k3 : (⟨c.toArray⟩ : ByteArray).size = 2 := by rw [mk_size, l3]; rfl
  obtain ⟨A, hA⟩ : ∃ A : ByteArray, (⟨a.toArray⟩ : ByteArray) = A := ⟨_, rfl⟩
  obtain ⟨B, hB⟩ : ∃ B : ByteArray, (⟨b.toArray⟩ : ByteArray) = B := ⟨_, rfl⟩
  obtain ⟨C, hC⟩ : ∃ C : ByteArray, (⟨c.toArray⟩ : ByteArray) = C := ⟨_, rfl⟩
  have ha' : A.data.toList = a := by rw [← hA]
  have hb' : B.data.toList = b := by rw [← hB]
  have hc' : C.data.toList = c := by rw [← hC]
  rw [hA] at k1
  rw [hB] at k2
  rw [hC] at k3
  rw [hA, hB, hC, ← ha', ← hb', ← hc']
  have K1 := Lib.hid k1
  have K2 := Lib.hid k2
  have K3 := Lib.hid k3
  have q1 : ((B.size : Int) == (A.size : Int)) = true := by rw [k1, k2]; rfl
  have q2 : ((C.size : Int) == (A.size : Int)) = true := by rw [k1, k3]; rfl
  clear l1 l2 l3 hA hB hC ha' hb' hc' k1 k2 k3
  generalize hD : (⟨(mix3 A.data.toList B.data.toList C.data.toList).toArray⟩ : ByteArray) = D
  have HD := Lib.hid hD
  clear hD
  go_wp2_with fail
  refine (mixed_any A B C _ (by rw [K1.out]; omega) (by rw [K1.out, K2.out]) (by rw [K1.out, K3.out])).mono ?_
  rintro e w7 ⟨rfl, hb7'⟩
  have hb7 := ext_trans hb6 hb7'
  clear hb6 hb7'
  rw [HD.out]
  go_wp2_with fail
  go_ret
  exact ⟨by first | rfl | simp, hb7⟩

set_option maxRecDepth 100000 in
set_option maxHeartbeats 2000000 in
theorem CrcMixed_2 (s t u : ByteArray) (w : World) (aA aT aN aW aS : Addr) (h : CInv w aA aT aN aW aS) (hs : s.size ≤ 9223372036854775807) (ht : t.size ≤ 9223372036854775807) (hu : u.size ≤ 9223372036854775807) : Calls Tryd.prog 6 #[.int .i64 2, .string s, .string t, .string u] w (Ret (.bool true) w) := by
  obtain ⟨m, m1, m2, m3, m4, hmin⟩ := min4 #[3, 3, 3, 3] 3 s.size t.size u.size
  have z0 : (0 : Int) ≤ (m : Int) := by omega
  have z1 : (m : Int) ≤ (s.size : Int) := by omega
  have z2 : (m : Int) ≤ (t.size : Int) := by omega
  have z3 : (m : Int) ≤ (u.size : Int) := by omega
  have s1 : (s.extract 0 m).size = m := by rw [ByteArray.size_extract]; omega
  have s2 : (t.extract 0 m).size = m := by rw [ByteArray.size_extract]; omega
  have s3 : (u.extract 0 m).size = m := by rw [ByteArray.size_extract]; omega
  have S1 := Lib.hid s1
  have S2 := Lib.hid s2
  have S3 := Lib.hid s3
  clear s1 s2 s3
  go_enter Tryd.func6, Tryd.ntmps6
  go_wp2_with fail
  refine (cshown_any _ aA aT aN aW aS h).mono ?_
  rintro e w1 ⟨rfl, hb1⟩
  go_wp2_with fail
  generalize s.extract 0 m = s' at S1
  generalize t.extract 0 m = t' at S2
  generalize u.extract 0 m = u' at S3
  clear hmin z1 z2 z3
  refine (Of_2 _ _ aA aT aN aW aS (h.below hb1) (by rw [S1.out]; omega)).mono ?_
  rintro e w2 ⟨rfl, hb2'⟩
  have hb2 := ext_trans hb1 hb2'
  clear hb1 hb2'
  go_wp2_with fail
  refine (Of_2 _ _ aA aT aN aW aS (h.below hb2) (by rw [S2.out]; omega)).mono ?_
  rintro e w3 ⟨rfl, hb3'⟩
  have hb3 := ext_trans hb2 hb3'
  clear hb2 hb3'
  go_wp2_with fail
  refine (Of_2 _ _ aA aT aN aW aS (h.below hb3) (by rw [S3.out]; omega)).mono ?_
  rintro e w4 ⟨rfl, hb4'⟩
  have hb4 := ext_trans hb3 hb4'
  clear hb3 hb4'
  go_wp2_with fail
  refine (mixed_any s' t' u' _ (by rw [S1.out]; exact m4) (by rw [S1.out, S2.out]) (by rw [S1.out, S3.out])).mono ?_
  rintro e w5 ⟨rfl, hb5'⟩
  have hb5 := ext_trans hb4 hb5'
  clear hb4 hb5'
  have HL : ∀ x : ByteArray, x.data.toList.length = x.size := fun x => by rw [Array.length_toList]; rfl
  have hms := mixed_sum true s'.data.toList t'.data.toList u'.data.toList (by rw [HL, HL, S1.out, S2.out]) (by rw [HL, HL, S1.out, S3.out])
  have hml := mix3_length s'.data.toList t'.data.toList u'.data.toList (by rw [HL, HL, S1.out, S2.out]) (by rw [HL, HL, S1.out, S3.out])
  have HMS := Lib.hid hms
  have hsz : (⟨(mix3 s'.data.toList t'.data.toList u'.data.toList).toArray⟩ : ByteArray).size ≤ 9223372036854775807 := by rw [mk_size, hml, HL, S1.out]; omega
  clear hms hml HL
  go_wp2_with fail
  refine (Of_2 _ _ aA aT aN aW aS (h.below hb5) hsz).mono ?_
  rintro e w6 ⟨rfl, hb6'⟩
  have hb6 := ext_trans hb5 hb6'
  clear hb5 hb6' hsz
  rw [mk_list, HMS.out]
  clear HMS
  have l1 := sumB_length true s'.data.toList
  have l2 := sumB_length true t'.data.toList
  have l3 := sumB_length true u'.data.toList
  generalize sumB true s'.data.toList = a at l1
  generalize sumB true t'.data.toList = b at l2
  generalize sumB true u'.data.toList = c at l3
  have k1 : (⟨a.toArray⟩ : ByteArray).size = 4 := by rw [mk_size, l1]; rfl
  have k2 : (⟨b.toArray⟩ : ByteArray).size = 4 := by rw [mk_size, l2]; rfl
  have k3 : (⟨c.toArray⟩ : ByteArray).size = 4 := by rw [mk_size, l3]; rfl
  obtain ⟨A, hA⟩ : ∃ A : ByteArray, (⟨a.toArray⟩ : ByteArray) = A := ⟨_, rfl⟩
  obtain ⟨B, hB⟩ : ∃ B : ByteArray, (⟨b.toArray⟩ : ByteArray) = B := ⟨_, rfl⟩
  obtain ⟨C, hC⟩ : ∃ C : ByteArray, (⟨c.toArray⟩ : ByteArray) = C := ⟨_, rfl⟩
  have ha' : A.data.toList = a := by rw [← hA]
  have hb' : B.data.toList = b := by rw [← hB]
  have hc' : C.data.toList = c := by rw [← hC]
  rw [hA] at k1
  rw [hB] at k2
  rw [hC] at k3
  rw [hA, hB, hC, ← ha', ← hb', ← hc']
  have K1 := Lib.hid k1
  have K2 := Lib.hid k2
  have K3 := Lib.hid k3
  have q1 : ((B.size : Int) == (A.size : Int)) = true := by rw [k1, k2]; rfl
  have q2 : ((C.size : Int) == (A.size : Int)) = true := by rw [k1, k3]; rfl
  clear l1 l2 l3 hA hB hC ha' hb' hc' k1 k2 k3
  generalize hD : (⟨(mix3 A.data.toList B.data.toList C.data.toList).toArray⟩ : ByteArray) = D
  have HD := Lib.hid hD
  clear hD
  go_wp2_with fail
  refine (mixed_any A B C _ (by rw [K1.out]; omega) (by rw [K1.out, K2.out]) (by rw [K1.out, K3.out])).mono ?_
  rintro e w7 ⟨rfl, hb7'⟩
  have hb7 := ext_trans hb6 hb7'
  clear hb6 hb7'
  rw [HD.out]
  go_wp2_with fail
  go_ret
  exact ⟨by first | rfl | simp, hb7⟩

set_option maxRecDepth 100000 in
set_option maxHeartbeats 2000000 in
theorem CrcMixed_0 (s t u : ByteArray) (w : World) (aA aT aN aW aS : Addr) (h : CInv w aA aT aN aW aS) (hs : s.size ≤ 9223372036854775807) (ht : t.size ≤ 9223372036854775807) (hu : u.size ≤ 9223372036854775807) : Calls Tryd.prog 6 #[.int .i64 0, .string s, .string t, .string u] w (Ret (.bool true) w) := by
  obtain ⟨m, m1, m2, m3, m4, hmin⟩ := min4 #[3, 3, 3, 3] 3 s.size t.size u.size
  have z0 : (0 : Int) ≤ (m : Int) := by omega
  have z1 : (m : Int) ≤ (s.size : Int) := by omega
  have z2 : (m : Int) ≤ (t.size : Int) := by omega
  have z3 : (m : Int) ≤ (u.size : Int) := by omega
  have s1 : (s.extract 0 m).size = m := by rw [ByteArray.size_extract]; omega
  have s2 : (t.extract 0 m).size = m := by rw [ByteArray.size_extract]; omega
  have s3 : (u.extract 0 m).size = m := by rw [ByteArray.size_extract]; omega
  have S1 := Lib.hid s1
  have S2 := Lib.hid s2
  have S3 := Lib.hid s3
  clear s1 s2 s3
  go_enter Tryd.func6, Tryd.ntmps6
  go_wp2_with fail
  refine (cshown_any _ aA aT aN aW aS h).mono ?_
  rintro e w1 ⟨rfl, hb1⟩
  go_wp2_with fail
  generalize s.extract 0 m = s' at S1
  generalize t.extract 0 m = t' at S2
  generalize u.extract 0 m = u' at S3
  clear hmin z1 z2 z3
  refine (Of_0 _ _ aA aT aN aW aS (h.below hb1)).mono ?_
  rintro e w2 ⟨rfl, hb2'⟩
  have hb2 := ext_trans hb1 hb2'
  clear hb1 hb2'
  go_wp2_with fail
  refine (Of_0 _ _ aA aT aN aW aS (h.below hb2)).mono ?_
  rintro e w3 ⟨rfl, hb3'⟩
  have hb3 := ext_trans hb2 hb3'
  clear hb2 hb3'
  go_wp2_with fail
  refine (Of_0 _ _ aA aT aN aW aS (h.below hb3)).mono ?_
  rintro e w4 ⟨rfl, hb4'⟩
  have hb4 := ext_trans hb3 hb4'
  clear hb3 hb4'
  go_wp2_with fail
  refine (mixed_any s' t' u' _ (by rw [S1.out]; exact m4) (by rw [S1.out, S2.out]) (by rw [S1.out, S3.out])).mono ?_
  rintro e w5 ⟨rfl, hb5'⟩
  have hb5 := ext_trans hb4 hb5'
  clear hb4 hb5'
  go_wp2_with fail
  refine (Of_0 _ _ aA aT aN aW aS (h.below hb5)).mono ?_
  rintro e w6 ⟨rfl, hb6'⟩
  have hb6 := ext_trans hb5 hb6'
  clear hb5 hb6'
  go_wp2_with fail
  refine (mixed_any ByteArray.empty ByteArray.empty ByteArray.empty _ (by decide) rfl rfl).mono ?_
  rintro e w7 ⟨rfl, hb7'⟩
  have hb7 := ext_trans hb6 hb7'
  clear hb6 hb7'
  go_wp2_with fail
  go_ret
  exact ⟨by first | rfl | simp, hb7⟩
set_option maxRecDepth 100000 in
set_option maxHeartbeats 2000000 in
theorem CrcMixed_no (n : Int) (s t u : ByteArray) (w : World) (aA aT aN aW aS : Addr) (h : CInv w aA aT aN aW aS) (hs : s.size ≤ 9223372036854775807) (ht : t.size ≤ 9223372036854775807) (hu : u.size ≤ 9223372036854775807) (h0 : n ≠ 0) (h1 : n ≠ 1) (h2 : n ≠ 2) : Calls Tryd.prog 6 #[.int .i64 n, .string s, .string t, .string u] w (Ret (.bool true) w) := by
  have H0 := Lib.hid h0
  have H1 := Lib.hid h1
  have H2 := Lib.hid h2
  clear h0 h1 h2
  obtain ⟨m, m1, m2, m3, m4, hmin⟩ := min4 #[3, 3, 3, 3] 3 s.size t.size u.size
  have z0 : (0 : Int) ≤ (m : Int) := by omega
  have z1 : (m : Int) ≤ (s.size : Int) := by omega
  have z2 : (m : Int) ≤ (t.size : Int) := by omega
  have z3 : (m : Int) ≤ (u.size : Int) := by omega
  have s1 : (s.extract 0 m).size = m := by rw [ByteArray.size_extract]; omega
  have s2 : (t.extract 0 m).size = m := by rw [ByteArray.size_extract]; omega
  have s3 : (u.extract 0 m).size = m := by rw [ByteArray.size_extract]; omega
  have S1 := Lib.hid s1
  have S2 := Lib.hid s2
  have S3 := Lib.hid s3
  clear s1 s2 s3
  go_enter Tryd.func6, Tryd.ntmps6
  go_wp2_with fail
  refine (cshown_any _ aA aT aN aW aS h).mono ?_
  rintro e w1 ⟨rfl, hb1⟩
  go_wp2_with fail
  generalize s.extract 0 m = s' at S1
  generalize t.extract 0 m = t' at S2
  generalize u.extract 0 m = u' at S3
  clear hmin z1 z2 z3
  refine (Of_no n _ _ aA aT aN aW aS (h.below hb1) H0.out H1.out H2.out).mono ?_
  rintro e w2 ⟨rfl, hb2'⟩
  have hb2 := ext_trans hb1 hb2'
  clear hb1 hb2'
  go_wp2_with fail
  refine (Of_no n _ _ aA aT aN aW aS (h.below hb2) H0.out H1.out H2.out).mono ?_
  rintro e w3 ⟨rfl, hb3'⟩
  have hb3 := ext_trans hb2 hb3'
  clear hb2 hb3'
  go_wp2_with fail
  refine (Of_no n _ _ aA aT aN aW aS (h.below hb3) H0.out H1.out H2.out).mono ?_
  rintro e w4 ⟨rfl, hb4'⟩
  have hb4 := ext_trans hb3 hb4'
  clear hb3 hb4'
  go_wp2_with fail
  refine (mixed_any s' t' u' _ (by rw [S1.out]; exact m4) (by rw [S1.out, S2.out]) (by rw [S1.out, S3.out])).mono ?_
  rintro e w5 ⟨rfl, hb5'⟩
  have hb5 := ext_trans hb4 hb5'
  clear hb4 hb5'
  go_wp2_with fail
  refine (Of_no n _ _ aA aT aN aW aS (h.below hb5) H0.out H1.out H2.out).mono ?_
  rintro e w6 ⟨rfl, hb6'⟩
  have hb6 := ext_trans hb5 hb6'
  clear hb5 hb6'
  go_wp2_with fail
  go_ret
  exact ⟨by first | rfl | simp, hb6⟩
theorem CrcMixed_law (n : Int) (s t u : ByteArray) (w : World) (aA aT aN aW aS : Addr) (h : CInv w aA aT aN aW aS) (hs : s.size ≤ 9223372036854775807) (ht : t.size ≤ 9223372036854775807) (hu : u.size ≤ 9223372036854775807) : Calls Tryd.prog 6 #[.int .i64 n, .string s, .string t, .string u] w (Ret (.bool true) w) := by
  by_cases h1 : n = 1
  · subst h1; exact CrcMixed_1 s t u w aA aT aN aW aS h hs ht hu
  by_cases h2 : n = 2
  · subst h2; exact CrcMixed_2 s t u w aA aT aN aW aS h hs ht hu
  by_cases h0 : n = 0
  · subst h0; exact CrcMixed_0 s t u w aA aT aN aW aS h hs ht hu
  · exact CrcMixed_no n s t u w aA aT aN aW aS h hs ht hu h0 h1 h2

end Go.Proofs.YtdijnffefapcfaaDoor
