/-
  Package postriderref02 (the document's answer for groups): the walks of Decode and All. No condition.
-/
import Derived.Test.YtcahfdhfdigjaaaDoorSdG
namespace Go.Proofs.YtcahfdhfdigjaaaDoor
open Go.RowKit

theorem drop_get (s : ByteArray) (p i : Nat) (h : p + i < s.size) : (s.data.toList.drop p)[i]? = some s[p + i] := by
  rw [List.getElem?_drop, Array.getElem?_toList]
  exact Array.getElem?_eq_getElem h
theorem scan_some {s : ByteArray} {p k : Nat} (h : endN (s.data.toList.drop p) = some k) : p + k < s.size ∧ (∀ i (hs : p + i < s.size), i < k → 128 ≤ s[p + i].toNat) ∧ (∀ hs : p + k < s.size, s[p + k].toNat < 128) := by
  obtain ⟨m, b, t, e1, e2, e3, e4⟩ := endN_some h
  have hl : (s.data.toList.drop p).length = m.length + 1 + t.length := by rw [e1]; simp; omega
  rw [List.length_drop, list_size] at hl
  refine ⟨by omega, fun i hs hi => ?_, fun hs => ?_⟩
  · have := drop_get s p i hs
    rw [e1, List.getElem?_append_left (by omega)] at this
    exact e3 _ (List.mem_of_getElem? this)
  · have := drop_get s p k hs
    rw [e1, List.getElem?_append_right (by omega), e2, Nat.sub_self, List.getElem?_cons_zero] at this
    injection this with this
    rw [← this]; exact e4
theorem scan_none {s : ByteArray} {p : Nat} (h : endN (s.data.toList.drop p) = none) : ∀ i (hs : p + i < s.size), 128 ≤ s[p + i].toNat := fun i hs =>
  endN_none h _ (List.mem_of_getElem? (drop_get s p i hs))
theorem endV_none' {s : ByteArray} {p : Nat} (h : endV s (p : Int) = (0, false)) : endN (s.data.toList.drop p) = none := by
  rw [endV, if_neg (by omega), Int.toNat_natCast] at h
  cases he : endN (s.data.toList.drop p) with
  | none => rfl
  | some k =>
    rw [he] at h
    have := congrArg Prod.snd h
    cases this
theorem endV_some' {s : ByteArray} {p k : Nat} (h : endV s (p : Int) = (((p + k : Nat) : Int), true)) : endN (s.data.toList.drop p) = some k := by
  rw [endV, if_neg (by omega), Int.toNat_natCast] at h
  cases he : endN (s.data.toList.drop p) with
  | none =>
    rw [he] at h
    have := congrArg Prod.snd h
    cases this
  | some j =>
    rw [he] at h
    injection h with h _
    have : j = k := by omega
    rw [this]

set_option maxRecDepth 100000 in
theorem rDecode_none (s : ByteArray) (p : Nat) (w : World) (hs : s.size ≤ 9223372036854775806) (hp : p ≤ 9223372036854775807) (h : endN (s.data.toList.drop p) = none) :
    Calls Tryd.prog 24 #[.string s, .int .i64 (p : Int)] w (Ret (sdR ((0, 0), 11)) w) := by
  unfold sdR
  have hsc := scan_none h
  have hq0 : ¬ ((p : Int) < 0) := by omega
  by_cases hps : s.size < p
  · have hq1 : (s.size : Int) < (p : Int) := by omega
    go_enter Tryd.func24, Tryd.ntmps24
    go_wp2_with fail
    exact bodyPost_ret (v := .tuple #[.int .i64 0, .int .i64 0, .int .i64 11]) (by simp [results, Tryd.results24]) rfl ⟨rfl, ext_refl _⟩
  · have hq1 : ¬ (s.size : Int) < (p : Int) := by omega
    go_enter Tryd.func24, Tryd.ntmps24
    go_wp2_with fail
    go_loop [7] (fun u => ∃ j : Nat, u = .int .i64 ((p + j : Nat) : Int) ∧ p + j ≤ s.size) (fun u => s.size - (intOf u).toNat)
    case atStart => exact ⟨0, rfl, by omega⟩
    case round =>
      obtain ⟨j, rfl, hj⟩ := hrel
      by_cases hlt : p + j < s.size
      · have hb := hsc j hlt
        have hq2 : ((p + j : Nat) : Int) < (s.size : Int) := by omega
        go_wp2_with fail
        go_round
        case rel => exact ⟨j + 1, by go_num, by omega⟩
        case measure => simp [intOf]; omega
      · obtain hpj : p + j = s.size := by omega
        have hq2 : ¬ ((p + j : Nat) : Int) < (s.size : Int) := by omega
        have hq3 : (((p + j : Nat) : Int) == (s.size : Int)) = true := by simp; omega
        rw [hpj] at hq2 ⊢
        go_wp2_with fail
        exact bodyPost_ret (v := .tuple #[.int .i64 0, .int .i64 0, .int .i64 11]) (by simp [results, Tryd.results24]) rfl ⟨rfl, ext_refl _⟩

set_option maxRecDepth 100000 in
theorem rDecode_neg (s : ByteArray) (a : Int) (w : World) (h : a < 0) :
    Calls Tryd.prog 24 #[.string s, .int .i64 a] w (Ret (sdR ((0, 0), 11)) w) := by
  unfold sdR
  go_enter Tryd.func24, Tryd.ntmps24
  go_wp2_with fail
  exact bodyPost_ret (v := .tuple #[.int .i64 0, .int .i64 0, .int .i64 11]) (by simp [results, Tryd.results24]) rfl ⟨rfl, ext_refl _⟩

set_option maxRecDepth 100000 in
theorem rDecode_form (s : ByteArray) (p k : Nat) (w : World) (hs : s.size ≤ 9223372036854775806) (h : endN (s.data.toList.drop p) = some k) (hp : p < s.size) (hb : s[p].toNat = 128) :
    Calls Tryd.prog 24 #[.string s, .int .i64 (p : Int)] w (Ret (sdR ((0, 0), 20)) w) := by
  unfold sdR
  obtain ⟨h1, h2, h3⟩ := scan_some h
  have h3 := h3 h1
  have hq0 : ¬ ((p : Int) < 0) := by omega
  have hq1 : ¬ (s.size : Int) < (p : Int) := by omega
  go_enter Tryd.func24, Tryd.ntmps24
  go_wp2_with fail
  go_loop [7] (fun u => ∃ j : Nat, u = .int .i64 ((p + j : Nat) : Int) ∧ j ≤ k) (fun u => s.size - (intOf u).toNat)
  case atStart => exact ⟨0, rfl, by omega⟩
  case round =>
    obtain ⟨j, rfl, hj⟩ := hrel
    have hlt : p + j < s.size := by omega
    have hq2 : ((p + j : Nat) : Int) < (s.size : Int) := by omega
    by_cases hjk : j < k
    · have hb := h2 j hlt hjk
      go_wp2_with fail
      go_round
      case rel => exact ⟨j + 1, by go_num, by omega⟩
      case measure => simp [intOf]; omega
    · obtain rfl : j = k := by omega
      have hq3 : (((p + j : Nat) : Int) == (s.size : Int)) = false := by simp; omega
      have hq4 : ¬ ((p : Int) + (j : Int) = (s.size : Int)) := by omega
      have hb' : ¬ 128 ≤ s[p + j].toNat := by omega
      go_wp2_with fail
      exact bodyPost_ret (v := .tuple #[.int .i64 0, .int .i64 0, .int .i64 20]) (by simp [results, Tryd.results24]) rfl ⟨rfl, ext_refl _⟩

theorem step_wrap (v0 b v1 : Nat) (hv : v0 ≤ 281474976710655) (hb : b < 256) (hw : v1 = v0 * 128 + b % 128) : wrap64 (128 * (v0 : Int) + (wrap64 (b : Int)).tmod 128) = (v1 : Int) := by
  rw [IntWalk.wrap64_in (b : Int) ⟨by omega, by omega⟩, Int.tmod_eq_emod_of_nonneg (by omega), IntWalk.wrap64_in _ ⟨by omega, by omega⟩]
  omega
/-- What Decode tells at groups that tell v. -/
def numR (v : Nat) (q : Int) : Value := if v ≤ 281474976710655 then .tuple #[.int .i64 (v : Int), .int .i64 q, .int .i64 0] else .tuple #[.int .i64 0, .int .i64 0, .int .i64 10]

set_option maxRecDepth 100000 in
set_option maxHeartbeats 1000000 in
theorem rDecode_num (s : ByteArray) (p k : Nat) (w : World) (hs : s.size ≤ 9223372036854775806) (h : endN (s.data.toList.drop p) = some k) (hp : p < s.size) (hb : ¬ s[p].toNat = 128) :
    Calls Tryd.prog 24 #[.string s, .int .i64 (p : Int)] w (Ret (numR (v7 ((s.data.toList.drop p).take (k + 1))) (((p + (k + 1) : Nat) : Int))) w) := by
  obtain ⟨h1, h2, h3⟩ := scan_some h
  have h3 := h3 h1
  have hq0 : ¬ ((p : Int) < 0) := by omega
  have hq1 : ¬ (s.size : Int) < (p : Int) := by omega
  go_enter Tryd.func24, Tryd.ntmps24
  go_wp2_with fail
  go_loop [7] (fun u => ∃ j : Nat, u = .int .i64 ((p + j : Nat) : Int) ∧ j ≤ k) (fun u => s.size - (intOf u).toNat)
  case atStart => exact ⟨0, rfl, by omega⟩
  case round =>
    obtain ⟨j, rfl, hj⟩ := hrel
    have hlt : p + j < s.size := by omega
    have hq2 : ((p + j : Nat) : Int) < (s.size : Int) := by omega
    by_cases hjk : j < k
    · have hb := h2 j hlt hjk
      go_wp2_with fail
      go_round
      case rel => exact ⟨j + 1, by go_num, by omega⟩
      case measure => simp [intOf]; omega
    · obtain rfl : j = k := by omega
      have hq3 : (((p + j : Nat) : Int) == (s.size : Int)) = false := by simp; omega
      have hq4 : ¬ ((p : Int) + (j : Int) = (s.size : Int)) := by omega
      have hb' : ¬ 128 ≤ s[p + j].toNat := by omega
      have hbb : ((s[p].toNat : Int) == 128) = false := by simp; omega
      go_wp2_with fail
      try simp only [hbb]
      clear hbb hb' hq3 hq4 hq2 hlt h2 h3 hb
      go_loop [8, 9] (fun n u => ∃ i : Nat, n = .int .i64 ((v7 ((s.data.toList.drop p).take i) : Nat) : Int) ∧ u = .int .i64 ((p + i : Nat) : Int) ∧ i ≤ j + 1 ∧ v7 ((s.data.toList.drop p).take i) ≤ 281474976710655) (fun _ u => p + j + 1 - (intOf u).toNat)
      case atStart => exact ⟨0, by simp [v7], rfl, by omega, by simp [v7]⟩
      case round =>
        obtain ⟨i, rfl, rfl, hi, hv⟩ := hrel
        by_cases hij : i < j + 1
        · have hw := v7_step s p i (by omega)
          have hq5 : ((p + i : Nat) : Int) ≤ ((p + j : Nat) : Int) := by omega
          have hq6 : p + i < s.size := by omega
          have hq7 : (0 : Int) ≤ (p : Int) + (i : Int) := by omega
          have hq8 : (p : Int) + (i : Int) < (s.size : Int) := by omega
          generalize hv1 : v7 ((s.data.toList.drop p).take (i + 1)) = v1 at hw
          generalize hv0 : v7 ((s.data.toList.drop p).take i) = v0 at hw hv
          have H1 := Lib.hid hv1
          have H0 := Lib.hid hv0
          clear hv1 hv0
          have hwv := step_wrap v0 s[p + i].toNat v1 hv s[p + i].toNat_lt hw
          have HW := Lib.hid hwv
          by_cases hle : v1 ≤ 281474976710655
          · have hq9 : ¬ (281474976710655 < wrap64 (128 * (v0 : Int) + (wrap64 (s[p + i].toNat : Int)).tmod 128)) := by rw [hwv]; omega
            clear hwv
            go_wp2_with fail
            go_round
            case rel => exact ⟨i + 1, by rw [H1.out, HW.out], by go_num, by omega, by rw [H1.out]; exact hle⟩
            case measure => simp [intOf]; omega
          · have hq9 : 281474976710655 < wrap64 (128 * (v0 : Int) + (wrap64 (s[p + i].toNat : Int)).tmod 128) := by rw [hwv]; omega
            clear hwv
            have hbig : ¬ v7 ((s.data.toList.drop p).take (j + 1)) ≤ 281474976710655 := by
              have := v7_take_mono (s.data.toList.drop p) (show i + 1 ≤ j + 1 by omega)
              rw [H1.out] at this
              omega
            have HB := Lib.hid hbig
            clear hbig
            go_wp2_with fail
            exact bodyPost_ret (v := .tuple #[.int .i64 0, .int .i64 0, .int .i64 10]) (by simp [results, Tryd.results24]) rfl ⟨by rw [numR, if_neg HB.out], ext_refl _⟩
        · obtain rfl : i = j + 1 := by omega
          have hq5 : ¬ ((p + (j + 1) : Nat) : Int) ≤ ((p + j : Nat) : Int) := by omega
          have HV := Lib.hid hv
          clear hv
          generalize hv1 : v7 ((s.data.toList.drop p).take (j + 1)) = v1 at *
          have H1 := Lib.hid hv1
          clear hv1
          go_wp2_with fail
          exact bodyPost_ret (v := .tuple #[.int .i64 (v1 : Int), .int .i64 ((p : Int) + (j : Int) + 1), .int .i64 0]) (by simp [results, Tryd.results24]) rfl ⟨by rw [numR, if_pos HV.out, show (p : Int) + ((j : Int) + 1) = (p : Int) + (j : Int) + 1 by omega], ext_refl _⟩

theorem rDecode_any (s : ByteArray) (a : Int) (w : World) (hs : s.size ≤ 9223372036854775806) (ha : a ≤ 9223372036854775807) :
    Calls Tryd.prog 24 #[.string s, .int .i64 a] w (Ret (sdR (sdV s a)) w) := by
  rcases nextL_cases s a with ⟨h1, h2⟩ | ⟨p, k, rfl, h1, h2, ⟨hp, h3, h4⟩ | ⟨hp, h3, ⟨h4, h5⟩ | ⟨h4, h5⟩⟩⟩
  · rw [sdV, h1]
    by_cases h : a < 0
    · exact rDecode_neg s a w h
    · obtain ⟨p, rfl⟩ := Int.eq_ofNat_of_zero_le (show 0 ≤ a by omega)
      exact rDecode_none s p w hs (by omega) (endV_none' h2)
  · rw [sdV, h3]
    exact rDecode_form s p k w hs (endV_some' h1) hp h4
  · rw [sdV, h5]
    have := rDecode_num s p k w hs (endV_some' h1) hp h3
    rw [numR, if_neg (by omega)] at this
    exact this
  · rw [sdV, h5]
    have := rDecode_num s p k w hs (endV_some' h1) hp h3
    rw [numR, if_pos h4, Int.natCast_add] at this
    exact this

set_option maxRecDepth 100000 in
set_option maxHeartbeats 2000000 in
theorem rAll_any (s : ByteArray) (w : World) (hs : s.size ≤ 1000000) :
    Calls Tryd.prog 20 #[.string s] w (AllRes (allV s).1 (allV s).2 w) := by
  obtain ⟨i0, hi0, hz0, hz1, hz2⟩ := info_parts infoI
  go_enter Tryd.func20, Tryd.ntmps20
  go_wp2_with fail
  go_loopw [4, 5] (fun out u wr => ∃ (p : Nat) (xs : List Nat), u = .int .i64 (p : Int) ∧ p ≤ s.size ∧ xs.length ≤ p ∧ allOf s.data.toList = (allOf (s.data.toList.drop p)).over xs ∧ wr.ownsRow w.heap.size 3 1 out xs.length (cellsI xs) ∧ Below w.heap.size w wr) (fun _ u _ => s.size - (intOf u).toNat)
  case atStart => exact ⟨0, [], rfl, by omega, by simp, by simp [AllR.over]; cases allOf s.data.toList <;> rfl, own_nil, ext_refl _⟩
  case round =>
    obtain ⟨p, xs, rfl, hp, hxs, hall, hown, hbe⟩ := hrel
    have HA := Lib.hid hall
    clear hall
    have HD := rDecode_any s (p : Int) wr (by omega) (by omega)
    by_cases hlt2 : p < s.size
    · have hq1 : (p : Int) < (s.size : Int) := by omega
      have hne : s.data.toList.drop p ≠ [] := fun e => by
        have := congrArg List.length e
        rw [List.length_drop, list_size, List.length_nil] at this
        omega
      have hst := allOf_step hne
      rw [← nextL_nat] at hst
      cases hx : nextL s (p : Int) with
      | bad x =>
        have hbn := bad_ne hx
        rw [hx] at hst
        rw [sdV, hx] at HD
        unfold sdR at HD
        have hv : allV s = ([], x) := by unfold allV; rw [HA.out, hst]; rfl
        have HV := Lib.hid hv
        have hbn' : (x != 0) = true := by rw [bne, hbn]; rfl
        clear hx hst hne hv
        go_wp2_with fail
        refine HD.mono ?_
        rintro e w1 ⟨rfl, hb1⟩
        go_wp2_with fail
        exact bodyPost_ret (results_tmp2 rfl _ _ _) rfl ⟨.slice none 0 0, by rw [HV.out]; rfl, by rw [HV.out]; exact own_nil, hbe.trans (hb1.mono hbe.size)⟩
      | ok n k =>
        rw [hx] at hst
        rw [sdV, hx] at HD
        unfold sdR at HD
        dsimp only at HD
        have hsd := sdL_sdec (l := s.data.toList.drop p) (n := n) (k := k) (by rw [← nextL_nat]; exact hx)
        obtain ⟨hn1, -, hk1, hk2⟩ := hsd
        rw [List.length_drop, list_size] at hk1
        have hal : allOf s.data.toList = (allOf (s.data.toList.drop (p + k))).over (xs ++ [n]) := by
          rw [HA.out, hst]
          dsimp only
          rw [over_push, List.drop_drop]
        have HL := Lib.hid hal
        clear hx hst hne hal
        go_wp2_with fail
        refine HD.mono ?_
        rintro e w1 ⟨rfl, hb1⟩
        have hown1 := own_below hown hb1
        have hw1 := hbe.trans (hb1.mono hbe.size)
        generalize hnv : (n : Int) = nv at *
        have HNV := Lib.hid hnv
        clear hnv hown
        go_wp2_with (at_builtin; refine wpList_append_lies _ rfl _ _ _ rfl w.heap.size 3 i0 (.int .i64 0) 1 8 Tryd.underlying31 hi0 hz0 hz1 hz2 rfl (by omega) u4 xs.length _ rfl (hown1.alloc _) ⟨w1.heap.size, 0, none⟩ 1 1 [.int .i64 nv] rfl rfl (new_one _ _ _) (fun u hu => by rw [List.mem_singleton.1 hu]; rfl) (by omega) (by unfold maxLen; omega) (by omega) (by have := hw1.size; simp; omega) _ rfl ?_; intro g' cap w3 hown3 hgrow hat hlt3)
        have hw3 : Below w.heap.size w w3 := below_append (hw1.alloc hw1.size _) (hown1.alloc _) (Nat.le_refl _) (Nat.le_refl _) hgrow
        exact ⟨⟨p + k, xs ++ [n], by rw [Int.natCast_add], by omega, by simp; omega, HL.out, by rw [List.length_append, cellsI_snoc, HNV.out]; exact hown3, hw3⟩, by simp [intOf]; omega⟩
    · have hq1 : ¬ (p : Int) < (s.size : Int) := by omega
      have hv : allV s = (xs, 0) := by
        unfold allV
        rw [HA.out, List.drop_of_length_le (by rw [list_size]; omega), allOf_nil]
        simp [AllR.over]
      have HV := Lib.hid hv
      clear hv
      go_wp2_with fail
      exact bodyPost_ret (results_tmp2 rfl _ _ _) rfl ⟨_, by rw [HV.out]; rfl, by rw [HV.out]; exact hown, hbe⟩

end Go.Proofs.YtcahfdhfdigjaaaDoor
