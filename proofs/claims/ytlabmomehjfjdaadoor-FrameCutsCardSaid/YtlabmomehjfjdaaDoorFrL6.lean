/-
  Package postriderlaw17: the law FrameCuts. Conditions: the listed variables hold what 'CInv' says.
-/
import Derived.Test.YtlabmomehjfjdaaDoorFrP
namespace Go.Proofs.YtlabmomehjfjdaaDoor
open Go.RowKit

theorem own_cap {w : World} {base : Nat} {e : TypeId} {size n : Nat} {V : Value} {xs : List Value} (h : w.ownsRow base e size V n xs) : ∀ A c, V = .slice A n c → n ≤ c := by
  intro A c e
  obtain ⟨-, ⟨rfl, h0⟩ | ⟨g, cap, cur, rfl, -, -, h1, -⟩⟩ := h
  · omega
  · injection e with _ _ e3
    omega

set_option maxRecDepth 100000 in
set_option maxHeartbeats 4000000 in
theorem FrameCuts_law (A : Option Addr) (n c : Nat) (xs : List RI) (at_ : Int) (w : World) (aA aT aN aW aS : Addr) (h : CInv w aA aT aN aW aS) (hx : xs.length = min n 10) (hr : RdR w A xs) (hd : ∀ x ∈ xs, x.d.size ≤ 9223372036854775807) :
    Calls Tryd.prog 8 #[.slice A n c, .int .i64 at_] w (Ret (.bool true) w) := by
  have FC := fun w' r' => FCut_any A n c xs w' hx r' hd
  generalize hys : xs.map RI.cut = ys at *
  have hyl : ys.length = min n 10 := by rw [← hys, List.length_map, hx]
  have hxy : xs.length = ys.length := by rw [hyl, hx]
  rw [hxy] at FC
  have hy10 : ys.length ≤ 10 := by omega
  clear hd hx hys hxy hyl
  go_enter Tryd.func8, Tryd.ntmps8
  go_wp2_with fail
  refine (fshown_any _ aA aT aN aW aS h).mono ?_
  rintro e w1 ⟨rfl, hb1⟩
  go_wp2_with fail
  refine (FC _ (hr.below hb1)).mono ?_
  rintro e w2 ⟨V, rfl, hown, hb2'⟩
  have hb2 := ext_trans hb1 hb2'
  have hcap := own_cap hown
  obtain ⟨-, B, c1, rfl, hrB⟩ := rdR_own hown
  have hcap : ys.length ≤ c1 := hcap _ _ rfl
  clear hown hb2' hb1 FC
  have L1 := fun w' h' r' => Lay_any B c1 ys.length ys w' aA aT aN aW aS h' rfl r' (by omega)
  go_wp2_with fail
  refine (L1 _ (h.below hb2) hrB).mono ?_
  rintro e w3 ⟨rfl, hb3'⟩
  have hrB3 := hrB.below hb3'
  have hb3 := ext_trans hb2 hb3'
  clear hb3' hb2 hrB L1
  rcases lay_cases ys with ⟨hok, hv⟩ | hv
  · rw [hv]
    dsimp only
    have HOK := Lib.hid hok
    have hll := lay_len ys hok
    have hFs : (⟨(layL (ys.map RI.n)).toArray⟩ : ByteArray).size ≤ 20140 := by rw [size_of]; omega
    have HSC := Lib.hid (fun a k hw => cut_scan hok a k hw)
    clear hok hv hll
    generalize (⟨(layL (ys.map RI.n)).toArray⟩ : ByteArray) = F at *
    by_cases g1 : at_ < 0
    · go_wp2_with fail
      go_ret
      exact ⟨rfl, hb3⟩
    · obtain ⟨a, rfl⟩ := Int.eq_ofNat_of_zero_le (show 0 ≤ at_ by omega)
      by_cases g2 : F.size < a
      · have i1 : (F.size : Int) < (a : Int) := by omega
        go_wp2_with fail
        go_ret
        exact ⟨rfl, hb3⟩
      · have i1 : ¬ (F.size : Int) < (a : Int) := by omega
        have i2 : (a : Int) ≤ (F.size : Int) := by omega
        have i3 : (0 : Int) ≤ (a : Int) := by omega
        go_wp2_with fail
        go_loop [8, 9, 10] (fun u v i => ∃ k : Nat, k ≤ ys.length ∧ u = .int .i64 (lenK ys k : Int) ∧ v = .int .i64 (k : Int) ∧ i = .int .i64 (k : Int) ∧ WholeK a ys k) (fun _ _ i => ys.length - (intOf i).toNat)
        case atStart => exact ⟨0, Nat.zero_le _, rfl, rfl, rfl, whole_zero a ys⟩
        case round =>
          obtain ⟨k, hk, rfl, rfl, rfl, hW⟩ := hrel
          have hlk := lenK_le HOK.out k hy10
          have HW := Lib.hid hW
          by_cases hlt : k < ys.length
          · obtain ⟨b, rfl, hbb, hcb⟩ := hrB3 (by omega)
            obtain ⟨-, -, y3⟩ := hcb k hlt
            have hds := (frame_len (HOK.out _ (List.getElem_mem hlt))).2
            have HS := Lib.hid (lenK_succ hlt)
            by_cases hle : lenK ys k + (14 + ys[k].d.size) ≤ a
            · have HN := Lib.hid (whole_step HW.out hlt hle)
              have j1 : (lenK ys k : Int) + 14 + (ys[k].d.size : Int) ≤ (a : Int) := by omega
              have j2 : (lenK ys k : Int) ≤ 20140 := by omega
              have j3 : (0 : Int) ≤ (lenK ys k : Int) := by omega
              have j4 : (ys[k].d.size : Int) ≤ 2000 := by omega
              have j5 : (0 : Int) ≤ (k : Int) := by omega
              have j6 : (k : Int) < (ys.length : Int) := by omega
              clear hle hds hlk hcb hW
              generalize lenK ys k = nk at *
              generalize ys[k].d = dd at *
              go_wp2_with fail
              go_round
              case rel => exact ⟨k + 1, by omega, by rw [HS.out]; go_num, by go_num, by go_num, HN.out⟩
              case measure => simp [intOf]; omega
            · have HN := Lib.hid (whole_stop HW.out hlt hle)
              have j1 : ¬ (lenK ys k : Int) + 14 + (ys[k].d.size : Int) ≤ (a : Int) := by omega
              have j2 : (lenK ys k : Int) ≤ 20140 := by omega
              have j3 : (0 : Int) ≤ (lenK ys k : Int) := by omega
              have j4 : (ys[k].d.size : Int) ≤ 2000 := by omega
              have j5 : (0 : Int) ≤ (k : Int) := by omega
              have j6 : (k : Int) < (ys.length : Int) := by omega
              have j7 : (k : Int) ≤ (c1 : Int) := by omega
              clear hle hds hlk hcb hW
              generalize ys[k].d = dd at *
              go_wp2_with fail
              have S1 := HSC.out a k HN.out
              have S2 := fun w' h' => Scan_any (F.extract 0 a) (by rw [ByteArray.size_extract]; omega) w' aA aT aN aW aS h'
              rw [S1] at S2
              dsimp only at S2
              clear S1 HSC
              generalize lenK ys k = nk at *
              refine (S2 _ (h.below hb3)).mono ?_
              rintro e w4 ⟨V, rfl, hown, hb4'⟩
              rw [cells_back (RdR.all_take HOK.out k), List.length_map] at hown
              obtain ⟨-, C, c2, rfl, hrC⟩ := rdR_own hown
              have hrB4 := (hrB3.below hb4').take k
              have hb4 := ext_trans hb3 hb4'
              have hlt2 : (ys.take k).length = k := by rw [List.length_take]; omega
              rw [hlt2]
              clear hown hb4' S2
              go_wp2_with fail
              refine (Same_true C _ c2 _ k (ys.take k) _ hlt2 hrC hrB4 (by omega)).mono ?_
              rintro e w5 ⟨rfl, hb5'⟩
              have hb5 := ext_trans hb4 hb5'
              go_wp2_with fail
              go_ret
              exact ⟨rfl, hb5⟩
          · obtain rfl : k = ys.length := by omega
            have HN := Lib.hid (whole_end HW.out)
            have j5 : (0 : Int) ≤ (ys.length : Int) := by omega
            have j6 : ¬ (ys.length : Int) < (ys.length : Int) := by omega
            have j7 : (ys.length : Int) ≤ (c1 : Int) := by omega
            clear hlk hW
            go_wp2_with fail
            have S1 := HSC.out a ys.length HN.out
            have S2 := fun w' h' => Scan_any (F.extract 0 a) (by rw [ByteArray.size_extract]; omega) w' aA aT aN aW aS h'
            rw [S1] at S2
            dsimp only at S2
            clear S1 HSC
            generalize lenK ys ys.length = nk at *
            refine (S2 _ (h.below hb3)).mono ?_
            rintro e w4 ⟨V, rfl, hown, hb4'⟩
            rw [cells_back (RdR.all_take HOK.out ys.length), List.length_map] at hown
            obtain ⟨-, C, c2, rfl, hrC⟩ := rdR_own hown
            have hrB4 := (hrB3.below hb4').take ys.length
            have hb4 := ext_trans hb3 hb4'
            have hlt2 : (ys.take ys.length).length = ys.length := by rw [List.length_take]; omega
            rw [hlt2]
            clear hown hb4' S2
            go_wp2_with fail
            refine (Same_true C _ c2 _ ys.length (ys.take ys.length) _ hlt2 hrC hrB4 (by omega)).mono ?_
            rintro e w5 ⟨rfl, hb5'⟩
            have hb5 := ext_trans hb4 hb5'
            go_wp2_with fail
            go_ret
            exact ⟨rfl, hb5⟩
  · rw [hv]
    clear hv
    dsimp only
    go_wp2_with fail
    go_ret
    exact ⟨rfl, hb3⟩

end Go.Proofs.YtlabmomehjfjdaaDoor
