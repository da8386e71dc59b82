/-
  Package postriderlaw02: the law SdnvJoins. Conditions: errors.errorType holds the handle of the type error ('SInv').
-/
import Derived.Test.YtcahfdhfdigjaaaDoorSdP
import Derived.Test.YtcahfdhfdigjaaaDoorApp
namespace Go.Proofs.YtcahfdhfdigjaaaDoor
open Go.RowKit

/-- A row of the call's own, as a list of numbers; a nil one too. -/
theorem own_slice {w : World} {base n : Nat} {V : Value} {l : List Nat} (h : w.ownsRow base 3 1 V n (cellsI l)) : ∃ A c, V = .slice A n c ∧ (A = none → n = 0 ∧ c = 0) ∧ RdI w A (l.map fun n : Nat => (n : Int)) := by
  have h' := h
  obtain ⟨-, A, c, rfl, hr⟩ := rdI_own h
  refine ⟨A, c, rfl, fun e => ?_, hr⟩
  subst e
  obtain ⟨-, ⟨e, -⟩ | ⟨g, cap, cur, e, -⟩⟩ := h'
  · injection e with e1 e2 e3
    exact ⟨e2, e3⟩
  · cases e
theorem rdI_cells {w : World} {A : Option Addr} {l : List Nat} (h : RdI w A (l.map fun n : Nat => (n : Int))) : ∀ ad, A = some ad → ∀ (j : Nat) (u : Value), (cellsI l)[j]? = some u → w.cell? (ad.add j) = some u := by
  intro ad e j u hu
  have hj : j < l.length := by
    rcases Nat.lt_or_ge j l.length with hlt | hge
    · exact hlt
    · rw [List.getElem?_eq_none (by simpa [cellsI] using hge)] at hu; cases hu
  obtain ⟨a, h1, -, h3⟩ := h (by simp; omega)
  obtain rfl := Option.some.inj (e.symm.trans h1)
  have := h3 j (by simpa using hj)
  rw [this]
  rw [← hu]
  simp [cellsI, List.getElem?_eq_getElem hj]
theorem cellsI_one (l : List Nat) : ∀ u ∈ cellsI l, u.oneCell' = true := by
  intro u hu
  obtain ⟨n, -, rfl⟩ := List.mem_map.1 hu
  rfl

set_option maxRecDepth 100000 in
set_option maxHeartbeats 4000000 in
theorem SdnvJoins_law (s t : ByteArray) (w : World) (h : SInv w) (hs : s.size ≤ 9223372036854775807) (ht : t.size ≤ 9223372036854775807) :
    Calls Tryd.prog 5 #[.string s, .string t] w (Ret (.bool true) w) := by
  obtain ⟨i0, hi0, hz0, hz1, hz2⟩ := info_parts infoI
  have HC := fun w' => scut_any s w' hs
  have HC2 := fun w' => scut_any t w' ht
  have hz := cut100_size s
  have hz' := cut100_size t
  have A1 := fun w' h' => All_any (cut100 s) w' h' (by omega)
  have A2 := fun w' h' => All_any (cut100 t) w' h' (by omega)
  have A3 := fun w' h' => All_any (cut100 s ++ cut100 t) w' h' (by rw [ByteArray.size_append]; omega)
  have hn1 := all_len (cut100 s)
  have hn2 := all_len (cut100 t)
  have F := Lib.hid (joins_facts (cut100 s) (cut100 t))
  generalize cut100 s = s' at *
  generalize cut100 t = t' at *
  generalize allV s' = x at *
  generalize allV t' = y at *
  generalize allV (s' ++ t') = z at *
  obtain ⟨la, e⟩ := x
  obtain ⟨lb, f⟩ := y
  obtain ⟨lc, g⟩ := z
  dsimp only at A1 A2 A3 hn1 hn2
  have u2 : ¬ (9223372036854775807 < s'.size + t'.size) := by omega
  go_enter Tryd.func5, Tryd.ntmps5
  go_wp2_with fail
  refine (sshown_any _ h).mono ?_
  rintro e0 w1 ⟨rfl, hb1⟩
  go_wp2_with fail
  refine (HC _).mono ?_
  rintro e0 wp ⟨rfl, rfl⟩
  go_wp2_with fail
  refine (HC2 _).mono ?_
  rintro e0 wp ⟨rfl, rfl⟩
  go_wp2_with fail
  refine (A1 _ (h.below hb1)).mono ?_
  rintro e0 w2 ⟨V, rfl, hown, hb2'⟩
  have hb2 := ext_trans hb1 hb2'
  clear hb2' hb1
  obtain ⟨B1, c1, rfl, hB1, hr1⟩ := own_slice hown
  clear hown
  go_wp2_with fail
  refine (A2 _ (h.below hb2)).mono ?_
  rintro e0 w3 ⟨V, rfl, hown, hb3'⟩
  obtain ⟨B2, c2, rfl, hB2, hr2⟩ := own_slice hown
  clear hown
  have hb3 := ext_trans hb2 hb3'
  have hr1 := hr1.below hb3'
  clear hb3' hb2
  go_wp2_with fail
  refine (A3 _ (h.below hb3)).mono ?_
  rintro e0 w4 ⟨V, rfl, hown, hb4'⟩
  obtain ⟨B3, c3, rfl, -, hr3⟩ := own_slice hown
  clear hown
  have hb4 := ext_trans hb3 hb4'
  have hr2 := hr2.below hb4'
  have hr1 := hr1.below hb4'
  clear hb4' hb3
  have F := F.out
  try dsimp only at F
  rcases F with F1 | ⟨rfl, F1, rfl, rfl⟩ | ⟨rfl, rfl, rfl, F3⟩
  · have F1' : (e != 0) = true := by rw [bne, F1]; rfl
    clear hr1 hr2 hr3
    go_wp2_with fail
    go_ret
    exact ⟨by first | rfl | (simp; done) | (simp; omega), hb4⟩
  · have F1' : (g != 0) = true := by rw [bne, F1]; rfl
    clear hr1 hr2 hr3
    go_wp2_with fail
    go_ret
    exact ⟨by first | rfl | (simp; done) | (simp; omega), hb4⟩
  · have hn3 : lc.length ≤ 200 := by rw [F3, List.length_append]; omega
    have HF := Lib.hid F3
    clear F3
    have hq1 := rdI_cells hr1
    have hq2 := rdI_cells hr2
    have hl1 : (cellsI la).length = la.length * 1 := by simp [cellsI]
    have hl2 : (cellsI lb).length = lb.length * 1 := by simp [cellsI]
    clear hr1
    have HQ1 := Lib.hid hq1
    have HQ2 := Lib.hid hq2
    have HR2 := Lib.hid hr2
    have HR3 := Lib.hid hr3
    clear hq1 hq2 hr2 hr3
    go_wp2_with (first
      | (at_builtin; refine wpList_append_any rfl (.tmp 64) (.tmp 65) 31 rfl w4.heap.size 3 i0 (.int .i64 0) 1 8 Tryd.underlying31 hi0 hz0 hz1 hz2 rfl (by omega) (.slice none 0 0) 0 [] rfl own_nil B1 la.length c1 (cellsI la) rfl hB1 hl1 HQ1.out (cellsI_one la) (by unfold maxLen; omega) (by omega) (Nat.le_refl _) ?_; intro v5 w5 hown5 hgrow5; have hw5 : Below w4.heap.size w4 w5 := below_append (ext_refl w4) (own_nil (base := w4.heap.size) (e := 3) (size := 1)) (Nat.le_refl _) (Nat.le_refl _) hgrow5)
      | (at_builtin; refine wpList_append_any rfl (.tmp 66) (.tmp 67) 31 rfl w4.heap.size 3 i0 (.int .i64 0) 1 8 Tryd.underlying31 hi0 hz0 hz1 hz2 rfl (by omega) v5 (0 + la.length) ([] ++ cellsI la) rfl hown5 B2 lb.length c2 (cellsI lb) rfl hB2 hl2 (fun ad e j u hu => (hw5.cell (cell_lt (HQ2.out ad e j u hu))).trans (HQ2.out ad e j u hu)) (cellsI_one lb) (by unfold maxLen; omega) (by omega) hw5.size ?_; intro v6 w6 hown6 hgrow6))
    have hw6 : Below w4.heap.size w4 w6 := below_append hw5 hown5 (Nat.le_refl _) (Nat.le_refl _) hgrow6
    have hown7 : w6.ownsRow w4.heap.size 3 1 v6 lc.length (cellsI lc) := by
      rw [HF.out]
      have e1 : (la ++ lb).length = 0 + la.length + lb.length := by simp
      have e2 : cellsI (la ++ lb) = [] ++ cellsI la ++ cellsI lb := by simp [cellsI]
      rw [e1, e2]; exact hown6
    obtain ⟨B4, c4, rfl, -, hr4⟩ := own_slice hown7
    have hI := Ints_true B3 B4 c3 c4 lc.length (lc.map fun n : Nat => (n : Int)) w6 (by simp) (HR3.out.below hw6) hr4 (by omega)
    have hw6' := ext_trans hb4 hw6
    clear hr4 hown7 hown6 hown5 hgrow5 hgrow6 hw5 hw6 hb4
    go_wp2_with fail
    refine hI.mono ?_
    rintro e0 w7 ⟨rfl, hb7'⟩
    have hb7 := ext_trans hw6' hb7'
    clear hw6' hb7' hI
    go_wp2_with fail
    go_ret
    exact ⟨by first | rfl | (simp; done) | (simp; omega), hb7⟩

end Go.Proofs.YtcahfdhfdigjaaaDoor
