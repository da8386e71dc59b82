/-
  Package postriderlaw17: the law FrameJoins. Conditions: the listed variables hold what 'CInv' says.
-/
import Derived.Test.YtlabmomehjfjdaaDoorFrP
import Derived.Test.YtlabmomehjfjdaaDoorApp
namespace Go.Proofs.YtlabmomehjfjdaaDoor
open Go.RowKit

theorem cellsQ_one (l : List RI) : ∀ u ∈ cellsQ l, u.oneCell' = true := by
  intro u hu
  obtain ⟨r, -, hr⟩ := List.mem_flatMap.1 hu
  simp only [RI.cs, List.mem_cons, List.not_mem_nil, or_false] at hr
  obtain rfl | rfl | rfl := hr <;> rfl
theorem cellsQ_append (l m : List RI) : cellsQ (l ++ m) = cellsQ l ++ cellsQ m := by simp [cellsQ]
theorem own_news {w : World} {base : Nat} {e : TypeId} {size n c : Nat} {A : Option Addr} {xs : List Value} (h : w.ownsRow base e size (.slice A n c) n xs) :
    (A = none → n = 0 ∧ c = 0) ∧ ∀ ad, A = some ad → ∀ j u, xs[j]? = some u → w.cell? (ad.add j) = some u := by
  obtain ⟨-, ⟨e0, h0⟩ | ⟨g, cap, cur, e0, -⟩⟩ := id h
  · injection e0 with e1 e2 e3
    subst e1
    exact ⟨fun _ => ⟨h0, e3⟩, fun ad e => (by cases e)⟩
  · injection e0 with e1 e2 e3
    subst e1
    exact ⟨fun e => (by cases e), fun ad e j u hj => (by cases e; exact h.cells rfl j u hj)⟩
theorem lay_app (ys zs : List RI) : (∃ F G : ByteArray, (∀ x ∈ ys ++ zs, x.ok = true) ∧ layV ys = (F, 0) ∧ layV zs = (G, 0) ∧ layV (ys ++ zs) = (F ++ G, 0) ∧ F.size ≤ 2014 * ys.length ∧ G.size ≤ 2014 * zs.length ∧ scanOf (F ++ G).data.toList = ((ys ++ zs).map RI.n, (F ++ G).size)) ∨
    (layV ys = (ByteArray.empty, 170) ∧ layV (ys ++ zs) = (ByteArray.empty, 170)) ∨ (∃ F : ByteArray, layV ys = (F, 0) ∧ layV zs = (ByteArray.empty, 170) ∧ layV (ys ++ zs) = (ByteArray.empty, 170)) := by
  rcases bool_cases (ys.all RI.ok) with h | h
  · refine .inr (.inl ⟨by rw [layV, if_neg (by rw [h]; decide)], by rw [layV, if_neg (by rw [List.all_append, h, Bool.false_and]; decide)]⟩)
  · rcases bool_cases (zs.all RI.ok) with k | k
    · exact .inr (.inr ⟨_, layV_ok (List.all_eq_true.1 h), by rw [layV, if_neg (by rw [k]; decide)], by rw [layV, if_neg (by rw [List.all_append, h, k]; decide)]⟩)
    · have h1 := List.all_eq_true.1 h
      have k1 := List.all_eq_true.1 k
      have hk : ∀ x ∈ ys ++ zs, x.ok = true := fun x hx => (List.mem_append.1 hx).elim (h1 x) (k1 x)
      have e : (⟨(layL ((ys ++ zs).map RI.n)).toArray⟩ : ByteArray) = ⟨(layL (ys.map RI.n)).toArray⟩ ++ ⟨(layL (zs.map RI.n)).toArray⟩ := by
        apply ba_eq
        simp [layL, ByteArray.data_append]
      have hs := back_ok hk (T := ByteArray.empty) (by show decF [] = none; exact dec_nil)
      rw [e] at hs
      have hz : ∀ X : ByteArray, X ++ ByteArray.empty = X := fun X => by simp
      rw [hz] at hs
      refine .inl ⟨_, _, hk, layV_ok h1, layV_ok k1, by rw [layV_ok hk, e], ?_, ?_, hs⟩
      · rw [size_of]; exact lay_len ys h1
      · rw [size_of]; exact lay_len zs k1

set_option maxRecDepth 100000 in
set_option maxHeartbeats 4000000 in
theorem FrameJoins_law (A : Option Addr) (n c : Nat) (xs : List RI) (A2 : Option Addr) (n2 cc : Nat) (xs2 : List RI) (w : World) (aA aT aN aW aS : Addr) (h : CInv w aA aT aN aW aS) (hx : xs.length = min n 10) (hr : RdR w A xs) (hd : ∀ x ∈ xs, x.d.size ≤ 9223372036854775807)
    (hx2 : xs2.length = min n2 10) (hr2 : RdR w A2 xs2) (hd2 : ∀ x ∈ xs2, x.d.size ≤ 9223372036854775807) :
    Calls Tryd.prog 9 #[.slice A n c, .slice A2 n2 cc] w (Ret (.bool true) w) := by
  obtain ⟨i0, hi0, hz0, hz1, hz2⟩ := info_parts infoR
  have FC := fun w' r' => FCut_any A n c xs w' hx r' hd
  have FC2 := fun w' r' => FCut_any A2 n2 cc xs2 w' hx2 r' hd2
  generalize hys : xs.map RI.cut = ys at *
  have hyl : ys.length = min n 10 := by rw [← hys, List.length_map, hx]
  have hxy : xs.length = ys.length := by rw [hyl, hx]
  rw [hxy] at FC
  have hy10 : ys.length ≤ 10 := by omega
  clear hd hx hys hxy hyl
  generalize hzs : xs2.map RI.cut = zs at *
  have hyl : zs.length = min n2 10 := by rw [← hzs, List.length_map, hx2]
  have hxy : xs2.length = zs.length := by rw [hyl, hx2]
  rw [hxy] at FC2
  have hz10 : zs.length ≤ 10 := by omega
  clear hd2 hx2 hzs hxy hyl
  have HLA := Lib.hid (lay_app ys zs)
  go_enter Tryd.func9, Tryd.ntmps9
  go_wp2_with fail
  refine (fshown_any _ aA aT aN aW aS h).mono ?_
  rintro e w1 ⟨rfl, hb1⟩
  go_wp2_with fail
  refine (FC _ (hr.below hb1)).mono ?_
  rintro e w2 ⟨V, rfl, hown, hb2'⟩
  have hb2 := ext_trans hb1 hb2'
  clear hb2' hb1 FC
  obtain ⟨B, c1, rfl⟩ := own_form hown
  go_wp2_with fail
  refine (FC2 _ (hr2.below hb2)).mono ?_
  rintro e w3 ⟨V, rfl, hown2, hb3'⟩
  have hb3 := ext_trans hb2 hb3'
  replace hown := own_below hown hb3'
  clear hb3' hb2 FC2
  obtain ⟨B2, c2, rfl⟩ := own_form hown2
  have r1 : RdR w3 B ys := by
    obtain ⟨-, _, _, e, r⟩ := rdR_own hown
    injection e with e _ _
    rw [e]; exact r
  have r2 : RdR w3 B2 zs := by
    obtain ⟨-, _, _, e, r⟩ := rdR_own hown2
    injection e with e _ _
    rw [e]; exact r
  have L1 := Lay_any B c1 ys.length ys w3 aA aT aN aW aS (h.below hb3) rfl r1 (by omega)
  have L2 := fun w' h' r' => Lay_any B2 c2 zs.length zs w' aA aT aN aW aS h' rfl r' (by omega)
  obtain ⟨lv, hlv⟩ : ∃ x, layV ys = x := ⟨_, rfl⟩
  obtain ⟨lz, hlz⟩ : ∃ x, layV zs = x := ⟨_, rfl⟩
  rw [hlv] at L1
  rw [hlz] at L2
  go_wp2_with fail
  refine L1.mono ?_
  rintro e w4 ⟨rfl, hb4'⟩
  have hb4 := ext_trans hb3 hb4'
  replace hown := own_below hown hb4'
  replace hown2 := own_below hown2 hb4'
  replace r2 := r2.below hb4'
  clear hb4' hb3 r1 L1
  go_wp2_with fail
  refine (L2 _ (h.below hb4) r2).mono ?_
  rintro e w5 ⟨rfl, hb5'⟩
  have hb5 := ext_trans hb4 hb5'
  replace hown := own_below hown hb5'
  replace hown2 := own_below hown2 hb5'
  clear hb5' hb4 r2 L2
  have nw1 := own_news hown
  have nw2 := fun (W : World) (hW : Below w5.heap.size w5 W) => own_news (own_below hown2 hW)
  go_wp2_with (at_builtin; first | (refine wpList_append_any rfl _ _ 25 rfl w5.heap.size 23 i0 (.agg #[.int .i64 0, .int .i64 0, .string ByteArray.empty]) 3 32 Tryd.underlying25 hi0 hz0 hz1 hz2 rfl (by omega) _ _ _ rfl own_nil B ys.length c1 (cellsQ ys) rfl nw1.1 (cellsQ_length ys) nw1.2 (cellsQ_one ys) (by unfold maxLen; omega) (by omega) (Nat.le_refl _) ?_; intro v' w6 hown6 hgrow; rw [Nat.zero_add, List.nil_append] at hown6; obtain ⟨A6, c6, rfl⟩ := own_form hown6; have k6 := below_append (ext_refl w5) (own_nil (e := 23) (size := 3)) (Nat.le_refl _) (Nat.le_refl _) hgrow) | (refine wpList_append_any rfl _ _ 25 rfl w5.heap.size 23 i0 (.agg #[.int .i64 0, .int .i64 0, .string ByteArray.empty]) 3 32 Tryd.underlying25 hi0 hz0 hz1 hz2 rfl (by omega) _ _ _ rfl hown6 B2 zs.length c2 (cellsQ zs) rfl (nw2 w6 k6).1 (cellsQ_length zs) (nw2 w6 k6).2 (cellsQ_one zs) (by unfold maxLen; omega) (by omega) k6.size ?_; intro v7 w7 hown7 hgrow7; rw [← cellsQ_append] at hown7; obtain ⟨A7, c7, rfl⟩ := own_form hown7; have k7 := below_append k6 hown6 (Nat.le_refl _) (Nat.le_refl _) hgrow7))
  have hb7 := ext_trans hb5 k7
  have r7 : RdR w7 A7 (ys ++ zs) := by
    obtain ⟨-, _, _, e, r⟩ := rdR_own hown7
    injection e with e _ _
    rw [e]; exact r
  have L3 := Lay_any A7 c7 (ys.length + zs.length) (ys ++ zs) w7 aA aT aN aW aS (h.below hb7) (List.length_append) r7 (by omega)
  clear nw1 nw2 hown hown2 hown6 hown7 hgrow hgrow7 k6 k7 hb5
  rcases HLA.out with ⟨F, G, hok, e1, e2, e3, f1, f2, hsc⟩ | ⟨e1, e3⟩ | ⟨F, e1, e2, e3⟩
  · obtain rfl := hlv.symm.trans e1
    obtain rfl := hlz.symm.trans e2
    rw [e3] at L3
    have hz : (F ++ G).size ≤ 1000000 := by rw [ByteArray.size_append]; omega
    have S1 := fun w' h' => Scan_any (F ++ G) hz w' aA aT aN aW aS h'
    rw [hsc] at S1
    have hcb := cells_back hok
    have hml : ((ys ++ zs).map RI.n).length = ys.length + zs.length := by rw [List.length_map, List.length_append]
    have n1 : ¬ (9223372036854775807 < F.size + G.size) := by omega
    clear hsc e1 e2 e3 hlv hlz HLA
    generalize (ys ++ zs).map RI.n = ms at *
    dsimp only at S1 L3
    have hq : ((F ++ G).toList == (F ++ G).toList) = true := beq_self_eq_true _
    go_wp2_with fail
    refine L3.mono ?_
    rintro e w8 ⟨rfl, hb8'⟩
    have r8 := r7.below hb8'
    have hb8 := ext_trans hb7 hb8'
    clear hb8' hb7 r7 L3
    go_wp2_with fail
    refine (S1 _ (h.below hb8)).mono ?_
    rintro e w9 ⟨V, rfl, hown, hb9'⟩
    rw [hcb, hml] at hown
    obtain ⟨-, C, c8, rfl, hrC⟩ := rdR_own hown
    have r9 := r8.below hb9'
    have hb9 := ext_trans hb8 hb9'
    clear hown hb9' hb8 r8 S1
    go_wp2_with fail
    refine (Same_true C A7 c8 c7 (ys.length + zs.length) (ys ++ zs) _ (List.length_append) hrC r9 (by omega)).mono ?_
    rintro e w10 ⟨rfl, hb10'⟩
    have hb10 := ext_trans hb9 hb10'
    go_wp2_with fail
    go_ret
    exact ⟨rfl, hb10⟩
  · obtain rfl := hlv.symm.trans e1
    rw [e3] at L3
    clear e1 e3 hlv hlz HLA
    dsimp only at L3
    go_wp2_with fail
    refine L3.mono ?_
    rintro e w8 ⟨rfl, hb8'⟩
    have hb8 := ext_trans hb7 hb8'
    go_wp2_with fail
    go_ret
    exact ⟨rfl, hb8⟩
  · obtain rfl := hlv.symm.trans e1
    obtain rfl := hlz.symm.trans e2
    rw [e3] at L3
    clear e1 e2 e3 hlv hlz HLA
    dsimp only at L3
    go_wp2_with fail
    refine L3.mono ?_
    rintro e w8 ⟨rfl, hb8'⟩
    have hb8 := ext_trans hb7 hb8'
    go_wp2_with fail
    go_ret
    exact ⟨rfl, hb8⟩

end Go.Proofs.YtlabmomehjfjdaaDoor
