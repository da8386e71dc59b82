/-
  Package postriderlaw04: an item cut (Cut, cutAt), a text cut (cut). Conditions: as the theorems' own hypotheses say.
-/
import Derived.Test.YtmoghgmbpkpcfaaGreatDoorItVt
import Derived.Test.YtmoghgmbpkpcfaaGreatDoorItL1
namespace Go.Proofs.YtmoghgmbpkpcfaaGreatDoor
open Go.RowKit Go.Shelf

theorem Blk.drw {w : World} {g : Nat} {t : TypeId} {cs : Array Value} (h : Blk w g t cs) : Blk w.drew g t cs := h
/-- An item cut. -/
def cutT : Nat → VT → IN
  | 0, t => .mk t.kind t.num (cutS 601 t.txt) []
  | d + 1, t => .mk t.kind t.num (cutS 601 t.txt) (t.kids.map (cutT d))
theorem ret_item1 {fn : Func} {pt : Tmp} (h : fn.results = #[.cell pt 24]) {tmps : Array Value} {W : World} {g : Nat} {a0 a1 a2 a3 : Value} (hp : tmps.getD pt undef = .pointer (some ⟨g, 0, none⟩)) (hB : Blk W g 24 #[a0, a1, a2, a3]) :
    (results fn tmps).run Tryz.prog W = .ok (.agg #[a0, a1, a2, a3]) W := by
  have hp' : tmps[pt]?.getD undef = .pointer (some ⟨g, 0, none⟩) := by simpa using hp
  simp only [results, h]
  simp [hp', asAddr, load_item hB]
/-- Where the cut of a list stands. -/
structure CuI (d : Nat) (t : VT) (w W1 wr : World) (k : Nat) (v : Value) (ts : List TV) : Prop where
  len : ts.length = k
  bel : Below (w.heap.size + 1) W1 wr
  its : TV.items ts = (t.kids.take k).map (cutT (d - 1))
  r1 : Blk wr (w.heap.size + 1) 24 #[.int .i64 0, .int .i64 0, .string ⟨#[]⟩, .slice none 0 0]
  r2 : Blk wr (w.heap.size + 1 + 1) 24 #[.int .i64 t.kind, .int .i64 t.num, .string (cutS 601 t.txt), v]
  own : wr.ownsRow (w.heap.size + 3) 24 4 v k (cellsT ts)
  tr : ∀ u ∈ ts, Tr d (w.heap.size + 3) v.ownBlock wr u
/-- A round of the cut. -/
theorem CuI.step {d k c0 g1 cap1 : Nat} {t u : VT} {w W1 wr w3 w5 : World} {A0 : Option Addr} {ts : List TV} {t' : TV} {o : Obj} (L : CuI (d + 1) t w W1 wr k (.slice A0 k c0) ts) (hb3 : Below wr.drew.heap.size wr.drew w3)
    (q1 : t'.item = cutT d u) (q2 : ItAt w3.heap.size w3 t') (q3 : Over wr.drew.heap.size t') (q4 : Fits (d + 1) t') (HI : (t.kids.take (k + 1)).map (cutT d) = (t.kids.take k).map (cutT d) ++ [cutT d u])
    (own : (w3.alloc o).ownsRow (w.heap.size + 3) 24 4 (.slice A0 k c0) k (cellsT ts)) (hgrow : (w3.alloc o).grownBy w5 (Value.slice A0 k c0).ownBlock) (hat : (Value.slice A0 k c0).ownBlock = some g1 ∨ g1 = w3.heap.size + 1)
    (hown5 : w5.ownsRow (w.heap.size + 3) 24 4 (.slice (some ⟨g1, 0, none⟩) (k + 1) cap1) (k + 1) (cellsT ts ++ [.int .i64 t'.kind, .int .i64 t'.num, .string t'.txt, .slice t'.at_ t'.kids.length t'.cap]))
    (hO5 : Blk w5 (w.heap.size + 1 + 1) 24 #[.int .i64 t.kind, .int .i64 t.num, .string (cutS 601 t.txt), .slice A0 k c0])
    (hB : Below (w.heap.size + 1) W1 (w5.setCell ⟨w.heap.size + 1 + 1, 3, none⟩ (.slice (some ⟨g1, 0, none⟩) (k + 1) cap1))) :
    CuI (d + 1) t w W1 (w5.setCell ⟨w.heap.size + 1 + 1, 3, none⟩ (.slice (some ⟨g1, 0, none⟩) (k + 1) cap1)) (k + 1) (.slice (some ⟨g1, 0, none⟩) (k + 1) cap1) (ts ++ [t']) := by
  have hs3 : wr.heap.size ≤ w3.heap.size := hb3.size
  have hr2 := L.r2.lt
  have hat2 : (Value.slice (some ⟨g1, 0, none⟩) (k + 1) cap1).ownBlock = (Value.slice A0 k c0).ownBlock ∨ (Value.slice (some ⟨g1, 0, none⟩) (k + 1) cap1).ownBlock = some (w3.alloc o).heap.size := by
    rcases hat with h | h
    · exact .inl h.symm
    · right; rw [h]; simp [Value.ownBlock]
  have hold : ∀ x, Tr (d + 1) (w.heap.size + 3) (Value.slice A0 k c0).ownBlock w3 x → Tr (d + 1) (w.heap.size + 3) (Value.slice (some ⟨g1, 0, none⟩) (k + 1) cap1).ownBlock (w5.setCell ⟨w.heap.size + 1 + 1, 3, none⟩ (.slice (some ⟨g1, 0, none⟩) (k + 1) cap1)) x := fun x hx => by
    refine ((hx.later (by simp) (fun j hj hj2 hj3 => Below.heap_alloc w3 o j hj2)).grow hgrow hat2).later (by rw [World.size_setCell]; exact Nat.le_refl _) ?_
    intro j hj hj2 hj3
    rw [Below.heap_setCell _ _ _ _ (by simp; omega)]
  refine ⟨by rw [List.length_append, L.len]; rfl, hB, ?_, ?_, ?_, ?_, ?_⟩
  · rw [items_snoc, L.its, q1]
    exact HI.symm
  · have h1 := ((L.r1.drw.below hb3).alloc o)
    exact (h1.kept (hgrow.block _ h1.lt (own_lo own (by omega)))).set_other (by omega) _ _
  · exact hO5.set_ 3 _
  · rw [cellsT_snoc]
    exact own_besides hown5 ((Besides.refl (w.heap.size + 1 + 1) _).set_ 3 _) (by omega)
  · intro x hx
    rcases List.mem_append.1 hx with hx | hx
    · exact hold x ((L.tr x hx).later hs3 fun j hj hj2 hj3 => hb3.block j hj2)
    · rw [List.mem_singleton.1 hx]
      exact hold t' ⟨q2, q3.off.imp q2 (fun j hj hj2 => ⟨by have : wr.heap.size ≤ j := hj; omega, own_hi L.own hj⟩), q4⟩
/-- What cutAt gives. -/
def CutR (d : Nat) (t : VT) (w : World) (e : Ending) (w' : World) : Prop := ∃ t' : TV, e = .returned t'.val ∧ t'.item = cutT d t ∧ ItAt w'.heap.size w' t' ∧ Over w.heap.size t' ∧ Fits (d + 1) t' ∧ Below w.heap.size w w'

/-- The cut of an item, whole. -/
theorem CuI.done {d n c0 : Nat} {t : VT} {w W1 wr : World} {A0 : Option Addr} {ts : List TV} (L : CuI d t w W1 wr n (.slice A0 n c0) ts) (hits : IN.mk t.kind t.num (cutS 601 t.txt) (TV.items ts) = cutT d t) (hn : n ≤ 62) (b0 : Below w.heap.size w W1) :
    CutR d t w (.returned (.agg #[.int .i64 t.kind, .int .i64 t.num, .string (cutS 601 t.txt), .slice A0 n c0])) ((((wr.setCell ⟨w.heap.size + 1, 0, none⟩ (.int .i64 t.kind)).setCell ⟨w.heap.size + 1, 1, none⟩ (.int .i64 t.num)).setCell ⟨w.heap.size + 1, 2, none⟩ (.string (cutS 601 t.txt))).setCell ⟨w.heap.size + 1, 3, none⟩ (.slice A0 n c0)) := by
  have hlen := L.len
  have hz := cutS_size 601 t.txt
  refine ⟨TV.mk t.kind t.num (cutS 601 t.txt) A0 c0 ts, ?_, hits, ?_, ?_, ?_, below_set4 (b0.trans (L.bel.mono (Nat.le_succ _))) (Nat.le_succ _) _ _ _ _⟩
  · show _ = Ending.returned (.agg #[.int .i64 t.kind, .int .i64 t.num, .string (cutS 601 t.txt), .slice A0 ts.length c0])
    rw [hlen]
  · have hown := own_besides (g0 := w.heap.size + 1) L.own (((((Besides.refl (w.heap.size + 1) wr).set_ 0 (.int .i64 t.kind)).set_ 1 (.int .i64 t.num)).set_ 2 (.string (cutS 601 t.txt))).set_ 3 (.slice A0 n c0)) (by omega)
    obtain ⟨-, A', c9, e9, hr⟩ := rowT_own hown
    injection e9 with e9
    rw [← e9] at hr
    refine .mk hr fun u hu => (L.tr u hu).at_.keptQ (L.tr u hu).off (fun j hj hj2 => ?_) (by simp)
    rw [Below.heap_setCell _ _ _ _ (by simp; omega), Below.heap_setCell _ _ _ _ (by simp; omega), Below.heap_setCell _ _ _ _ (by simp; omega), Below.heap_setCell _ _ _ _ (by simp; omega)]
  · refine .mk (fun ad e _ => ?_) fun u hu => (L.tr u hu).off.over fun j hj => by omega
    rw [e] at L
    exact Nat.le_of_not_lt fun hlt => own_lo L.own (k := ad.block) (by omega) rfl
  · exact .mk (by omega) (by omega) fun u hu => (L.tr u hu).fit

set_option maxRecDepth 100000 in
set_option maxHeartbeats 40000000 in
theorem cutAt_any (d : Nat) : ∀ (D : Int) (t : VT) (w : World), D = ((d + 1 : Nat) : Int) → d ≤ 6 → VAt w.heap.size w (d + 1) t → Calls Tryz.prog 17 #[t.val, .int .i64 D] w (CutR d t w) := by
  obtain ⟨i0, hi0, hzz⟩ := Option.map_eq_some_iff.1 infoIt
  have hz0 := congrArg Prod.fst hzz
  have hz1 := congrArg Prod.snd hzz
  dsimp only at hz0 hz1
  have hz2 : i0.bytes = 56 := by have := infoIt2; rw [hi0] at this; simpa using this
  induction d with
  | zero =>
    intro D t w hD hd hv
    have hD1 : ¬ ((1 : Int) < D) := by omega
    clear hD
    obtain ⟨hs, hlen, hk0⟩ := hv
    have HK0 := Lib.hid hk0
    clear hk0
    have hcs : cutS 601 t.txt = t.txt.extract 0 (min (t.txt.size : Int) 601).toNat := by rw [cutS, show (min (t.txt.size : Int) 601).toNat = min t.txt.size 601 by omega]
    have hm1 : (0 : Int) ≤ min (t.txt.size : Int) 601 := by omega
    have hm2 : min (t.txt.size : Int) 601 ≤ (t.txt.size : Int) := by omega
    unfold VT.val VT.row
    have hX := Blk.new_ w 24 #[.int .i64 t.kind, .int .i64 t.num, .string t.txt, .slice t.at_ t.len t.cap]
    have hX2 := hX.alloc (.cells #[.int .i64 0, .int .i64 0, .string ⟨#[]⟩, .slice none 0 0] 24)
    have x3 := hX.c4.2.2.2.1
    have hR1 := (Blk.new_ (w.alloc (.cells #[.int .i64 t.kind, .int .i64 t.num, .string t.txt, .slice t.at_ t.len t.cap] 24)) 24 #[.int .i64 0, .int .i64 0, .string ⟨#[]⟩, .slice none 0 0]).alloc (.cells #[.int .i64 t.kind, .int .i64 t.num, .string (t.txt.extract 0 (min (t.txt.size : Int) 601).toNat), .slice none 0 0] 24)
    have hO1 := Blk.new_ ((w.alloc (.cells #[.int .i64 t.kind, .int .i64 t.num, .string t.txt, .slice t.at_ t.len t.cap] 24)).alloc (.cells #[.int .i64 0, .int .i64 0, .string ⟨#[]⟩, .slice none 0 0] 24)) 24 #[.int .i64 t.kind, .int .i64 t.num, .string (t.txt.extract 0 (min (t.txt.size : Int) 601).toNat), .slice none 0 0]
    have b1 := ext_alloc (ext_new (w.alloc (.cells #[.int .i64 t.kind, .int .i64 t.num, .string t.txt, .slice t.at_ t.len t.cap] 24)) (.cells #[.int .i64 0, .int .i64 0, .string ⟨#[]⟩, .slice none 0 0] 24)) (.cells #[.int .i64 t.kind, .int .i64 t.num, .string (t.txt.extract 0 (min (t.txt.size : Int) 601).toNat), .slice none 0 0] 24)
    have b0 := ext_new w (.cells #[.int .i64 t.kind, .int .i64 t.num, .string t.txt, .slice t.at_ t.len t.cap] 24)
    simp only [World.size_alloc] at hR1 hO1 b1
    obtain ⟨c0, c1, c2, c3, -⟩ := hX2.c4
    go_enter Tryz.func17, Tryz.ntmps17
    go_wp2_with fail
    go_region
    generalize hW1 : w.alloc (.cells #[.int .i64 t.kind, .int .i64 t.num, .string t.txt, .slice t.at_ t.len t.cap] 24) = W1 at *
    have hW1s : W1.heap.size = w.heap.size + 1 := by rw [← hW1]; simp
    replace b1 := b1.drew
    replace hR1 := hR1.drw
    replace hO1 := hO1.drw
    clear c0 c1 c2 c3
    generalize ((W1.alloc (.cells #[.int .i64 0, .int .i64 0, .string ⟨#[]⟩, .slice none 0 0] 24)).alloc (.cells #[.int .i64 t.kind, .int .i64 t.num, .string (t.txt.extract 0 (min (t.txt.size : Int) 601).toNat), .slice none 0 0] 24)).drew = W2 at *
    rw [← hcs] at hO1
    clear hcs
    have hst : CuI 0 t w W1 W2 0 (.slice none 0 0) [] := ⟨rfl, b1, rfl, hR1, hO1, own_nil, by simp⟩
    have HL := Lib.hid (hst.done rfl (Nat.zero_le _) b0)
    obtain ⟨z0, z1, z2, z3, v0, v1, v2, v3⟩ := hst.r1.c4
    obtain ⟨y0, y1, y2, y3, -, -, -, -⟩ := hst.r2.c4
    have hx3 := (hst.bel.cell (p := ⟨w.heap.size, 3, none⟩) (Nat.lt_succ_self _)).trans x3
    have HR1 := Lib.hid hst.r1
    clear hst hR1 hO1 hX hX2 hm1 hm2 hs hlen b1 HK0
    by_cases h0 : 0 < t.len
    · have i1 : (0 : Int) < (t.len : Int) := by omega
      go_wp2_with fail
      refine wp_loop_rounds 1 ?_
      rw [rounds_succ]
      go_wp2_with fail
      exact bodyPost_ret (v := _) (ret_item1 (pt := 4) (by kernel_rfl) rfl (blk_set4 HR1.out _ _ _ _)) rfl HL.out
    · have i1 : ¬ ((0 : Int) < (t.len : Int)) := by omega
      go_wp2_with fail
      refine wp_loop_rounds 1 ?_
      rw [rounds_succ]
      go_wp2_with fail
      exact bodyPost_ret (v := _) (ret_item1 (pt := 4) (by kernel_rfl) rfl (blk_set4 HR1.out _ _ _ _)) rfl HL.out
  | succ d ih =>
    intro D t w hD hd hv
    have HDD := Lib.hid hD
    have i3 : (1 : Int) < D := by omega
    have i4 : D ≤ 100 := by omega
    clear hD
    obtain ⟨hs, hlen, hk0⟩ := hv
    have HK0 := Lib.hid hk0
    clear hk0
    have hcs : cutS 601 t.txt = t.txt.extract 0 (min (t.txt.size : Int) 601).toNat := by rw [cutS, show (min (t.txt.size : Int) 601).toNat = min t.txt.size 601 by omega]
    have hm1 : (0 : Int) ≤ min (t.txt.size : Int) 601 := by omega
    have hm2 : min (t.txt.size : Int) 601 ≤ (t.txt.size : Int) := by omega
    unfold VT.val VT.row
    have hX := Blk.new_ w 24 #[.int .i64 t.kind, .int .i64 t.num, .string t.txt, .slice t.at_ t.len t.cap]
    have hX2 := hX.alloc (.cells #[.int .i64 0, .int .i64 0, .string ⟨#[]⟩, .slice none 0 0] 24)
    have x3 := hX.c4.2.2.2.1
    have hR1 := (Blk.new_ (w.alloc (.cells #[.int .i64 t.kind, .int .i64 t.num, .string t.txt, .slice t.at_ t.len t.cap] 24)) 24 #[.int .i64 0, .int .i64 0, .string ⟨#[]⟩, .slice none 0 0]).alloc (.cells #[.int .i64 t.kind, .int .i64 t.num, .string (t.txt.extract 0 (min (t.txt.size : Int) 601).toNat), .slice none 0 0] 24)
    have hO1 := Blk.new_ ((w.alloc (.cells #[.int .i64 t.kind, .int .i64 t.num, .string t.txt, .slice t.at_ t.len t.cap] 24)).alloc (.cells #[.int .i64 0, .int .i64 0, .string ⟨#[]⟩, .slice none 0 0] 24)) 24 #[.int .i64 t.kind, .int .i64 t.num, .string (t.txt.extract 0 (min (t.txt.size : Int) 601).toNat), .slice none 0 0]
    have b1 := ext_alloc (ext_new (w.alloc (.cells #[.int .i64 t.kind, .int .i64 t.num, .string t.txt, .slice t.at_ t.len t.cap] 24)) (.cells #[.int .i64 0, .int .i64 0, .string ⟨#[]⟩, .slice none 0 0] 24)) (.cells #[.int .i64 t.kind, .int .i64 t.num, .string (t.txt.extract 0 (min (t.txt.size : Int) 601).toNat), .slice none 0 0] 24)
    have b0 := ext_new w (.cells #[.int .i64 t.kind, .int .i64 t.num, .string t.txt, .slice t.at_ t.len t.cap] 24)
    simp only [World.size_alloc] at hR1 hO1 b1
    obtain ⟨c0, c1, c2, c3, -⟩ := hX2.c4
    go_enter Tryz.func17, Tryz.ntmps17
    go_wp2_with fail
    go_region
    generalize hW1 : w.alloc (.cells #[.int .i64 t.kind, .int .i64 t.num, .string t.txt, .slice t.at_ t.len t.cap] 24) = W1 at *
    have hW1s : W1.heap.size = w.heap.size + 1 := by rw [← hW1]; simp
    replace b1 := b1.drew
    replace hR1 := hR1.drw
    replace hO1 := hO1.drw
    clear c0 c1 c2 c3
    generalize ((W1.alloc (.cells #[.int .i64 0, .int .i64 0, .string ⟨#[]⟩, .slice none 0 0] 24)).alloc (.cells #[.int .i64 t.kind, .int .i64 t.num, .string (t.txt.extract 0 (min (t.txt.size : Int) 601).toNat), .slice none 0 0] 24)).drew = W2 at *
    rw [← hcs] at hO1
    clear hcs
    have hst : CuI (d + 1) t w W1 W2 0 (.slice none 0 0) [] := ⟨rfl, b1, rfl, hR1, hO1, own_nil, by simp⟩
    obtain ⟨hkl, hrow, hkid⟩ := HK0.out (Nat.succ_pos d)
    have hC := fun u (W : World) (hu : u ∈ t.kids) (hW : Below (w.heap.size + 1) W1 W) (m : Int) (hm : m = ((d + 1 : Nat) : Int)) => ih m u W hm (by omega) ((hkid u hu).below (b0.trans (hW.mono (by omega))) (by have := hW.size; have := b0.size; omega))
    have HKL := Lib.hid hkl
    have HCC := Lib.hid hC
    have HRW := Lib.hid hrow
    have IH := Lib.hid ih
    clear hC hrow hkid HK0 ih hkl
    go_wp2_with fail
    go_loopw [6] (fun i wr => ∃ (k : Nat) (v : Value) (ts : List TV), i = .int .i64 (k : Int) ∧ k ≤ t.kids.length ∧ CuI (d + 1) t w W1 wr k v ts) (fun i _ => t.kids.length - (intOf i).toNat)
    case atStart => exact ⟨0, _, [], rfl, Nat.zero_le _, hst⟩
    case round =>
      obtain ⟨k, v, ts, rfl, hk, L⟩ := hrel
      have hgs : w.heap.size + 3 ≤ wr.heap.size := by have := L.r2.lt; omega
      by_cases hlt : k < t.kids.length
      · obtain ⟨ad, had, hblk, hcells⟩ := HRW.out (by omega)
        have hu := List.getElem_mem hlt
        obtain ⟨g0, g1, g2, g3⟩ := hcells k hlt
        have hKid : ∀ V : World, Below (w.heap.size + 1) W1 V → V.cell? (ad.add (k * 4)) = some (.int .i64 t.kids[k].kind) ∧ V.cell? ⟨(ad.add (k * 4)).block, (ad.add (k * 4)).off + 1, none⟩ = some (.int .i64 t.kids[k].num) ∧ V.cell? ⟨(ad.add (k * 4)).block, (ad.add (k * 4)).off + 2, none⟩ = some (.string t.kids[k].txt) ∧ V.cell? ⟨(ad.add (k * 4)).block, (ad.add (k * 4)).off + 3, none⟩ = some t.kids[k].row := fun V hV => by
          have hB := b0.trans (hV.mono (by omega))
          have hl : (ad.add (k * 4)).block < w.heap.size := by rw [ad_blk]; exact hblk
          exact ⟨(hB.cell hl).trans g0, (hB.cell (by exact hl)).trans g1, (hB.cell (by exact hl)).trans g2, (hB.cell (by exact hl)).trans g3⟩
        clear g0 g1 g2 g3 hcells
        have hCk := fun (V : World) hV => HCC.out t.kids[k] V hu hV
        unfold VT.val VT.row at hCk
        unfold VT.row at hKid
        have hIts : (t.kids.take (k + 1)).map (cutT d) = (t.kids.take k).map (cutT d) ++ [cutT d t.kids[k]] := by rw [List.take_succ_eq_append_getElem hlt, List.map_append, List.map_singleton]
        have HI := Lib.hid hIts
        clear hIts
        generalize t.kids[k] = u at *
        obtain ⟨A0, c0, rfl⟩ := own_form L.own
        rw [had] at x3
        have hkl := HKL.out
        have j0 : (0 : Int) ≤ (k : Int) := by omega
        have i1 : (k : Int) < (t.len : Int) := by omega
        have i2 : (k : Int) < 62 := by omega
        clear hkl had hst hR1 hO1
        have HK := Lib.hid hKid
        have HC := Lib.hid hCk
        clear hKid hCk HCC HRW IH
        have hx3 := (L.bel.cell (p := ⟨w.heap.size, 3, none⟩) (Nat.lt_succ_self _)).trans x3
        have hO := L.r2.drw
        obtain ⟨-, -, -, oo3, -⟩ := L.r2.c4
        have own := L.own.drew
        have hsz1 : w.heap.size + 3 ≤ wr.drew.heap.size := hgs
        go_wp2_with fail
        refine wp_region_held_drew (S := (Below (w.heap.size + 1) W1)) (by kernel_rfl) L.bel.drew (fun hHeld => ?_)
        refine wpAnyH_take (i := 0) (v := ?_) rfl (by kernel_rfl) (by kernel_rfl) (by kernel_rfl) (fun _ _ _ h => h) (Or.inl ⟨by kernel_rfl, ?_⟩) (by assumption) ?_
        rotate_left
        · intro wx hSx
          go_simp
          try with_reducible rfl
        try simp only [Act.put]
        try simp only [List.setIfInBounds_toArray]
        try simp only [List.set_cons_succ]
        try simp only [List.set_cons_zero]
        refine wpAnyH_take (i := 2) (v := ?_) rfl (by kernel_rfl) (by kernel_rfl) (by kernel_rfl) (fun _ _ _ h => h) (Or.inl ⟨by kernel_rfl, ?_⟩) (by assumption) ?_
        rotate_left
        · intro wx hSx
          go_simp
          try with_reducible rfl
        try simp only [Act.put]
        try simp only [List.setIfInBounds_toArray]
        try simp only [List.set_cons_succ]
        try simp only [List.set_cons_zero]
        refine wpAnyH_take (i := 3) (v := ?_) rfl (by kernel_rfl) (by kernel_rfl) (by kernel_rfl) (fun _ _ _ h => h) (Or.inl ⟨by kernel_rfl, ?_⟩) (by assumption) ?_
        rotate_left
        · intro wx hSx
          have y3 := hSx.cell (p := ⟨w.heap.size, 3, none⟩) (Nat.lt_succ_self _)
          rw [x3] at y3
          obtain ⟨g0, g1, g2, g3⟩ := HK.out _ hSx
          go_simp
          try with_reducible rfl
        try simp only [Act.put]
        try simp only [List.setIfInBounds_toArray]
        try simp only [List.set_cons_succ]
        try simp only [List.set_cons_zero]
        refine wpAnyH_take (i := 4) (v := ?_) rfl (by kernel_rfl) (by kernel_rfl) (by kernel_rfl) (fun _ _ _ h => h) (Or.inl ⟨by kernel_rfl, ?_⟩) (by assumption) ?_
        rotate_left
        · intro wx hSx
          go_simp
          try with_reducible rfl
        try simp only [Act.put]
        try simp only [List.setIfInBounds_toArray]
        try simp only [List.set_cons_succ]
        try simp only [List.set_cons_zero]
        refine wpAnyH_take (i := 5) (v := ?_) rfl (by kernel_rfl) (by kernel_rfl) (by kernel_rfl) (fun _ _ _ h => h) (Or.inl ⟨by kernel_rfl, ?_⟩) (by assumption) ?_
        rotate_left
        · intro wx hSx
          go_simp
          try with_reducible rfl
        try simp only [Act.put]
        try simp only [List.setIfInBounds_toArray]
        try simp only [List.set_cons_succ]
        try simp only [List.set_cons_zero]
        refine wpAnyH_take (i := 6) (v := ?_) rfl (by kernel_rfl) (by kernel_rfl) (by kernel_rfl) (fun _ _ _ h => h) (Or.inl ⟨by kernel_rfl, ?_⟩) (by assumption) ?_
        rotate_left
        · intro wx hSx
          have y3 := hSx.cell (p := ⟨w.heap.size, 3, none⟩) (Nat.lt_succ_self _)
          rw [x3] at y3
          obtain ⟨g0, g1, g2, g3⟩ := HK.out _ hSx
          go_simp
          try with_reducible rfl
        try simp only [Act.put]
        try simp only [List.setIfInBounds_toArray]
        try simp only [List.set_cons_succ]
        try simp only [List.set_cons_zero]
        refine wpAnyH_take (i := 7) (v := ?_) rfl (by kernel_rfl) (by kernel_rfl) (by kernel_rfl) (fun _ _ _ h => h) (Or.inl ⟨by kernel_rfl, ?_⟩) (by assumption) ?_
        rotate_left
        · intro wx hSx
          go_simp
          try with_reducible rfl
        try simp only [Act.put]
        try simp only [List.setIfInBounds_toArray]
        try simp only [List.set_cons_succ]
        try simp only [List.set_cons_zero]
        refine wpAnyH_take (i := 8) (v := ?_) rfl (by kernel_rfl) (by kernel_rfl) (by kernel_rfl) (fun _ _ _ h => h) (Or.inl ⟨by kernel_rfl, ?_⟩) (by assumption) ?_
        rotate_left
        · intro wx hSx
          go_simp
          try with_reducible rfl
        try simp only [Act.put]
        try simp only [List.setIfInBounds_toArray]
        try simp only [List.set_cons_succ]
        try simp only [List.set_cons_zero]
        refine wpAnyH_ready (rs := [1, 9]) (by kernel_rfl) (by simp) ?_
        refine AllReadyH.cons rfl (fun K hK => ?_) (AllReadyH.cons rfl (fun K hK => ?_) AllReadyH.nil)
        · have o3 := hO.c4.2.2.2.1
          go_simp
          refine hK.out _ _ hHeld (fun hHeld => ?_)
          clear hK K
          try simp only [Act.put]
          try simp only [List.setIfInBounds_toArray]
          try simp only [List.set_cons_succ]
          try simp only [List.set_cons_zero]
          refine wpAnyH_ready (rs := [9]) (by kernel_rfl) (by simp) ?_
          refine AllReadyH.cons rfl (fun K hK => ?_) AllReadyH.nil
          go_simp
          with_reducible refine (HC.out _ hHeld _ (by first | (rw [IntWalk.i64_in _ (by omega)]; have := HDD.out; omega) | (have := HDD.out; omega))).mono ?_
          rintro e w3 ⟨t', rfl, q1, q2, q3, q4, hb3⟩
          unfold TV.val TV.row
          try go_wp2_with fail
          replace hO := hO.below hb3
          replace own := own_below own hb3
          have own3 := own
          refine hK.out _ _ (hHeld.trans (hb3.mono (by have := hHeld.size; omega))) (fun hHeld => ?_)
          clear hK K
          try simp only [Act.put]
          try simp only [List.setIfInBounds_toArray]
          try simp only [List.set_cons_succ]
          try simp only [List.set_cons_zero]
          refine wpAnyH_ready (rs := [10]) (by kernel_rfl) (by simp) ?_
          refine AllReadyH.cons rfl (fun K hK => ?_) AllReadyH.nil
          go_simp
          replace hO := hO.alloc (.cells #[.int .i64 t'.kind, .int .i64 t'.num, .string t'.txt, (.slice t'.at_ t'.kids.length t'.cap)] 24)
          replace own := own.alloc (.cells #[.int .i64 t'.kind, .int .i64 t'.num, .string t'.txt, (.slice t'.at_ t'.kids.length t'.cap)] 24)
          refine hK.out _ _ (hHeld.alloc (by have := hHeld.size; omega) _) (fun hHeld => ?_)
          clear hK K
          try simp only [Act.put]
          try simp only [List.setIfInBounds_toArray]
          try simp only [List.set_cons_succ]
          try simp only [List.set_cons_zero]
          refine wpAnyH_ready (rs := [11]) (by kernel_rfl) (by simp) ?_
          refine AllReadyH.cons rfl (fun K hK => ?_) AllReadyH.nil
          refine step_append_lies _ (by rfl) _ _ _ (by rfl) (w.heap.size + 3) 24 i0 (.agg #[.int .i64 0, .int .i64 0, .string ByteArray.empty, .slice none 0 0]) 4 56 Tryz.underlying22 hi0 hz0 hz1 hz2 rfl (by omega) (.slice A0 k c0) k _ (by rfl) own ⟨w3.heap.size, 0, none⟩ 1 1 [.int .i64 t'.kind, .int .i64 t'.num, .string t'.txt, .slice t'.at_ t'.kids.length t'.cap] (by rfl) rfl (new_cells _ _ _) (by intro u hu; simp only [List.mem_cons, List.not_mem_nil, or_false] at hu; obtain rfl | rfl | rfl | rfl := hu <;> rfl) (by omega) (by unfold maxLen; omega) (by omega) (by have := hb3.size; simp; omega) (w3.heap.size + 1) (by simp) ?_
          intro g1 cap1 w5 hown5 hgrow hat hlt1
          refine hK.out _ _ (below_append hHeld own (by omega) (by omega) hgrow) (fun hHeld => ?_)
          clear hK K
          try simp only [Act.put]
          try simp only [List.setIfInBounds_toArray]
          try simp only [List.set_cons_succ]
          try simp only [List.set_cons_zero]
          refine wpAnyH_take (i := 12) (v := ?_) rfl (by kernel_rfl) (by kernel_rfl) (by kernel_rfl) (fun _ _ _ h => h) (Or.inl ⟨by kernel_rfl, ?_⟩) (by assumption) ?_
          rotate_left
          · intro wx hSx
            go_simp
            try with_reducible rfl
          try simp only [Act.put]
          try simp only [List.setIfInBounds_toArray]
          try simp only [List.set_cons_succ]
          try simp only [List.set_cons_zero]
          refine wpAnyH_ready (rs := [13]) (by kernel_rfl) (by simp) ?_
          refine AllReadyH.cons rfl (fun K hK => ?_) AllReadyH.nil
          have hO5 := hO.kept (hgrow.block _ hO.lt (own_lo own (by omega)))
          have p3 := hO5.c4.2.2.2.1
          have p7 := hO5.c4.2.2.2.2.2.2.2
          go_simp
          refine hK.out _ _ (hHeld.setCell (show w.heap.size + 1 ≤ w.heap.size + 1 + 1 by omega) _) (fun hHeld => ?_)
          clear hK K
          try simp only [Act.put]
          try simp only [List.setIfInBounds_toArray]
          try simp only [List.set_cons_succ]
          try simp only [List.set_cons_zero]
          refine wpAnyH_done (by kernel_rfl) ?_ _
          go_wp2_with fail
          go_roundw
          case rel => exact ⟨k + 1, _, ts ++ [t'], by go_num, by omega, L.step hb3 q1 q2 q3 q4 HI.out own hgrow hat hown5 hO5 hHeld⟩
          case measure => simp [intOf]; omega
        · go_simp
          with_reducible refine (HC.out _ hHeld _ (by first | (rw [IntWalk.i64_in _ (by omega)]; have := HDD.out; omega) | (have := HDD.out; omega))).mono ?_
          rintro e w3 ⟨t', rfl, q1, q2, q3, q4, hb3⟩
          unfold TV.val TV.row
          try go_wp2_with fail
          replace hO := hO.below hb3
          replace own := own_below own hb3
          have own3 := own
          refine hK.out _ _ (hHeld.trans (hb3.mono (by have := hHeld.size; omega))) (fun hHeld => ?_)
          clear hK K
          try simp only [Act.put]
          try simp only [List.setIfInBounds_toArray]
          try simp only [List.set_cons_succ]
          try simp only [List.set_cons_zero]
          refine wpAnyH_ready (rs := [1, 10]) (by kernel_rfl) (by simp) ?_
          refine AllReadyH.cons rfl (fun K hK => ?_) (AllReadyH.cons rfl (fun K hK => ?_) AllReadyH.nil)
          · have o3 := hO.c4.2.2.2.1
            go_simp
            refine hK.out _ _ hHeld (fun hHeld => ?_)
            clear hK K
            try simp only [Act.put]
            try simp only [List.setIfInBounds_toArray]
            try simp only [List.set_cons_succ]
            try simp only [List.set_cons_zero]
            refine wpAnyH_ready (rs := [10]) (by kernel_rfl) (by simp) ?_
            refine AllReadyH.cons rfl (fun K hK => ?_) AllReadyH.nil
            go_simp
            replace hO := hO.alloc (.cells #[.int .i64 t'.kind, .int .i64 t'.num, .string t'.txt, (.slice t'.at_ t'.kids.length t'.cap)] 24)
            replace own := own.alloc (.cells #[.int .i64 t'.kind, .int .i64 t'.num, .string t'.txt, (.slice t'.at_ t'.kids.length t'.cap)] 24)
            refine hK.out _ _ (hHeld.alloc (by have := hHeld.size; omega) _) (fun hHeld => ?_)
            clear hK K
            try simp only [Act.put]
            try simp only [List.setIfInBounds_toArray]
            try simp only [List.set_cons_succ]
            try simp only [List.set_cons_zero]
            refine wpAnyH_ready (rs := [11]) (by kernel_rfl) (by simp) ?_
            refine AllReadyH.cons rfl (fun K hK => ?_) AllReadyH.nil
            refine step_append_lies _ (by rfl) _ _ _ (by rfl) (w.heap.size + 3) 24 i0 (.agg #[.int .i64 0, .int .i64 0, .string ByteArray.empty, .slice none 0 0]) 4 56 Tryz.underlying22 hi0 hz0 hz1 hz2 rfl (by omega) (.slice A0 k c0) k _ (by rfl) own ⟨w3.heap.size, 0, none⟩ 1 1 [.int .i64 t'.kind, .int .i64 t'.num, .string t'.txt, .slice t'.at_ t'.kids.length t'.cap] (by rfl) rfl (new_cells _ _ _) (by intro u hu; simp only [List.mem_cons, List.not_mem_nil, or_false] at hu; obtain rfl | rfl | rfl | rfl := hu <;> rfl) (by omega) (by unfold maxLen; omega) (by omega) (by have := hb3.size; simp; omega) (w3.heap.size + 1) (by simp) ?_
            intro g1 cap1 w5 hown5 hgrow hat hlt1
            refine hK.out _ _ (below_append hHeld own (by omega) (by omega) hgrow) (fun hHeld => ?_)
            clear hK K
            try simp only [Act.put]
            try simp only [List.setIfInBounds_toArray]
            try simp only [List.set_cons_succ]
            try simp only [List.set_cons_zero]
            refine wpAnyH_take (i := 12) (v := ?_) rfl (by kernel_rfl) (by kernel_rfl) (by kernel_rfl) (fun _ _ _ h => h) (Or.inl ⟨by kernel_rfl, ?_⟩) (by assumption) ?_
            rotate_left
            · intro wx hSx
              go_simp
              try with_reducible rfl
            try simp only [Act.put]
            try simp only [List.setIfInBounds_toArray]
            try simp only [List.set_cons_succ]
            try simp only [List.set_cons_zero]
            refine wpAnyH_ready (rs := [13]) (by kernel_rfl) (by simp) ?_
            refine AllReadyH.cons rfl (fun K hK => ?_) AllReadyH.nil
            have hO5 := hO.kept (hgrow.block _ hO.lt (own_lo own (by omega)))
            have p3 := hO5.c4.2.2.2.1
            have p7 := hO5.c4.2.2.2.2.2.2.2
            go_simp
            refine hK.out _ _ (hHeld.setCell (show w.heap.size + 1 ≤ w.heap.size + 1 + 1 by omega) _) (fun hHeld => ?_)
            clear hK K
            try simp only [Act.put]
            try simp only [List.setIfInBounds_toArray]
            try simp only [List.set_cons_succ]
            try simp only [List.set_cons_zero]
            refine wpAnyH_done (by kernel_rfl) ?_ _
            go_wp2_with fail
            go_roundw
            case rel => exact ⟨k + 1, _, ts ++ [t'], by go_num, by omega, L.step hb3 q1 q2 q3 q4 HI.out own hgrow hat hown5 hO5 hHeld⟩
            case measure => simp [intOf]; omega
          · go_simp
            replace hO := hO.alloc (.cells #[.int .i64 t'.kind, .int .i64 t'.num, .string t'.txt, (.slice t'.at_ t'.kids.length t'.cap)] 24)
            replace own := own.alloc (.cells #[.int .i64 t'.kind, .int .i64 t'.num, .string t'.txt, (.slice t'.at_ t'.kids.length t'.cap)] 24)
            refine hK.out _ _ (hHeld.alloc (by have := hHeld.size; omega) _) (fun hHeld => ?_)
            clear hK K
            try simp only [Act.put]
            try simp only [List.setIfInBounds_toArray]
            try simp only [List.set_cons_succ]
            try simp only [List.set_cons_zero]
            refine wpAnyH_ready (rs := [1]) (by kernel_rfl) (by simp) ?_
            refine AllReadyH.cons rfl (fun K hK => ?_) AllReadyH.nil
            have o3 := hO.c4.2.2.2.1
            go_simp
            refine hK.out _ _ hHeld (fun hHeld => ?_)
            clear hK K
            try simp only [Act.put]
            try simp only [List.setIfInBounds_toArray]
            try simp only [List.set_cons_succ]
            try simp only [List.set_cons_zero]
            refine wpAnyH_ready (rs := [11]) (by kernel_rfl) (by simp) ?_
            refine AllReadyH.cons rfl (fun K hK => ?_) AllReadyH.nil
            refine step_append_lies _ (by rfl) _ _ _ (by rfl) (w.heap.size + 3) 24 i0 (.agg #[.int .i64 0, .int .i64 0, .string ByteArray.empty, .slice none 0 0]) 4 56 Tryz.underlying22 hi0 hz0 hz1 hz2 rfl (by omega) (.slice A0 k c0) k _ (by rfl) own ⟨w3.heap.size, 0, none⟩ 1 1 [.int .i64 t'.kind, .int .i64 t'.num, .string t'.txt, .slice t'.at_ t'.kids.length t'.cap] (by rfl) rfl (new_cells _ _ _) (by intro u hu; simp only [List.mem_cons, List.not_mem_nil, or_false] at hu; obtain rfl | rfl | rfl | rfl := hu <;> rfl) (by omega) (by unfold maxLen; omega) (by omega) (by have := hb3.size; simp; omega) (w3.heap.size + 1) (by simp) ?_
            intro g1 cap1 w5 hown5 hgrow hat hlt1
            refine hK.out _ _ (below_append hHeld own (by omega) (by omega) hgrow) (fun hHeld => ?_)
            clear hK K
            try simp only [Act.put]
            try simp only [List.setIfInBounds_toArray]
            try simp only [List.set_cons_succ]
            try simp only [List.set_cons_zero]
            refine wpAnyH_take (i := 12) (v := ?_) rfl (by kernel_rfl) (by kernel_rfl) (by kernel_rfl) (fun _ _ _ h => h) (Or.inl ⟨by kernel_rfl, ?_⟩) (by assumption) ?_
            rotate_left
            · intro wx hSx
              go_simp
              try with_reducible rfl
            try simp only [Act.put]
            try simp only [List.setIfInBounds_toArray]
            try simp only [List.set_cons_succ]
            try simp only [List.set_cons_zero]
            refine wpAnyH_ready (rs := [13]) (by kernel_rfl) (by simp) ?_
            refine AllReadyH.cons rfl (fun K hK => ?_) AllReadyH.nil
            have hO5 := hO.kept (hgrow.block _ hO.lt (own_lo own (by omega)))
            have p3 := hO5.c4.2.2.2.1
            have p7 := hO5.c4.2.2.2.2.2.2.2
            go_simp
            refine hK.out _ _ (hHeld.setCell (show w.heap.size + 1 ≤ w.heap.size + 1 + 1 by omega) _) (fun hHeld => ?_)
            clear hK K
            try simp only [Act.put]
            try simp only [List.setIfInBounds_toArray]
            try simp only [List.set_cons_succ]
            try simp only [List.set_cons_zero]
            refine wpAnyH_done (by kernel_rfl) ?_ _
            go_wp2_with fail
            go_roundw
            case rel => exact ⟨k + 1, _, ts ++ [t'], by go_num, by omega, L.step hb3 q1 q2 q3 q4 HI.out own hgrow hat hown5 hO5 hHeld⟩
            case measure => simp [intOf]; omega
      · obtain rfl : k = t.kids.length := by omega
        have hkl := HKL.out
        have hits : IN.mk t.kind t.num (cutS 601 t.txt) (TV.items ts) = cutT (d + 1) t := by
          rw [L.its, List.take_length]
          rfl
        have hn : t.kids.length ≤ 62 := by omega
        have hor : ¬ ((t.kids.length : Int) < (t.len : Int)) ∨ ((t.kids.length : Int) < (t.len : Int) ∧ ¬ ((t.kids.length : Int) < 62)) := by omega
        obtain ⟨A0, c0, rfl⟩ := own_form L.own
        have HL := Lib.hid (L.done hits hn b0)
        obtain ⟨z0, z1, z2, z3, v0, v1, v2, v3⟩ := L.r1.c4
        obtain ⟨y0, y1, y2, y3, -, -, -, -⟩ := L.r2.c4
        have hx3 := (L.bel.cell (p := ⟨w.heap.size, 3, none⟩) (Nat.lt_succ_self _)).trans x3
        have HR1 := Lib.hid L.r1
        clear hkl hits hst hR1 hO1 hX hX2 hm1 hm2 hs hlen HCC HRW IH b1 L
        rcases hor with i1 | ⟨i1, i2⟩
        · go_wp2_with fail
          exact bodyPost_ret (v := _) (ret_item1 (pt := 4) (by kernel_rfl) rfl (blk_set4 HR1.out _ _ _ _)) rfl HL.out
        · go_wp2_with fail
          exact bodyPost_ret (v := _) (ret_item1 (pt := 4) (by kernel_rfl) rfl (blk_set4 HR1.out _ _ _ _)) rfl HL.out

end Go.Proofs.YtmoghgmbpkpcfaaGreatDoor
