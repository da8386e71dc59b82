/-
  Package postriderref04 (the document's answer for items): bytes, Encode. Conditions: as the theorems' own hypotheses say.
-/
import Derived.Test.YtmoghgmbpkpcfaaGreatDoorIrC
import Derived.Test.YtmoghgmbpkpcfaaGreatDoorHeadJ
import Derived.Test.YtmoghgmbpkpcfaaGreatDoorItH
namespace Go.Proofs.YtmoghgmbpkpcfaaGreatDoor
open Go.RowKit Go.Shelf

/-- What stands of an item's text. -/
def wantT (m g : Nat) (s : ByteArray) (l : List IN) (k : Nat) : ByteArray := ⟨(headL m g ++ s.data.toList ++ IN.bytesL (l.take k)).toArray⟩
theorem rbytesL_append (l m : List IN) : IN.bytesL (l ++ m) = IN.bytesL l ++ IN.bytesL m := by
  induction l with
  | nil => rfl
  | cons x l ih => rw [List.cons_append, IN.bytesL, IN.bytesL, ih, List.append_assoc]
theorem wantT_zero (m g : Nat) (s : ByteArray) (l : List IN) : (⟨(headL m g).toArray⟩ : ByteArray) ++ s = wantT m g s l 0 := by
  apply ByteArray.ext
  rw [ByteArray.data_append, ← Array.toList_inj, Array.toList_append]
  show headL m g ++ s.data.toList = headL m g ++ s.data.toList ++ IN.bytesL (l.take 0)
  rw [List.take_zero, IN.bytesL, List.append_nil]
theorem wantT_succ {m g : Nat} {s : ByteArray} {l : List IN} {k : Nat} (h : k < l.length) : wantT m g s l k ++ l[k].text = wantT m g s l (k + 1) := by
  apply ByteArray.ext
  rw [ByteArray.data_append, ← Array.toList_inj, Array.toList_append]
  show (headL m g ++ s.data.toList ++ IN.bytesL (l.take k)) ++ l[k].bytes = headL m g ++ s.data.toList ++ IN.bytesL (l.take (k + 1))
  rw [List.take_succ_eq_append_getElem h, rbytesL_append, List.append_assoc]
  congr 2
  rw [IN.bytesL, IN.bytesL, List.append_nil]
theorem wantT_size (m g : Nat) (s : ByteArray) (l : List IN) (k : Nat) : (wantT m g s l k).size ≤ (headL m g ++ s.data.toList ++ IN.bytesL l).length := by
  have e : ∀ X : List UInt8, (⟨X.toArray⟩ : ByteArray).size = X.length := fun X => by show X.toArray.size = _; simp
  have h2 := congrArg List.length (show IN.bytesL l = IN.bytesL (l.take k) ++ IN.bytesL (l.drop k) by rw [← rbytesL_append, List.take_append_drop])
  rw [wantT, e]
  simp only [List.length_append] at h2 ⊢
  omega

def BytesAt (x : TV) : Prop := ∀ (w : World), ItAt w.heap.size w x → (∃ f, x.item.ok f = true) → x.item.bytes.length ≤ 36540 → Calls Tryz.prog 22 #[x.val] w (Ret (.string x.item.text) w)

set_option maxRecDepth 100000 in
set_option maxHeartbeats 4000000 in
theorem bytes_step (k n : Int) (s : ByteArray) (a : Option Addr) (c : Nat) (l : List TV) (hl : l.length ≤ 62) (w : World) (hat : RowT w w.heap.size a l) (hk : ∀ x ∈ l, ItAt w.heap.size w x) (ih : ∀ x ∈ l, BytesAt x)
    (h1 : oneB k n s l.length = true) (hok : ∀ x ∈ l, ∃ f, x.item.ok f = true) (hz : (IN.mk k n s (TV.items l)).bytes.length ≤ 36540) :
    Calls Tryz.prog 22 #[.agg #[.int .i64 k, .int .i64 n, .string s, .slice a l.length c]] w (Ret (.string (IN.mk k n s (TV.items l)).text) w) := by
  have q0 := ext_new w (.cells #[.int .i64 k, .int .i64 n, .string s, .slice a l.length c] 24)
  have hX := Blk.new_ w 24 #[.int .i64 k, .int .i64 n, .string s, .slice a l.length c]
  have hE := fun W => rEncode_any k (argI n s.size l.length) W
  rw [(enc_one h1 hl).1] at hE
  have hil := items_length l
  have hb : (IN.mk k n s (TV.items l)).bytes = headL k.toNat (argI n s.size l.length).toNat ++ s.data.toList ++ IN.bytesL (TV.items l) := by rw [IN.bytes, hil]
  have hwz : ∀ j, (wantT k.toNat (argI n s.size l.length).toNat s (TV.items l) j).size ≤ 36540 := fun j => by
    have := wantT_size k.toNat (argI n s.size l.length).toNat s (TV.items l) j
    rw [← hb] at this
    omega
  have hfin : (IN.mk k n s (TV.items l)).text = wantT k.toNat (argI n s.size l.length).toNat s (TV.items l) l.length := by
    rw [IN.text, hb, wantT, ← hil, List.take_length]
  have hkb : ∀ x ∈ l, x.item.bytes.length ≤ 36540 := fun x hx => by
    have h2 := bytesL_mem (l := TV.items l) x.item (by rw [items_map]; exact List.mem_map_of_mem hx)
    rw [hb, List.length_append, List.length_append] at hz
    omega
  have hw0 := wantT_zero k.toNat (argI n s.size l.length).toNat s (TV.items l)
  have hzz := hwz 0
  rw [← hw0, ByteArray.size_append] at hzz
  have harg : (k = 4 ∧ argI n s.size l.length = (l.length : Int)) ∨ (k = 0 ∧ argI n s.size l.length = n) ∨ ((k = 2 ∨ k = 3) ∧ argI n s.size l.length = (s.size : Int)) := by
    rcases oneB_cases h1 with ⟨rfl, q1, q2, q3, q4⟩ | ⟨rfl, rfl, q3, q4⟩ | ⟨rfl, rfl, q3, q4, -⟩ | ⟨rfl, rfl, q3⟩
    · exact .inr (.inl ⟨rfl, by unfold argI; omega⟩)
    · exact .inr (.inr ⟨.inl rfl, by unfold argI; omega⟩)
    · exact .inr (.inr ⟨.inr rfl, by unfold argI; omega⟩)
    · exact .inl ⟨rfl, by unfold argI; omega⟩
  rw [hfin]
  have HK := Lib.hid hk
  have IH := Lib.hid ih
  have HR := Lib.hid hat
  have HOK := Lib.hid hok
  have HKB := Lib.hid hkb
  have HWZ := Lib.hid hwz
  have HW0 := Lib.hid hw0
  generalize hits : TV.items l = its at *
  have HIT := Lib.hid hits
  have HIL := Lib.hid hil
  clear hk ih hat hok hkb hwz hw0 hits hil hb hfin hz h1
  generalize hg : argI n s.size l.length = g at *
  clear hg
  generalize (⟨(headL k.toNat g.toNat).toArray⟩ : ByteArray) = hd at *
  have hz3 : ¬ (9223372036854775807 < hd.size + s.size) := by omega
  have o0 := hX.c4.1
  have o1 := hX.c4.2.1
  have o2 := hX.c4.2.2.1
  have o3 := hX.c4.2.2.2.1
  rcases harg with ⟨rfl, rfl⟩ | ⟨rfl, rfl⟩ | ⟨rfl | rfl, rfl⟩
  · go_enter Tryz.func22, Tryz.ntmps22
    go_wp2_with fail
    refine (hE _).mono ?_
    rintro e w1 ⟨rfl, hb1⟩
    have hX1 := hX.below hb1
    have q1 := ext_trans q0 hb1
    clear o0 o1 o2 o3 hE hX q0 hb1
    have o2 := hX1.c4.2.2.1
    dsimp only
    go_wp2_with fail
    go_loopw [4, 6] (fun sv i wr => ∃ j : Nat, j ≤ l.length ∧ i = .int .i64 (j : Int) ∧ sv = .string (wantT (4 : Int).toNat (l.length : Int).toNat s its j) ∧ Blk wr w.heap.size 24 #[.int .i64 4, .int .i64 n, .string s, .slice a l.length c] ∧ Below w.heap.size w wr) (fun _ i _ => l.length - (intOf i).toNat)
    case atStart => exact ⟨0, Nat.zero_le _, rfl, by rw [HW0.out], hX1, q1⟩
    case round =>
      obtain ⟨j, hj, rfl, rfl, hX, hb⟩ := hrel
      by_cases hlt : j < l.length
      · obtain ⟨ad, had, hblk, hcells⟩ := HR.out (by omega)
        obtain ⟨z0, z1, z2, z3⟩ := hcells j hlt
        have hlb : (ad.add (j * 4)).block < w.heap.size := by rw [ad_blk]; exact hblk
        replace z0 := (hb.cell hlb).trans z0
        replace z1 := (hb.cell (by exact hlb)).trans z1
        replace z2 := (hb.cell (by exact hlb)).trans z2
        replace z3 := (hb.cell (by exact hlb)).trans z3
        have hmem := List.getElem_mem hlt
        have hCk := IH.out _ hmem wr ((HK.out _ hmem).later hb hb.size) (HOK.out _ hmem) (HKB.out _ hmem)
        have hgk : its[j]'(by rw [HIL.out]; exact hlt) = l[j].item := by
          have h1 := HIT.out
          subst h1
          simp only [items_map, List.getElem_map]
        have hws := wantT_succ (m := (4 : Int).toNat) (g := (l.length : Int).toNat) (s := s) (l := its) (k := j) (by rw [HIL.out]; exact hlt)
        rw [hgk] at hws
        have hs2 := HWZ.out (j + 1)
        rw [← hws, ByteArray.size_append] at hs2
        have HWS := Lib.hid hws
        rw [had] at hX
        have HAD := Lib.hid had
        have o3 := hX.c4.2.2.2.1
        unfold TV.row at z3
        unfold TV.val TV.row at hCk
        have j0 : (0 : Int) ≤ (j : Int) := by omega
        have j1 : (j : Int) < (l.length : Int) := by omega
        clear hcells hmem hgk hws had
        generalize l[j] = y at *
        generalize y.item.text = ty at *
        generalize wantT (4 : Int).toNat (l.length : Int).toNat s its j = wk at *
        have hz4 : ¬ (9223372036854775807 < wk.size + ty.size) := by omega
        go_wp2_with fail
        refine hCk.mono ?_
        rintro e w3 ⟨rfl, hb3⟩
        have hX3 := hX.below hb3
        have hb4 := hb.trans (hb3.mono hb.size)
        go_wp2_with fail
        go_roundw
        case rel => exact ⟨j + 1, by omega, by go_num, by rw [HWS.out], by rw [HAD.out]; exact hX3, hb4⟩
        case measure => simp [intOf]; omega
      · obtain rfl : j = l.length := by omega
        have j1 : ¬ ((l.length : Int) < (l.length : Int)) := by omega
        have o3 := hX.c4.2.2.2.1
        generalize wantT (4 : Int).toNat (l.length : Int).toNat s its l.length = wk at *
        go_wp2_with fail
        go_ret
        exact ⟨rfl, hb⟩
  · go_enter Tryz.func22, Tryz.ntmps22
    go_wp2_with fail
    refine (hE _).mono ?_
    rintro e w1 ⟨rfl, hb1⟩
    have hX1 := hX.below hb1
    have q1 := ext_trans q0 hb1
    clear o0 o1 o2 o3 hE hX q0 hb1
    have o2 := hX1.c4.2.2.1
    dsimp only
    go_wp2_with fail
    go_loopw [4, 6] (fun sv i wr => ∃ j : Nat, j ≤ l.length ∧ i = .int .i64 (j : Int) ∧ sv = .string (wantT (0 : Int).toNat g.toNat s its j) ∧ Blk wr w.heap.size 24 #[.int .i64 0, .int .i64 g, .string s, .slice a l.length c] ∧ Below w.heap.size w wr) (fun _ i _ => l.length - (intOf i).toNat)
    case atStart => exact ⟨0, Nat.zero_le _, rfl, by rw [HW0.out], hX1, q1⟩
    case round =>
      obtain ⟨j, hj, rfl, rfl, hX, hb⟩ := hrel
      by_cases hlt : j < l.length
      · obtain ⟨ad, had, hblk, hcells⟩ := HR.out (by omega)
        obtain ⟨z0, z1, z2, z3⟩ := hcells j hlt
        have hlb : (ad.add (j * 4)).block < w.heap.size := by rw [ad_blk]; exact hblk
        replace z0 := (hb.cell hlb).trans z0
        replace z1 := (hb.cell (by exact hlb)).trans z1
        replace z2 := (hb.cell (by exact hlb)).trans z2
        replace z3 := (hb.cell (by exact hlb)).trans z3
        have hmem := List.getElem_mem hlt
        have hCk := IH.out _ hmem wr ((HK.out _ hmem).later hb hb.size) (HOK.out _ hmem) (HKB.out _ hmem)
        have hgk : its[j]'(by rw [HIL.out]; exact hlt) = l[j].item := by
          have h1 := HIT.out
          subst h1
          simp only [items_map, List.getElem_map]
        have hws := wantT_succ (m := (0 : Int).toNat) (g := g.toNat) (s := s) (l := its) (k := j) (by rw [HIL.out]; exact hlt)
        rw [hgk] at hws
        have hs2 := HWZ.out (j + 1)
        rw [← hws, ByteArray.size_append] at hs2
        have HWS := Lib.hid hws
        rw [had] at hX
        have HAD := Lib.hid had
        have o3 := hX.c4.2.2.2.1
        unfold TV.row at z3
        unfold TV.val TV.row at hCk
        have j0 : (0 : Int) ≤ (j : Int) := by omega
        have j1 : (j : Int) < (l.length : Int) := by omega
        clear hcells hmem hgk hws had
        generalize l[j] = y at *
        generalize y.item.text = ty at *
        generalize wantT (0 : Int).toNat g.toNat s its j = wk at *
        have hz4 : ¬ (9223372036854775807 < wk.size + ty.size) := by omega
        go_wp2_with fail
        refine hCk.mono ?_
        rintro e w3 ⟨rfl, hb3⟩
        have hX3 := hX.below hb3
        have hb4 := hb.trans (hb3.mono hb.size)
        go_wp2_with fail
        go_roundw
        case rel => exact ⟨j + 1, by omega, by go_num, by rw [HWS.out], by rw [HAD.out]; exact hX3, hb4⟩
        case measure => simp [intOf]; omega
      · obtain rfl : j = l.length := by omega
        have j1 : ¬ ((l.length : Int) < (l.length : Int)) := by omega
        have o3 := hX.c4.2.2.2.1
        generalize wantT (0 : Int).toNat g.toNat s its l.length = wk at *
        go_wp2_with fail
        go_ret
        exact ⟨rfl, hb⟩
  · go_enter Tryz.func22, Tryz.ntmps22
    go_wp2_with fail
    refine (hE _).mono ?_
    rintro e w1 ⟨rfl, hb1⟩
    have hX1 := hX.below hb1
    have q1 := ext_trans q0 hb1
    clear o0 o1 o2 o3 hE hX q0 hb1
    have o2 := hX1.c4.2.2.1
    dsimp only
    go_wp2_with fail
    go_loopw [4, 6] (fun sv i wr => ∃ j : Nat, j ≤ l.length ∧ i = .int .i64 (j : Int) ∧ sv = .string (wantT (2 : Int).toNat (s.size : Int).toNat s its j) ∧ Blk wr w.heap.size 24 #[.int .i64 2, .int .i64 n, .string s, .slice a l.length c] ∧ Below w.heap.size w wr) (fun _ i _ => l.length - (intOf i).toNat)
    case atStart => exact ⟨0, Nat.zero_le _, rfl, by rw [HW0.out], hX1, q1⟩
    case round =>
      obtain ⟨j, hj, rfl, rfl, hX, hb⟩ := hrel
      by_cases hlt : j < l.length
      · obtain ⟨ad, had, hblk, hcells⟩ := HR.out (by omega)
        obtain ⟨z0, z1, z2, z3⟩ := hcells j hlt
        have hlb : (ad.add (j * 4)).block < w.heap.size := by rw [ad_blk]; exact hblk
        replace z0 := (hb.cell hlb).trans z0
        replace z1 := (hb.cell (by exact hlb)).trans z1
        replace z2 := (hb.cell (by exact hlb)).trans z2
        replace z3 := (hb.cell (by exact hlb)).trans z3
        have hmem := List.getElem_mem hlt
        have hCk := IH.out _ hmem wr ((HK.out _ hmem).later hb hb.size) (HOK.out _ hmem) (HKB.out _ hmem)
        have hgk : its[j]'(by rw [HIL.out]; exact hlt) = l[j].item := by
          have h1 := HIT.out
          subst h1
          simp only [items_map, List.getElem_map]
        have hws := wantT_succ (m := (2 : Int).toNat) (g := (s.size : Int).toNat) (s := s) (l := its) (k := j) (by rw [HIL.out]; exact hlt)
        rw [hgk] at hws
        have hs2 := HWZ.out (j + 1)
        rw [← hws, ByteArray.size_append] at hs2
        have HWS := Lib.hid hws
        rw [had] at hX
        have HAD := Lib.hid had
        have o3 := hX.c4.2.2.2.1
        unfold TV.row at z3
        unfold TV.val TV.row at hCk
        have j0 : (0 : Int) ≤ (j : Int) := by omega
        have j1 : (j : Int) < (l.length : Int) := by omega
        clear hcells hmem hgk hws had
        generalize l[j] = y at *
        generalize y.item.text = ty at *
        generalize wantT (2 : Int).toNat (s.size : Int).toNat s its j = wk at *
        have hz4 : ¬ (9223372036854775807 < wk.size + ty.size) := by omega
        go_wp2_with fail
        refine hCk.mono ?_
        rintro e w3 ⟨rfl, hb3⟩
        have hX3 := hX.below hb3
        have hb4 := hb.trans (hb3.mono hb.size)
        go_wp2_with fail
        go_roundw
        case rel => exact ⟨j + 1, by omega, by go_num, by rw [HWS.out], by rw [HAD.out]; exact hX3, hb4⟩
        case measure => simp [intOf]; omega
      · obtain rfl : j = l.length := by omega
        have j1 : ¬ ((l.length : Int) < (l.length : Int)) := by omega
        have o3 := hX.c4.2.2.2.1
        generalize wantT (2 : Int).toNat (s.size : Int).toNat s its l.length = wk at *
        go_wp2_with fail
        go_ret
        exact ⟨rfl, hb⟩
  · go_enter Tryz.func22, Tryz.ntmps22
    go_wp2_with fail
    refine (hE _).mono ?_
    rintro e w1 ⟨rfl, hb1⟩
    have hX1 := hX.below hb1
    have q1 := ext_trans q0 hb1
    clear o0 o1 o2 o3 hE hX q0 hb1
    have o2 := hX1.c4.2.2.1
    dsimp only
    go_wp2_with fail
    go_loopw [4, 6] (fun sv i wr => ∃ j : Nat, j ≤ l.length ∧ i = .int .i64 (j : Int) ∧ sv = .string (wantT (3 : Int).toNat (s.size : Int).toNat s its j) ∧ Blk wr w.heap.size 24 #[.int .i64 3, .int .i64 n, .string s, .slice a l.length c] ∧ Below w.heap.size w wr) (fun _ i _ => l.length - (intOf i).toNat)
    case atStart => exact ⟨0, Nat.zero_le _, rfl, by rw [HW0.out], hX1, q1⟩
    case round =>
      obtain ⟨j, hj, rfl, rfl, hX, hb⟩ := hrel
      by_cases hlt : j < l.length
      · obtain ⟨ad, had, hblk, hcells⟩ := HR.out (by omega)
        obtain ⟨z0, z1, z2, z3⟩ := hcells j hlt
        have hlb : (ad.add (j * 4)).block < w.heap.size := by rw [ad_blk]; exact hblk
        replace z0 := (hb.cell hlb).trans z0
        replace z1 := (hb.cell (by exact hlb)).trans z1
        replace z2 := (hb.cell (by exact hlb)).trans z2
        replace z3 := (hb.cell (by exact hlb)).trans z3
        have hmem := List.getElem_mem hlt
        have hCk := IH.out _ hmem wr ((HK.out _ hmem).later hb hb.size) (HOK.out _ hmem) (HKB.out _ hmem)
        have hgk : its[j]'(by rw [HIL.out]; exact hlt) = l[j].item := by
          have h1 := HIT.out
          subst h1
          simp only [items_map, List.getElem_map]
        have hws := wantT_succ (m := (3 : Int).toNat) (g := (s.size : Int).toNat) (s := s) (l := its) (k := j) (by rw [HIL.out]; exact hlt)
        rw [hgk] at hws
        have hs2 := HWZ.out (j + 1)
        rw [← hws, ByteArray.size_append] at hs2
        have HWS := Lib.hid hws
        rw [had] at hX
        have HAD := Lib.hid had
        have o3 := hX.c4.2.2.2.1
        unfold TV.row at z3
        unfold TV.val TV.row at hCk
        have j0 : (0 : Int) ≤ (j : Int) := by omega
        have j1 : (j : Int) < (l.length : Int) := by omega
        clear hcells hmem hgk hws had
        generalize l[j] = y at *
        generalize y.item.text = ty at *
        generalize wantT (3 : Int).toNat (s.size : Int).toNat s its j = wk at *
        have hz4 : ¬ (9223372036854775807 < wk.size + ty.size) := by omega
        go_wp2_with fail
        refine hCk.mono ?_
        rintro e w3 ⟨rfl, hb3⟩
        have hX3 := hX.below hb3
        have hb4 := hb.trans (hb3.mono hb.size)
        go_wp2_with fail
        go_roundw
        case rel => exact ⟨j + 1, by omega, by go_num, by rw [HWS.out], by rw [HAD.out]; exact hX3, hb4⟩
        case measure => simp [intOf]; omega
      · obtain rfl : j = l.length := by omega
        have j1 : ¬ ((l.length : Int) < (l.length : Int)) := by omega
        have o3 := hX.c4.2.2.2.1
        generalize wantT (3 : Int).toNat (s.size : Int).toNat s its l.length = wk at *
        go_wp2_with fail
        go_ret
        exact ⟨rfl, hb⟩
theorem bytes_tree (t : TV) : ∀ h, Fits h t → BytesAt t := by
  induction t using TV.ind with
  | h k n s a c l ih =>
    intro h hf w hat hok hz
    obtain ⟨h', rfl⟩ := hf.pos
    obtain ⟨hl, hs, hk⟩ := hf.kid
    have hl : l.length ≤ 62 := hl
    have hk : ∀ x ∈ l, Fits h' x := hk
    obtain ⟨f, hf1⟩ := hok
    cases f with
    | zero => rw [TV.item, IN.ok] at hf1; cases hf1
    | succ f =>
      rw [TV.item, IN.ok, Bool.and_eq_true, items_length] at hf1
      exact bytes_step k n s a c l hl w hat.row hat.kid (fun x hx => ih x hx h' (hk x hx)) hf1.1 (fun x hx => ⟨f, okL_mem hf1.2 x.item (by rw [items_map]; exact List.mem_map_of_mem hx)⟩) hz
/-- Encode, as the document says. -/
theorem rEncodeI_tree (t : TV) (w : World) (hat : ItAt w.heap.size w t) (hfit : Fits 7 t) (hz : t.item.right = true → t.item.bytes.length ≤ 36540) : Calls Tryz.prog 8 #[t.val] w (Ret (.tuple #[.string (encI t.item).1, .int .i64 (encI t.item).2]) w) := by
  have hb0 := ext_new w (.cells #[.int .i64 t.kind, .int .i64 t.num, .string t.txt, .slice t.at_ t.kids.length t.cap] 24)
  have hX := Blk.new_ w 24 #[.int .i64 t.kind, .int .i64 t.num, .string t.txt, .slice t.at_ t.kids.length t.cap]
  have hC := fun (W : World) (hW : Below w.heap.size w W) => rRightI_tree t W (hat.later hW hW.size) hfit
  have hB := fun (W : World) (hW : Below w.heap.size w W) (hr : t.item.right = true) => bytes_tree t 7 hfit W (hat.later hW hW.size) ⟨6, (right_iff.1 hr).1⟩ (hz hr)
  have HB := Lib.hid hB
  have HC := Lib.hid hC
  obtain ⟨c0, c1, c2, c3, -⟩ := hX.c4
  clear hfit hat hz hB hC
  unfold TV.val TV.row at *
  generalize t.item = x at *
  go_enter Tryz.func8, Tryz.ntmps8
  go_wp2_with fail
  refine (HC.out _ hb0).mono ?_
  rintro e w1 ⟨rfl, hb1⟩
  have hX1 := hX.below hb1
  have hb2 := ext_trans hb0 hb1
  clear c0 c1 c2 c3 hX hb0 hb1
  obtain ⟨c0, c1, c2, c3, -⟩ := hX1.c4
  rcases bool_cases x.right with hr | hr
  · have HE := Lib.hid (show encI x = (ByteArray.empty, 40) by rw [encI, if_neg (by rw [hr]; decide)])
    rw [hr]
    dsimp only
    go_wp2_with fail
    go_ret2
    exact ⟨by rw [HE.out]; rfl, hb2⟩
  · have HE := Lib.hid (show encI x = (x.text, 0) by rw [encI, if_pos hr])
    have hBB := HB.out _ hb2 hr
    rw [hr]
    dsimp only
    go_wp2_with fail
    refine hBB.mono ?_
    rintro e w3 ⟨rfl, hb3⟩
    go_wp2_with fail
    go_ret2
    exact ⟨by rw [HE.out]; rfl, hb2.trans (hb3.mono hb2.size)⟩
end Go.Proofs.YtmoghgmbpkpcfaaGreatDoor
