/-
  Package item: texts (isText), an item alone (isOne). No condition. Package item: is an item right, but for those in it (isOne)? No condition. Items in memory: a tree with the places of its lists. No condition.
-/
import Derived.Test.YtmoghgmbpkpcfaaGreatDoorMgE
import Derived.Test.YtmoghgmbpkpcfaaGreatDoorMgC
import Derived.Test.YtmoghgmbpkpcfaaGreatDoorMgA
import Derived.Lib.Hide
import Derived.Shelf.GgClosure.StringsIndexFunc
import Derived.Deep.QuietTactic
import Derived.BigQuiet
import Derived.OwnWalk
namespace Go.Proofs.YtmoghgmbpkpcfaaGreatDoor
open Go.RowKit Go.Shelf

/-- Is a rune no text's? -/
def otherR (r : Nat) : Bool := decide (r < 32) || decide (126 < r)
theorem dec_ascii {s : ByteArray} {p : Nat} (h : p < s.size) (hb : s[p].toNat < 128) : Utf8.decode s p = (s[p].toNat, 1) := by
  have e : (s.get! p) = s[p] := by
    show s.data[p]! = s.data[p]
    exact getElem!_pos s.data p h
  unfold Utf8.decode
  simp only [Nat.add_zero, e]
  rw [if_pos hb]
theorem dec_other {s : ByteArray} {p : Nat} (h : p < s.size) (hb : 128 ≤ s[p].toNat) : 128 ≤ (Utf8.decode s p).1 := by
  have e : (s.get! p) = s[p] := by
    show s.data[p]! = s.data[p]
    exact getElem!_pos s.data p h
  unfold Utf8.decode
  simp only [Nat.add_zero, e]
  rw [if_neg (by omega)]
  have he : Utf8.runeError = 65533 := rfl
  repeat' split
  all_goals (simp only [Bool.and_eq_true, decide_eq_true_eq] at *; omega)
theorem idx_text (s : ByteArray) : ∀ f p, s.size ≤ p + f → decide (0 ≤ Lib.idxFuncFrom otherR true s f p) = !(textB (s.data.toList.drop p)) := by
  intro f
  induction f with
  | zero =>
    intro p hp
    rw [Lib.idxFuncFrom, List.drop_of_length_le (by rw [txt_list]; omega)]
    rfl
  | succ f ih =>
    intro p hp
    rw [Lib.idxFuncFrom]
    by_cases h : p < s.size
    · have hd : s.data.toList.drop p = s[p] :: s.data.toList.drop (p + 1) := by
        rw [List.drop_eq_getElem_cons (by rw [txt_list]; exact h)]; rfl
      rw [if_pos h, hd, show textB (s[p] :: s.data.toList.drop (p + 1)) = (decide (32 ≤ s[p].toNat) && decide (s[p].toNat ≤ 126) && textB (s.data.toList.drop (p + 1))) from rfl]
      by_cases hb : s[p].toNat < 128
      · rw [dec_ascii h hb]
        dsimp only
        by_cases ho : otherR s[p].toNat = true
        · rw [if_pos ho, decide_eq_true (by omega)]
          have : (decide (32 ≤ s[p].toNat) && decide (s[p].toNat ≤ 126)) = false := by
            rw [otherR, Bool.or_eq_true, decide_eq_true_eq, decide_eq_true_eq] at ho
            rw [Bool.and_eq_false_iff, decide_eq_false_iff_not, decide_eq_false_iff_not]
            omega
          rw [this]
          rfl
        · rw [if_neg ho, ih (p + 1) (by omega)]
          have : (decide (32 ≤ s[p].toNat) && decide (s[p].toNat ≤ 126)) = true := by
            rw [otherR, Bool.or_eq_true, decide_eq_true_eq, decide_eq_true_eq] at ho
            rw [Bool.and_eq_true, decide_eq_true_eq, decide_eq_true_eq]
            omega
          rw [this, Bool.true_and]
      · have hc := dec_other h (by omega)
        rw [if_pos (by rw [otherR, Bool.or_eq_true, decide_eq_true_eq, decide_eq_true_eq]; omega), decide_eq_true (by omega), decide_eq_false (show ¬ s[p].toNat ≤ 126 by omega), Bool.and_false]
        rfl
    · rw [if_neg h, List.drop_of_length_le (by rw [txt_list]; omega)]
      rfl
theorem idx_all (s : ByteArray) : decide (0 ≤ Lib.idxFunc otherR true s) = !(textB s.data.toList) := by
  rw [Lib.idxFunc, idx_text s s.size 0 (by omega), List.drop_zero]

theorem isOther_any (r : Nat) (w : World) : Calls Tryz.prog 64 #[.int .i32 (r : Int)] w (Pure (.bool (otherR r)) w) := by
  unfold otherR
  by_cases h : r < 32
  · have h1 : (r : Int) < 32 := by omega
    rw [decide_eq_true h]
    go_enter Tryz.func64, Tryz.ntmps64
    go_wp2
    go_ret
    exact ⟨rfl, rfl⟩
  · have h1 : ¬ (r : Int) < 32 := by omega
    rw [decide_eq_false h, Bool.false_or]
    by_cases h2 : 126 < r
    · have h3 : (126 : Int) < (r : Int) := by omega
      rw [decide_eq_true h2]
      go_enter Tryz.func64, Tryz.ntmps64
      go_wp2
      go_ret
      exact ⟨rfl, rfl⟩
    · have h3 : ¬ (126 : Int) < (r : Int) := by omega
      rw [decide_eq_false h2]
      go_enter Tryz.func64, Tryz.ntmps64
      go_wp2
      go_ret
      exact ⟨rfl, rfl⟩

set_option maxHeartbeats 2000000 in
set_option maxRecDepth 1000000 in
theorem indexFunc_any (s : ByteArray) (w : World) :
    Calls Tryz.prog 83 #[.string s, .func (.func 64) #[] #[], .bool true] w (Ret (.int .i64 (Lib.idxFunc otherR true s)) w) := by
  unfold Ret
  go_enter Tryz.func83, Tryz.ntmps83
  go_wp2
  go_loopg [] s.size (fun gf wx => ∃ pos : Nat, wx.heap[w.heap.size]? = some (.stringIter s pos) ∧ Below w.heap.size w wx ∧ Lib.idxFuncFrom otherR true s gf pos = Lib.idxFunc otherR true s ∧ s.size ≤ pos + gf)
  case atStart => exact ⟨0, World.iter_heap w s 0, (Below.refl _ w).alloc (Nat.le_refl _) _, rfl, by omega⟩
  case round =>
    obtain ⟨pos, hit, hbw, hleft, hfu⟩ := hrel
    by_cases hps : pos < s.size
    · obtain ⟨g', rfl⟩ : ∃ g', gk = g' + 1 := ⟨gk - 1, by omega⟩
      have hnx : ∀ ty, (Instr.next (.pointer (some ⟨w.heap.size, 0, none⟩)) true ty).run Tryz.prog wr = _ := fun ty => Lib.run_next_any_at wr w.heap.size s pos ty hit hps
      have hwd := Lib.width_pos s pos
      obtain ⟨R, hR⟩ : ∃ R, (Utf8.decode s pos).1 = R := ⟨_, rfl⟩
      obtain ⟨K, hK⟩ : ∃ K, (Utf8.decode s pos).2 = K := ⟨_, rfl⟩
      simp only [Lib.idxFuncFrom, hps, if_true, hR, hK] at hleft
      rw [hR, hK] at hnx
      rw [hK] at hwd
      have hit2 := Lib.iterAt_heap wr w.heap.size s pos (pos + K) hit
      have hbw2 := Lib.below_iterAt hbw (k := w.heap.size) (Nat.le_refl _) s (pos + K)
      obtain ⟨W, hWd⟩ : ∃ W, wr.iterAt w.heap.size s (pos + K) = W := ⟨_, rfl⟩
      rw [hWd] at hnx hit2 hbw2
      have cS := isOther_any R W
      cases hsp : otherR R <;> rw [hsp] at cS <;> simp only [hsp, if_true, Bool.false_eq_true, if_false] at hleft
      · go_wp2_with fail
        refine cS.mono ?_
        rintro e W' ⟨rfl, rfl⟩
        go_wp2_with fail
        go_roundg g'
        case measure => omega
        case rel => exact ⟨pos + K, hit2, hbw2, hleft, by omega⟩
      · go_wp2_with fail
        refine cS.mono ?_
        rintro e W' ⟨rfl, rfl⟩
        go_wp2_with fail
        go_ret
        exact ⟨by rw [← hleft] <;> rfl, hbw2⟩
    · have hnx : ∀ ty, (Instr.next (.pointer (some ⟨w.heap.size, 0, none⟩)) true ty).run Tryz.prog wr = _ := fun ty => Lib.run_next_end_at wr w.heap.size s pos ty hit hps
      rw [Lib.idxFuncFrom_end otherR true s gk pos hps] at hleft
      go_wp2
      go_ret
      exact ⟨by rw [← hleft] <;> rfl, hbw⟩

theorem isText_any (s : ByteArray) (w : World) : Calls Tryz.prog 46 #[.string s] w (Ret (.bool (textB s.data.toList)) w) := by
  have hI := indexFunc_any s w
  have hx := idx_all s
  have hr := Lib.idxFunc_range otherR true s
  generalize Lib.idxFunc otherR true s = I at *
  have hF : Calls Tryz.prog 80 #[.string s, .func (.func 64) #[] #[]] w (Ret (.int .i64 I) w) := by
    go_enter Tryz.func80, Tryz.ntmps80
    go_wp2_with fail
    refine hI.mono ?_
    rintro e w1 ⟨rfl, hb⟩
    go_wp2_with fail
    go_ret
    exact ⟨rfl, hb⟩
  have hC : Calls Tryz.prog 65 #[.string s, .func (.func 64) #[] #[]] w (Ret (.bool (!(textB s.data.toList))) w) := by
    rw [← hx]
    clear hx hI
    go_enter Tryz.func65, Tryz.ntmps65
    go_wp2_with fail
    refine hF.mono ?_
    rintro e w1 ⟨rfl, hb⟩
    go_wp2_with fail
    go_ret
    exact ⟨rfl, hb⟩
  clear hI hx hr hF
  generalize textB s.data.toList = b at *
  go_enter Tryz.func46, Tryz.ntmps46
  go_wp2_with fail
  refine hC.mono ?_
  rintro e w1 ⟨rfl, hb⟩
  go_wp2_with fail
  go_ret
  exact ⟨by simp, hb⟩

end Go.Proofs.YtmoghgmbpkpcfaaGreatDoor

namespace Go.Proofs.YtmoghgmbpkpcfaaGreatDoor
open Go.RowKit Go.Shelf

theorem toL (s : ByteArray) : s.toList = s.data.toList := Lib.toList_data s
theorem str_no {s : ByteArray} (h : ¬ s.size = 0) : s.toList.isEmpty = false ∧ ¬ s.toList = [] := by
  have hl : ¬ s.toList = [] := by
    intro e
    rw [toL] at e
    apply h
    rw [← txt_list, e]
    rfl
  exact ⟨by rw [List.isEmpty_eq_false_iff]; exact hl, hl⟩
theorem oneB_0 (n : Int) (s : ByteArray) (m : Nat) : oneB 0 n s m = (okNum n && decide (s.size = 0) && decide (m = 0)) := rfl

set_option maxHeartbeats 1000000 in
theorem isOne_any (k n : Int) (s : ByteArray) (a : Option Addr) (m c : Nat) (w : World) :
    Calls Tryz.prog 27 #[.agg #[.int .i64 k, .int .i64 n, .string s, .slice a m c]] w (Ret (.bool (oneB k n s m)) w) := by
  have q0 := ext_new w (.cells #[.int .i64 k, .int .i64 n, .string s, .slice a m c] 24)
  by_cases k0 : k = 0
  · subst k0
    rw [oneB_0]
    have hR := Right_any n (w.alloc (.cells #[.int .i64 0, .int .i64 n, .string s, .slice a m c] 24))
    generalize okNum n = b at *
    cases b
    · go_enter Tryz.func27, Tryz.ntmps27
      go_wp2_with fail
      refine hR.mono ?_
      rintro e w1 ⟨rfl, rfl⟩
      go_wp2_with fail
      go_ret
      exact ⟨rfl, q0⟩
    · by_cases h1 : s.size = 0
      · obtain rfl := txt_empty h1
        by_cases h2 : m = 0
        · subst h2
          go_enter Tryz.func27, Tryz.ntmps27
          go_wp2_with fail
          refine hR.mono ?_
          rintro e w1 ⟨rfl, rfl⟩
          go_wp2_with fail
          go_ret
          exact ⟨rfl, q0⟩
        · have h3 : ((m : Int) == 0) = false := by simpa using h2
          have h4 : ¬ (m : Int) = 0 := by omega
          go_enter Tryz.func27, Tryz.ntmps27
          go_wp2_with fail
          refine hR.mono ?_
          rintro e w1 ⟨rfl, rfl⟩
          go_wp2_with fail
          go_ret
          exact ⟨by rw [decide_eq_false h2]; rfl, q0⟩
      · obtain ⟨h3, h4⟩ := str_no h1
        go_enter Tryz.func27, Tryz.ntmps27
        go_wp2_with fail
        refine hR.mono ?_
        rintro e w1 ⟨rfl, rfl⟩
        go_wp2_with fail
        go_ret
        exact ⟨by rw [decide_eq_false h1]; rfl, q0⟩
  · have k0' : ¬ (0 : Int) = k := fun e => k0 e.symm
    by_cases k4 : k = 4
    · subst k4
      rw [show oneB 4 n s m = (true && decide (n = 0) && decide (s.size = 0)) from rfl]
      by_cases h1 : n = 0
      · subst h1
        by_cases h2 : s.size = 0
        · obtain rfl := txt_empty h2
          go_enter Tryz.func27, Tryz.ntmps27
          go_wp2_with fail
          go_ret
          exact ⟨rfl, q0⟩
        · obtain ⟨h3, h4⟩ := str_no h2
          go_enter Tryz.func27, Tryz.ntmps27
          go_wp2_with fail
          go_ret
          exact ⟨by rw [decide_eq_false h2]; rfl, q0⟩
      · have h3 : (n == 0) = false := by simpa using h1
        go_enter Tryz.func27, Tryz.ntmps27
        go_wp2_with fail
        go_ret
        exact ⟨by rw [decide_eq_false h1]; rfl, q0⟩
    · by_cases k23 : k = 2 ∨ k = 3
      · have key : oneB k n s m = (decide (n = 0) && decide (s.size ≤ 600) && decide (m = 0) && (decide (k = 2) || textB s.data.toList)) := by
          rcases k23 with rfl | rfl
          · show (decide (n = 0) && decide (s.size ≤ 600) && decide (m = 0)) = _
            rw [show decide ((2 : Int) = 2) = true from rfl, Bool.true_or, Bool.and_true]
          · show (decide (n = 0) && decide (s.size ≤ 600) && decide (m = 0) && textB s.data.toList) = _
            rfl
        rw [key]
        clear key
        have hT := fun W => isText_any s W
        generalize textB s.data.toList = tb at *
        by_cases h1 : n = 0
        · subst h1
          by_cases h2 : s.size ≤ 600
          · have h2' : (s.size : Int) ≤ 600 := by omega
            by_cases h3 : m = 0
            · subst h3
              rw [decide_eq_true h2]
              rcases k23 with rfl | rfl
              · rw [show (decide ((0 : Int) = 0) && true && decide ((0 : Nat) = 0) && (decide ((2 : Int) = 2) || tb)) = true from rfl]
                go_enter Tryz.func27, Tryz.ntmps27
                go_wp2_with fail
                go_ret
                exact ⟨rfl, q0⟩
              · rw [show (decide ((0 : Int) = 0) && true && decide ((0 : Nat) = 0) && (decide ((3 : Int) = 2) || tb)) = tb by cases tb <;> rfl]
                go_enter Tryz.func27, Tryz.ntmps27
                go_wp2_with fail
                refine (hT _).mono ?_
                rintro e w1 ⟨rfl, hb⟩
                go_wp2_with fail
                go_ret
                exact ⟨rfl, ext_trans q0 hb⟩
            · have h4 : ((m : Int) == 0) = false := by simpa using h3
              have h5 : ¬ (m : Int) = 0 := by omega
              rw [decide_eq_false h3, Bool.and_false, Bool.false_and]
              rcases k23 with rfl | rfl
              · go_enter Tryz.func27, Tryz.ntmps27
                go_wp2_with fail
                go_ret
                exact ⟨rfl, q0⟩
              · go_enter Tryz.func27, Tryz.ntmps27
                go_wp2_with fail
                go_ret
                exact ⟨rfl, q0⟩
          · have h2' : ¬ (s.size : Int) ≤ 600 := by omega
            rw [decide_eq_false h2, Bool.and_false, Bool.false_and, Bool.false_and]
            rcases k23 with rfl | rfl
            · go_enter Tryz.func27, Tryz.ntmps27
              go_wp2_with fail
              go_ret
              exact ⟨rfl, q0⟩
            · go_enter Tryz.func27, Tryz.ntmps27
              go_wp2_with fail
              go_ret
              exact ⟨rfl, q0⟩
        · have h3 : (n == 0) = false := by simpa using h1
          rw [decide_eq_false h1, Bool.false_and, Bool.false_and, Bool.false_and]
          rcases k23 with rfl | rfl
          · go_enter Tryz.func27, Tryz.ntmps27
            go_wp2_with fail
            go_ret
            exact ⟨rfl, q0⟩
          · go_enter Tryz.func27, Tryz.ntmps27
            go_wp2_with fail
            go_ret
            exact ⟨rfl, q0⟩
      · have hf : oneB k n s m = false := by
          unfold oneB
          rw [if_neg k0, if_neg (fun e => k23 (.inl e)), if_neg (fun e => k23 (.inr e)), decide_eq_false k4]
          rfl
        rw [hf]
        have k2 : ¬ k = 2 := fun e => k23 (.inl e)
        have k3 : ¬ k = 3 := fun e => k23 (.inr e)
        clear k23
        have e2 : (k == 2) = false := by simpa using k2
        have e3 : (k == 3) = false := by simpa using k3
        have e4 : (k == 4) = false := by simpa using k4
        have e0 : (k == 0) = false := by simpa using k0
        go_enter Tryz.func27, Tryz.ntmps27
        go_wp2_with fail
        go_ret
        exact ⟨rfl, q0⟩

end Go.Proofs.YtmoghgmbpkpcfaaGreatDoor

namespace Go.Proofs.YtmoghgmbpkpcfaaGreatDoor
open Go.RowKit

/-- An item with where its list lies. -/
inductive TV where
  | mk (k n : Int) (s : ByteArray) (a : Option Addr) (c : Nat) (l : List TV)
def TV.kind : TV → Int | .mk k _ _ _ _ _ => k
def TV.num : TV → Int | .mk _ n _ _ _ _ => n
def TV.txt : TV → ByteArray | .mk _ _ s _ _ _ => s
def TV.at_ : TV → Option Addr | .mk _ _ _ a _ _ => a
def TV.cap : TV → Nat | .mk _ _ _ _ c _ => c
def TV.kids : TV → List TV | .mk _ _ _ _ _ l => l
/-- Its list, as a value; its cells; itself as a value. -/
def TV.row (t : TV) : Value := .slice t.at_ t.kids.length t.cap
def TV.cs (t : TV) : List Value := [.int .i64 t.kind, .int .i64 t.num, .string t.txt, t.row]
def TV.val (t : TV) : Value := .agg #[.int .i64 t.kind, .int .i64 t.num, .string t.txt, t.row]
theorem TV.ind {P : TV → Prop} (h : ∀ k n s a c l, (∀ x ∈ l, P x) → P (.mk k n s a c l)) (x : TV) : P x :=
  TV.rec (motive_1 := P) (motive_2 := fun l => ∀ x ∈ l, P x) (fun k n s a c l ih => h k n s a c l ih) (fun x hx => by cases hx)
    (fun y l h1 h2 x hx => by
      rcases List.mem_cons.1 hx with e | hx
      · rw [e]; exact h1
      · exact h2 x hx) x
mutual
/-- The item alone. -/
def TV.item : TV → IN
  | .mk k n s _ _ l => .mk k n s (TV.items l)
def TV.items : List TV → List IN
  | [] => []
  | x :: l => x.item :: TV.items l
end
theorem items_map (l : List TV) : TV.items l = l.map TV.item := by
  induction l with
  | nil => rfl
  | cons x l ih => rw [TV.items, ih]; rfl
theorem items_length (l : List TV) : (TV.items l).length = l.length := by rw [items_map, List.length_map]
theorem TV.item_eq (t : TV) : t.item = .mk t.kind t.num t.txt (TV.items t.kids) := by cases t; rfl
mutual
/-- All items in order, each with how deep it stands. -/
def TV.pre : TV → Nat → List (Nat × TV)
  | .mk k n s a c l, d => (d, .mk k n s a c l) :: TV.preL l (d + 1)
def TV.preL : List TV → Nat → List (Nat × TV)
  | [], _ => []
  | x :: l, d => x.pre d ++ TV.preL l d
end
theorem preL_append (l m : List TV) (d : Nat) : TV.preL (l ++ m) d = TV.preL l d ++ TV.preL m d := by
  induction l with
  | nil => rfl
  | cons x l ih => rw [List.cons_append, TV.preL, TV.preL, ih, List.append_assoc]
theorem TV.pre_eq (t : TV) (d : Nat) : t.pre d = (d, t) :: TV.preL t.kids (d + 1) := by cases t; rfl
theorem preL_items (l : List TV) (d : Nat) (h : ∀ x ∈ l, (x.pre d).map (fun p => (p.1, p.2.item)) = x.item.pre d) : (TV.preL l d).map (fun p => (p.1, p.2.item)) = IN.preL (TV.items l) d := by
  induction l with
  | nil => rfl
  | cons x l ih => rw [TV.preL, TV.items, IN.preL, List.map_append, h x (by simp), ih fun y hy => h y (by simp [hy])]
theorem TV.pre_items (t : TV) : ∀ d, (t.pre d).map (fun p => (p.1, p.2.item)) = t.item.pre d := by
  induction t using TV.ind with
  | h k n s a c l ih =>
    intro d
    rw [TV.pre, TV.item, IN.pre, List.map_cons, preL_items l (d + 1) fun x hx => ih x hx (d + 1)]
    rfl

/-- A list's cells. -/
def RowT (W : World) (D : Nat) (a : Option Addr) (l : List TV) : Prop := 0 < l.length → ∃ ad, a = some ad ∧ ad.block < D ∧ ∀ (i : Nat) (h : i < l.length), W.cell? (ad.add (i * 4)) = some (.int .i64 l[i].kind) ∧ W.cell? ⟨(ad.add (i * 4)).block, (ad.add (i * 4)).off + 1, none⟩ = some (.int .i64 l[i].num) ∧
  W.cell? ⟨(ad.add (i * 4)).block, (ad.add (i * 4)).off + 2, none⟩ = some (.string l[i].txt) ∧ W.cell? ⟨(ad.add (i * 4)).block, (ad.add (i * 4)).off + 3, none⟩ = some l[i].row
/-- An item lies in memory, below a place. -/
inductive ItAt (D : Nat) (W : World) : TV → Prop
  | mk {k n : Int} {s : ByteArray} {a : Option Addr} {c : Nat} {l : List TV} (hr : RowT W D a l) (hk : ∀ x ∈ l, ItAt D W x) : ItAt D W (.mk k n s a c l)
theorem ItAt.row {D : Nat} {W : World} {t : TV} (h : ItAt D W t) : RowT W D t.at_ t.kids := by cases h; assumption
theorem ItAt.kid {D : Nat} {W : World} {t : TV} (h : ItAt D W t) : ∀ x ∈ t.kids, ItAt D W x := by cases h; assumption
theorem ad_blk (a : Addr) (i : Nat) : (a.add i).block = a.block := by unfold Addr.add; split <;> rfl
theorem RowT.below {W W' : World} {D D' : Nat} {a : Option Addr} {l : List TV} (h : RowT W D a l) (hb : Below D W W') (hD : D ≤ D') : RowT W' D' a l := fun hp => by
  obtain ⟨ad, h1, h2, h3⟩ := h hp
  refine ⟨ad, h1, by omega, fun i hi => ?_⟩
  obtain ⟨g1, g2, g3, g4⟩ := h3 i hi
  have hl : (ad.add (i * 4)).block < D := by rw [ad_blk]; exact h2
  exact ⟨(hb.cell hl).trans g1, (hb.cell (by exact hl)).trans g2, (hb.cell (by exact hl)).trans g3, (hb.cell (by exact hl)).trans g4⟩
theorem ItAt.later {W W' : World} {D D' : Nat} {t : TV} (h : ItAt D W t) (hb : Below D W W') (hD : D ≤ D') : ItAt D' W' t := by
  induction h with
  | mk hr hk ih => exact .mk (hr.below hb hD) ih

/-- Not higher, and no list longer than sixty-two. -/
inductive Fits : Nat → TV → Prop
  | mk {h : Nat} {k n : Int} {s : ByteArray} {a : Option Addr} {c : Nat} {l : List TV} (hl : l.length ≤ 62) (hs : s.size ≤ 700) (hk : ∀ x ∈ l, Fits h x) : Fits (h + 1) (.mk k n s a c l)
theorem Fits.kid {h : Nat} {t : TV} (q : Fits (h + 1) t) : t.kids.length ≤ 62 ∧ t.txt.size ≤ 700 ∧ ∀ x ∈ t.kids, Fits h x := by cases q; exact ⟨‹_›, ‹_›, ‹_›⟩
theorem Fits.pos {h : Nat} {t : TV} (q : Fits h t) : ∃ h', h = h' + 1 := by cases q; exact ⟨_, rfl⟩
theorem Fits.mono {h : Nat} {t : TV} (q : Fits h t) : Fits (h + 1) t := by
  induction q with
  | mk hl hs hk ih => exact .mk hl hs ih

/-- Many items' cells. -/
def cellsT (l : List TV) : List Value := l.flatMap TV.cs
theorem cellsT_length (l : List TV) : (cellsT l).length = l.length * 4 := by
  induction l with
  | nil => rfl
  | cons r l ih => rw [show cellsT (r :: l) = r.cs ++ cellsT l by simp [cellsT], List.length_append, ih, List.length_cons]; show 4 + _ = _; omega
theorem cellsT_snoc (l : List TV) (r : TV) : cellsT (l ++ [r]) = cellsT l ++ r.cs := by simp [cellsT]
theorem cellsT_get (l : List TV) : ∀ (i : Nat) (h : i < l.length), (cellsT l)[i * 4]? = some (.int .i64 l[i].kind) ∧ (cellsT l)[i * 4 + 1]? = some (.int .i64 l[i].num) ∧ (cellsT l)[i * 4 + 2]? = some (.string l[i].txt) ∧ (cellsT l)[i * 4 + 3]? = some l[i].row := by
  induction l with
  | nil => intro i h; simp at h
  | cons r l ih =>
    intro i h
    have e : cellsT (r :: l) = r.cs ++ cellsT l := by simp [cellsT]
    have hc : r.cs.length = 4 := rfl
    cases i with
    | zero => rw [e]; exact ⟨rfl, rfl, rfl, rfl⟩
    | succ i =>
      have := ih i (by simpa using h)
      rw [e, List.getElem?_append_right (by omega), List.getElem?_append_right (by omega), List.getElem?_append_right (by omega), List.getElem?_append_right (by omega), hc]
      rw [show (i + 1) * 4 - 4 = i * 4 by omega, show (i + 1) * 4 + 1 - 4 = i * 4 + 1 by omega, show (i + 1) * 4 + 2 - 4 = i * 4 + 2 by omega, show (i + 1) * 4 + 3 - 4 = i * 4 + 3 by omega]
      exact this
/-- A row of the call's own reads as a list of items. -/
theorem rowT_own {w : World} {base n : Nat} {t : TypeId} {V : Value} {l : List TV} (h : w.ownsRow base t 4 V n (cellsT l)) : n = l.length ∧ ∃ A c, V = .slice A n c ∧ RowT w w.heap.size A l := by
  have hn : l.length = n := by have := h.1; rw [cellsT_length] at this; omega
  refine ⟨hn.symm, ?_⟩
  have h' := h
  obtain ⟨-, ⟨rfl, h0⟩ | ⟨g, cap, cur, rfl, -⟩⟩ := h'
  · subst h0
    exact ⟨none, 0, rfl, fun hp => by omega⟩
  · refine ⟨some ⟨g, 0, none⟩, cap, rfl, fun hp => ⟨⟨g, 0, none⟩, rfl, (h.lt g rfl).2, fun i hi => ?_⟩⟩
    obtain ⟨g1, g2, g3, g4⟩ := cellsT_get l i hi
    have k1 := h.cells rfl _ _ g1
    have k2 := h.cells rfl _ _ g2
    have k3 := h.cells rfl _ _ g3
    have k4 := h.cells rfl _ _ g4
    have ha : ∀ k : Nat, (⟨g, 0, none⟩ : Addr).add k = ⟨g, k, none⟩ := fun k => by unfold Addr.add; split <;> simp_all
    rw [ha] at k1 k2 k3 k4 ⊢
    exact ⟨k1, k2, k3, k4⟩

end Go.Proofs.YtmoghgmbpkpcfaaGreatDoor
