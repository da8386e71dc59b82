/-
  Package disk: rules (must, up, check), what they ask (has and the closures). Conditions: as the theorems' own hypotheses say.
-/
import Derived.Test.YtlkghcfjcdeokaaDoorDkB
import Derived.Deep.RegionHeld3
namespace Go.Proofs.YtlkghcfjcdeokaaDoor
open Go.RowKit
attribute [local go_sem] Oper.semAt_some

theorem has_any (A : Option Addr) (n c : Nat) (i : Int) (w : World) : Calls Tryd.prog 28 #[.agg #[.slice A n c], .int .i64 i] w (Ret (.bool (decide (0 ≤ i) && decide (i < (n : Int)))) w) := by
  by_cases h : 0 ≤ i
  · go_enter Tryd.func28, Tryd.ntmps28
    go_wp2_with fail
    go_ret
    exact ⟨by simp [h], ext_new w _⟩
  · go_enter Tryd.func28, Tryd.ntmps28
    go_wp2_with fail
    go_ret
    exact ⟨by first | (simp [h]; done) | (simp; omega), ext_new w _⟩

/-- A condition that a closure tells, as long as memory only grows. -/
def HoldsAt (w : World) (hv : Value) (b : Bool) : Prop :=
  ∃ f lb, hv = .func (.func f) #[] lb ∧ (∀ args w, (callFunc f args).run Tryd.prog w = .ok (.enter f args) w) ∧ ∀ w', Below w.heap.size w w' → Calls Tryd.prog f lb w' (Ret (.bool b) w')
theorem HoldsAt.below {w w' : World} {hv : Value} {b : Bool} (h : HoldsAt w hv b) (hb : Below w.heap.size w w') : HoldsAt w' hv b := by
  obtain ⟨f, lb, h1, h2, h3⟩ := h
  exact ⟨f, lb, h1, h2, fun w2 h4 => h3 w2 (ext_trans hb h4)⟩
/-- A rule: its condition and its error. -/
def RuleAt (w : World) (v : Value) (b : Bool) (e : Int) : Prop :=
  ∃ hb he hv, v = .func (.func 44) #[] #[.pointer (some ⟨hb, 0, none⟩), .pointer (some ⟨he, 0, none⟩)] ∧ w.cell? ⟨hb, 0, none⟩ = some hv ∧ w.cell? ⟨he, 0, none⟩ = some (.int .i64 e) ∧ HoldsAt w hv b
theorem RuleAt.below {w w' : World} {v : Value} {b : Bool} {e : Int} (h : RuleAt w v b e) (hb : Below w.heap.size w w') : RuleAt w' v b e := by
  obtain ⟨x, y, hv, h1, h2, h3, h4⟩ := h
  exact ⟨x, y, hv, h1, cell_later hb h2, cell_later hb h3, h4.below hb⟩
def ruleV (b : Bool) (e : Int) : Value := if b then .nilIface else WrV e

theorem must_any (hv : Value) (b : Bool) (e : Int) (w : World) (h : HoldsAt w hv b) (hf : ∃ f lb, hv = .func (.func f) #[] lb) :
    Calls Tryd.prog 26 #[hv, .int .i64 e] w fun x w' => ∃ v, x = .returned v ∧ RuleAt w' v b e ∧ Below w.heap.size w w' := by
  obtain ⟨f, lb, rfl⟩ := hf
  go_enter Tryd.func26, Tryd.ntmps26
  go_wp2_with fail
  go_ret
  have hb := ext_alloc (ext_new w (.cells #[.func (.func f) #[] lb] 23)) (.cells #[.int .i64 e] 26)
  exact ⟨_, rfl, ⟨_, _, _, rfl, by simp, by simp, h.below hb⟩, hb⟩

theorem rule_any (b : Bool) (e : Int) (hb he f : Nat) (lb : Array Value) (w : World) (h1 : w.cell? ⟨hb, 0, none⟩ = some (.func (.func f) #[] lb)) (h2 : w.cell? ⟨he, 0, none⟩ = some (.int .i64 e))
    (h3 : ∀ args w, (callFunc f args).run Tryd.prog w = .ok (.enter f args) w) (h4 : Calls Tryd.prog f lb w (Ret (.bool b) w)) :
    Calls Tryd.prog 44 #[.pointer (some ⟨hb, 0, none⟩), .pointer (some ⟨he, 0, none⟩)] w (Ret (ruleV b e) w) := by
  go_enter Tryd.func44, Tryd.ntmps44
  go_wp2_with fail
  refine h4.mono ?_
  rintro x w1 ⟨rfl, hb1⟩
  have h2 := cell_later hb1 h2
  cases b
  · go_wp2_with fail
    go_ret
    exact ⟨rfl, hb1⟩
  · go_wp2_with fail
    go_ret
    exact ⟨rfl, hb1⟩

/-- The first error of some rules. -/
def firstE : List (Bool × Int) → Value
  | [] => .nilIface
  | (b, e) :: l => if b then firstE l else WrV e
theorem firstE_at : ∀ (xs : List (Bool × Int)) (k : Nat) (h : k < xs.length), (∀ j, (hj : j < k) → xs[j].1 = true) → xs[k].1 = false → firstE xs = WrV xs[k].2
  | (b, e) :: l, 0, _, _, hb => by
    have hb : b = false := hb
    subst hb
    rfl
  | (b, e) :: l, k + 1, h, ha, hb => by
    have h0 : b = true := ha 0 (by omega)
    subst h0
    exact firstE_at l k (by simpa using h) (fun j hj => ha (j + 1) (by omega)) hb
theorem firstE_all : ∀ (xs : List (Bool × Int)), (∀ j (h : j < xs.length), xs[j].1 = true) → firstE xs = .nilIface
  | [], _ => rfl
  | (b, e) :: l, h => by
    have h0 : b = true := h 0 (by simp)
    subst h0
    exact firstE_all l fun j hj => h (j + 1) (by simpa using hj)
/-- Rules lie in a row at block r. -/
def RulesAt (w : World) (r : Nat) (xs : List (Bool × Int)) : Prop := ∀ i, (h : i < xs.length) → ∃ v, w.cell? ⟨r, i, none⟩ = some v ∧ RuleAt w v xs[i].1 xs[i].2
theorem RulesAt.below {w w' : World} {r : Nat} {xs : List (Bool × Int)} (h : RulesAt w r xs) (hb : Below w.heap.size w w') : RulesAt w' r xs := fun i hi => by
  obtain ⟨v, h1, h2⟩ := h i hi
  exact ⟨v, cell_later hb h1, h2.below hb⟩

theorem check_nil (A : Option Addr) (n c : Nat) (w : World) : Calls Tryd.prog 24 #[.pointer none, .slice A n c] w (Ret (WrV 1) w) := by
  go_enter Tryd.func24, Tryd.ntmps24
  go_wp2_with fail
  go_ret
  exact ⟨rfl, ext_refl _⟩

theorem check_any (p r : Nat) (xs : List (Bool × Int)) (w : World) (hx : RulesAt w r xs) (hl : xs.length ≤ 1000) :
    Calls Tryd.prog 24 #[.pointer (some ⟨p, 0, none⟩), .slice (some ⟨r, 0, none⟩) xs.length xs.length] w (Ret (firstE xs) w) := by
  go_enter Tryd.func24, Tryd.ntmps24
  go_wp2_with fail
  go_loopw [14] (fun i wr => ∃ k : Nat, k ≤ xs.length ∧ i = .int .i64 (k : Int) ∧ (∀ j, (hj : j < k) → (h : j < xs.length) → xs[j].1 = true) ∧ Below w.heap.size w wr) (fun i _ => xs.length - (intOf i).toNat)
  case atStart => exact ⟨0, Nat.zero_le _, rfl, fun j hj => by omega, ext_refl _⟩
  case round =>
    obtain ⟨k, hk, rfl, hall, hbe⟩ := hrel
    have HA := Lib.hid hall
    clear hall
    by_cases hlt : k < xs.length
    · obtain ⟨v, hc, hb, he, hv, rfl, m1, m2, f, lb, rfl, m3, m4⟩ := hx k hlt
      generalize hbk : xs[k].1 = bk at m4
      have HBK := Lib.hid hbk
      clear hbk
      generalize hak : xs[k].2 = ak at m2
      have HAK := Lib.hid hak
      clear hak
      have hr := rule_any bk ak hb he f lb wr (cell_later hbe m1) (cell_later hbe m2) m3 (m4 wr hbe)
      have hc' := cell_later hbe hc
      clear hc m1 m2 m3 m4
      have i1 : (0 : Int) ≤ (k : Int) := by omega
      have i2 : (k : Int) < (xs.length : Int) := by omega
      cases bk
      · rw [show ruleV false ak = WrV ak from rfl] at hr
        unfold WrV at hr
        go_wp2_with fail
        refine hr.mono ?_
        rintro x w1 ⟨rfl, hb1⟩
        go_wp2_with fail
        go_ret
        exact ⟨by rw [firstE_at xs k hlt (fun j hj => HA.out j hj (by omega)) HBK.out, HAK.out]; rfl, hbe.trans (hb1.mono hbe.size)⟩
      · rw [show ruleV true ak = .nilIface from rfl] at hr
        go_wp2_with fail
        refine hr.mono ?_
        rintro x w1 ⟨rfl, hb1⟩
        go_wp2_with fail
        go_roundw
        case rel =>
          refine ⟨k + 1, by omega, by go_num, fun j hj h => ?_, hbe.trans (hb1.mono hbe.size)⟩
          by_cases hjk : j = k
          · subst hjk; exact HBK.out
          · exact HA.out j (by omega) h
        case measure => simp [intOf]; omega
    · have i2 : ¬ (k : Int) < (xs.length : Int) := by omega
      go_wp2_with fail
      go_ret
      exact ⟨by rw [firstE_all xs (fun i hi => HA.out i (by omega) hi)]; rfl, hbe⟩

end Go.Proofs.YtlkghcfjcdeokaaDoor
