/-
  Package signs: the walks of its small functions (set's, must, first, number, told), each as a contract. Conditions: the listed variables hold different errors of errors.New's make ('GInv').
-/
import Derived.Test.YtinflolpcemnhaaDoorBase
namespace Go.Proofs.YtinflolpcemnhaaDoor
open Go.RowKit

theorem has_any (s one : Int) (w : World) : Calls Tryd.prog 28 #[.agg #[.int .i64 s], .int .i64 one] w (Ret (.bool (bits .and .i64 s one != 0)) w) := by
  go_enter Tryd.func28, Tryd.ntmps28
  go_wp2
  go_ret
  exact ⟨by simp, ext_new _ _⟩

/-- Are all flags among some? -/
def isInB (s all : Int) : Bool := decide (0 ≤ s) && (bits .andNot .i64 s all == 0)

theorem isIn_any (s all : Int) (w : World) : Calls Tryd.prog 31 #[.agg #[.int .i64 s], .int .i64 all] w (Ret (.bool (isInB s all)) w) := by
  by_cases h : 0 ≤ s
  · go_enter Tryd.func31, Tryd.ntmps31
    go_wp2
    go_ret
    exact ⟨by simp [isInB, h], ext_new _ _⟩
  · have h' : decide (0 ≤ s) = false := by simp; omega
    have HH := Lib.hid h'
    clear h'
    go_enter Tryd.func31, Tryd.ntmps31
    go_wp2
    go_ret
    exact ⟨by rw [isInB, HH.out]; rfl, ext_new _ _⟩

/-- A rule that must has made: of a condition and an error. -/
def MustAt (w : World) (v : Value) (b : Bool) (a : Addr) : Prop :=
  ∃ hb he : Nat, v = .func (.func 35) #[] #[.pointer (some ⟨hb, 0, none⟩), .pointer (some ⟨he, 0, none⟩)] ∧ w.cell? ⟨hb, 0, none⟩ = some (.bool b) ∧ w.cell? ⟨he, 0, none⟩ = some (ErrV a)

theorem MustAt.below {w w' : World} {v : Value} {b : Bool} {a : Addr} (h : MustAt w v b a) (hb : Below w.heap.size w w') : MustAt w' v b a := by
  obtain ⟨x, y, h1, h2, h3⟩ := h
  exact ⟨x, y, h1, cell_later hb h2, cell_later hb h3⟩

theorem must_any (b : Bool) (a : Addr) (w : World) : Calls Tryd.prog 27 #[.bool b, ErrV a] w
    fun e w' => ∃ v, e = .returned v ∧ MustAt w' v b a ∧ Below w.heap.size w w' := by
  unfold ErrV
  go_enter Tryd.func27, Tryd.ntmps27
  go_wp2
  go_ret
  refine ⟨_, rfl, ⟨_, _, rfl, ?_, ?_⟩, ext_alloc (ext_new _ _) _⟩
  · simp
  · simp [ErrV]

theorem rule_any (b : Bool) (a : Addr) (hb he : Nat) (w : World) (h1 : w.cell? ⟨hb, 0, none⟩ = some (.bool b)) (h2 : w.cell? ⟨he, 0, none⟩ = some (ErrV a)) :
    Calls Tryd.prog 35 #[.pointer (some ⟨hb, 0, none⟩), .pointer (some ⟨he, 0, none⟩)] w (Pure (if b then .nilIface else ErrV a) w) := by
  unfold ErrV at h2 ⊢
  go_enter Tryd.func35, Tryd.ntmps35
  cases b
  · go_wp2
    go_ret
    exact ⟨by simp, rfl⟩
  · go_wp2
    go_ret
    exact ⟨by simp, rfl⟩

/-- Rules lie in a row at block b. -/
def RulesAt (w : World) (b : Nat) (xs : List (Bool × Addr)) : Prop :=
  ∀ i, (h : i < xs.length) → ∃ v, w.cell? ⟨b, i, none⟩ = some v ∧ MustAt w v xs[i].1 xs[i].2

theorem first_any (xs : List (Bool × Addr)) (b : Nat) (w : World) (hx : RulesAt w b xs) (hl : xs.length ≤ 1000) :
    Calls Tryd.prog 25 #[.slice (some ⟨b, 0, none⟩) xs.length xs.length] w (Pure (errOf (firstErr xs)) w) := by
  go_enter Tryd.func25, Tryd.ntmps25
  go_wp2
  go_loop [8] (fun i => ∃ k : Nat, k ≤ xs.length ∧ i = .int .i64 k ∧ (∀ j, (hj : j < k) → (h : j < xs.length) → xs[j].1 = true)) (fun i => xs.length - (intOf i).toNat)
  case atStart => exact ⟨0, Nat.zero_le _, rfl, fun j hj => by omega⟩
  case round =>
    obtain ⟨k, hk, rfl, hall⟩ := hrel
    have HA := Lib.hid hall
    clear hall
    by_cases hlt : k < xs.length
    · obtain ⟨v, hc, hb, he, rfl, m1, m2⟩ := hx k hlt
      generalize hbk : xs[k].1 = bk at m1
      have HBK := Lib.hid hbk
      clear hbk
      generalize hak : xs[k].2 = ak at m2
      have HAK := Lib.hid hak
      clear hak
      cases bk
      · have hr := rule_any false ak hb he w m1 m2
        simp only [Bool.false_eq_true, if_false, ErrV] at hr
        go_wp2_with fail
        refine hr.mono ?_
        rintro e w1 ⟨rfl, rfl⟩
        go_wp2_with fail
        go_ret
        refine ⟨?_, rfl⟩
        rw [firstErr_at xs k hlt HA.out HBK.out, HAK.out]
        rfl
      · have hr := rule_any true ak hb he w m1 m2
        simp only [if_true] at hr
        go_wp2_with fail
        refine hr.mono ?_
        rintro e w1 ⟨rfl, rfl⟩
        go_wp2_with fail
        go_roundw
        case rel =>
          refine ⟨k + 1, by omega, by go_num, fun j hj h => ?_⟩
          by_cases hjk : j = k
          · subst hjk; exact HBK.out
          · exact HA.out j (by omega) h
        case measure => simp [intOf]; omega
    · go_wp2
      go_ret
      refine ⟨?_, rfl⟩
      rw [firstErr_all xs (fun i hi => HA.out i (by omega) hi)]
      rfl

end Go.Proofs.YtinflolpcemnhaaDoor
