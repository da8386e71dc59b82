/-
  Package nums: the walks of its small functions (Right, width, within, first, either), each as a contract. Conditions: the listed variables hold three different errors of errors.New's make ('NInv').
-/
import Derived.Test.YtlkghcfjcdeokaaDoorBase
namespace Go.Proofs.YtlkghcfjcdeokaaDoor
open Go.RowKit

/-- What package nums' variables hold. -/
structure NInv (w : World) (aN aW aS : Addr) : Prop where
  cN : w.cell? ⟨3, 0, none⟩ = some (ErrV aN)
  cW : w.cell? ⟨2, 0, none⟩ = some (ErrV aW)
  cS : w.cell? ⟨1, 0, none⟩ = some (ErrV aS)
  pN : Plain w aN
  pW : Plain w aW
  pS : Plain w aS
  nW : aN ≠ aW
  nS : aN ≠ aS
  wS : aW ≠ aS

theorem NInv.below {w w' : World} {aN aW aS : Addr} (h : NInv w aN aW aS) (hb : Below w.heap.size w w') : NInv w' aN aW aS :=
  ⟨cell_later hb h.cN, cell_later hb h.cW, cell_later hb h.cS, h.pN.below hb, h.pW.below hb, h.pS.below hb, h.nW, h.nS, h.wS⟩
theorem NInv.lN {w : World} {aN aW aS : Addr} (h : NInv w aN aW aS) : 3 < w.heap.size := cell_lt h.cN
theorem NInv.lW {w : World} {aN aW aS : Addr} (h : NInv w aN aW aS) : 2 < w.heap.size := cell_lt h.cW
theorem NInv.lS {w : World} {aN aW aS : Addr} (h : NInv w aN aW aS) : 1 < w.heap.size := cell_lt h.cS

/-- May a number be? -/
def okNum (n : Int) : Bool := decide (0 ≤ n) && decide (n ≤ 281474976710655)
/-- May a width be? -/
def okWidth (n : Int) : Bool := decide (1 ≤ n) && decide (n ≤ 8)
/-- Are n bytes there from at on, of so many? -/
def okWithin (len at_ n : Int) : Bool := decide (0 ≤ at_) && decide (at_ ≤ len) && decide (0 ≤ n) && decide (n ≤ len - at_)

theorem within_any (s : ByteArray) (at_ n : Int) (w : World) (a : Addr) (hg : w.cell? ⟨1, 0, none⟩ = some (ErrV a)) (hs : s.size ≤ 9223372036854775807) (hn1 : -9223372036854775808 ≤ n) (hn2 : n ≤ 9223372036854775807) :
    Calls Tryd.prog 50 #[.string s, .int .i64 at_, .int .i64 n] w (Ret (.agg #[.bool (okWithin s.size at_ n), ErrV a]) w) := by
  have hz := cell_lt hg
  unfold ErrV at hg
  go_enter Tryd.func50, Tryd.ntmps50
  go_wp2
  all_goals
    refine bodyPost_ret (v := .agg #[.bool (okWithin s.size at_ n), ErrV a]) ?_ rfl ⟨rfl, (Below.refl _ _).alloc (Nat.le_refl _) _⟩
    simp [ErrV, okWithin, results, Tryd.results50, go_sem, *]
    try omega

/-- A row of pairs lies at block b. -/
def PairsAt (w : World) (b : Nat) (xs : List (Bool × Addr)) : Prop :=
  ∀ i, (h : i < xs.length) → w.cell? ⟨b, i * 2, none⟩ = some (.bool xs[i].1) ∧ w.cell? ⟨b, i * 2 + 1, none⟩ = some (ErrV xs[i].2)

theorem first_any (xs : List (Bool × Addr)) (b : Nat) (w : World) (hx : PairsAt w b xs) (hl : xs.length ≤ 1000) (hb : b < w.heap.size) :
    Calls Tryd.prog 49 #[.slice (some ⟨b, 0, none⟩) xs.length xs.length] w (Ret (errOf (firstErr xs)) w) := by
  go_enter Tryd.func49, Tryd.ntmps49
  go_wp2
  go_loopw [2, 7] (fun _ i wr => ∃ k : Nat, k ≤ xs.length ∧ i = .int .i64 k ∧ (∀ j, (hj : j < k) → (h : j < xs.length) → xs[j].1 = true) ∧ Below w.heap.size w wr) (fun _ i _ => xs.length - (intOf i).toNat)
  case atStart => exact ⟨0, Nat.zero_le _, rfl, fun j hj => by omega, Below.refl _ _⟩
  case round =>
    obtain ⟨k, hk, rfl, hall, hbw⟩ := hrel
    have HA := Lib.hid hall
    clear hall
    by_cases hlt : k < xs.length
    · have hc := hx k hlt
      obtain ⟨c0, c1⟩ := hc
      have d0 : wr.cell? ⟨b, k * 2, none⟩ = some (.bool xs[k].1) := (hbw.cell (p := ⟨b, k * 2, none⟩) hb).trans c0
      have d1 : wr.cell? ⟨b, k * 2 + 1, none⟩ = some (ErrV xs[k].2) := (hbw.cell (p := ⟨b, k * 2 + 1, none⟩) hb).trans c1
      have hs := hbw.size
      clear c0 c1
      unfold ErrV at d1
      generalize hbk : xs[k].1 = bk at d0
      have HBK := Lib.hid hbk
      clear hbk
      generalize hak : xs[k].2 = ak at d1
      have HAK := Lib.hid hak
      clear hak
      cases bk
      · go_wp2
        go_ret
        refine ⟨?_, hbw.alloc hs _⟩
        rw [firstErr_at xs k hlt HA.out HBK.out, HAK.out]
        rfl
      · go_wp2
        go_roundw
        case rel =>
          refine ⟨k + 1, by omega, by go_num, fun j hj h => ?_, hbw.alloc hs _⟩
          by_cases hjk : j = k
          · subst hjk; exact HBK.out
          · exact HA.out j (by omega) h
        case measure => simp [intOf]; omega
    · go_wp2
      go_ret
      refine ⟨?_, hbw⟩
      rw [firstErr_all xs (fun i hi => HA.out i (by omega) hi)]
      rfl

end Go.Proofs.YtlkghcfjcdeokaaDoor
