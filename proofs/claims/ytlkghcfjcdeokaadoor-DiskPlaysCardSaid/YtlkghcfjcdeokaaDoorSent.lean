/-
  What a row's listed variables give a walk when all of them are errors of errors.New's make: each variable's cell, and that they are different ones. Conditions: av the theorems' own hypotheses say.
-/
import Derived.Test.YtlkghcfjcdeokaaDoorErr
import Derived.LaidLaws
import Derived.RowKit
import Derived.RowKitTokens
import Derived.MakeChecks
import Derived.Stop.Joined
namespace Go.Proofs.YtlkghcfjcdeokaaDoor
open Go.RowKit

theorem sCellsE : Tryd.prog.cellsOf 147 = 1 := by kernel_rfl
theorem sCellsS : Tryd.prog.cellsOf 9 = 1 := by kernel_rfl
theorem sStar : "*" ++ "errors.errorString" = "*errors.errorString" := by decide
theorem sRow (u : TypeId) (h : Tryd.prog.typeName? 3 u = some "*errors.errorString") : u = 128 :=
  typeName_ptr_named (nm := "errors.errorString") (by rw [sStar]; kernel_rfl) (by kernel_rfl) (by decide) u (by rw [sStar]; exact h)

/-- The variables g hold errors, at the places a; all different. -/
def SentAt (w : World) (l : List (Nat × Addr)) : Prop :=
  (l.map (·.2)).Nodup ∧ ∀ g a, (g, a) ∈ l → w.cell? ⟨g, 0, none⟩ = some (ErrV a) ∧ Plain w a

set_option maxRecDepth 100000 in
theorem sent_of_vars {W : World} : ∀ (l : List (String × Nat × List UInt8)) (ps : List MemPlace),
    DataW.LaidVars Tryd.prog W (l.map fun x => (x.1, .iface "*errors.errorString" (.ptr (.agg [.lit (.string x.2.2)])))) ps → ps.Nodup →
    (∀ b off, MemPlace.cell b off ∈ ps → (∃ c t, W.heap[b]? = some (.cells c t (0, 0))) ∧ ∀ u v, W.cell? ⟨b, off, none⟩ = some (.iface u v) → Value.okWide Tryd.prog W .any 0 u v) →
    (∀ x ∈ l, Tryd.prog.globalNamed x.1 = some x.2.1 ∧ (Tryd.prog.globals[x.2.1]?).map (·.type) = some 62) →
    ∃ av : List Addr, av.length = l.length ∧ av.Nodup ∧ (∀ a ∈ av, MemPlace.cell a.block a.off ∈ ps) ∧
      ∀ g a, (g, a) ∈ (l.map (·.2.1)).zip av → W.cell? ⟨g, 0, none⟩ = some (ErrV a) ∧ Plain W a
  | [], ps, _, _, _, _ => ⟨[], rfl, List.nodup_nil, fun a h => (by cases h), fun g a h => (by simp at h)⟩
  | x :: l, ps, h, hnd, hrows, hg => by
    obtain ⟨g0, t0, cs0, f0, p0, q0, hg0, ht0, hv0, hd0, hq0, e0⟩ := h
    obtain ⟨hgx, htx⟩ := hg x (List.mem_cons_self ..)
    obtain rfl := Option.some.inj (hgx.symm.trans hg0)
    obtain rfl := Option.some.inj (htx.symm.trans ht0)
    subst e0
    obtain ⟨l0⟩ := cs0
    have ok0 : ∀ u v, l0 = [.iface u v] → Value.okWide Tryd.prog W .any 0 u v := fun u v e => by
      subst e
      exact (hrows x.2.1 0 (by simp [MemPlace.row])).2 u v (by simpa using World.var?_cell hg0 hv0 0)
    obtain ⟨a0, s0, rfl, hc0, hs0, hz0, rfl⟩ := errorString_of_trod Tryd.underlying62 sRow Tryd.underlying128 Tryd.underlying147 rfl rfl Tryd.underlying9 sCellsE sCellsS hd0 ok0
    obtain ⟨av, h1, h2, h3, h4⟩ := sent_of_vars l q0 hq0 (List.Nodup.sublist (List.sublist_append_right _ _) hnd) (fun b off hm => hrows b off (List.mem_append_right _ hm)) (fun y hy => hg y (List.mem_cons_of_mem _ hy))
    have hb0 := (hrows a0.block a0.off (by simp [MemPlace.row])).1
    refine ⟨a0 :: av, by simp [h1], List.nodup_cons.2 ⟨fun hm => ?_, h2⟩, ?_, ?_⟩
    · have hp := h3 a0 hm
      rw [List.nodup_append] at hnd
      exact hnd.2.2 _ (show MemPlace.cell a0.block a0.off ∈ _ by simp [MemPlace.row]) _ hp rfl
    · intro a ha
      rcases List.mem_cons.1 ha with rfl | ha
      · simp [MemPlace.row]
      · exact List.mem_append_right _ (h3 a ha)
    · intro g a hm
      rw [List.map_cons, List.zip_cons_cons, List.mem_cons] at hm
      rcases hm with e | hm
      · obtain ⟨rfl, rfl⟩ := Prod.mk.inj e
        obtain ⟨c, t, hb⟩ := hb0
        exact ⟨by simpa [ErrV] using World.var?_cell hg0 hv0 0, c, t, hb⟩
      · exact h4 g a hm

theorem sent_of_laid {W : World} (l : List (String × Nat × List UInt8)) (L : List (String × DataW Unit)) (hL : L = l.map fun x => (x.1, .iface "*errors.errorString" (.ptr (.agg [.lit (.string x.2.2)]))))
    (hp : (L.all fun x => x.2.handleName?.isNone) = true) (h : laidMetH Tryd.prog L W) (hg : ∀ x ∈ l, Tryd.prog.globalNamed x.1 = some x.2.1 ∧ (Tryd.prog.globals[x.2.1]?).map (·.type) = some 62) :
    ∃ av : List Addr, av.length = l.length ∧ av.Nodup ∧ ∀ g a, (g, a) ∈ (l.map (·.2.1)).zip av → W.cell? ⟨g, 0, none⟩ = some (ErrV a) ∧ Plain W a := by
  rw [MakeChecks.laidMetH_plain _ _ _ hp] at h
  subst hL
  obtain ⟨ps, h1, h2, h3⟩ := h
  obtain ⟨av, k1, k2, _, k4⟩ := sent_of_vars l ps h1 h2 h3 hg
  exact ⟨av, k1, k2, k4⟩

end Go.Proofs.YtlkghcfjcdeokaaDoor
