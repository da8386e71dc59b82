/-
  A range over a function whose iterator keeps a state of its own, of which something holds at the end: the rule of Rng once more, with what holds at the end as a condition on the world, and that the loop's own places lie below what a round allots. No condition.
-/
import Derived.Test.YtlkghcfjcdeokaaDoorRng2
namespace Go.Proofs.YtlkghcfjcdeokaaDoor
open Go.RowKit

section
variable {F : Fence} {n : Nat} {P : Program}


/-- The rule. -/
theorem wpIn_rangeX {α : Type} {g : Operand} {ps : Array Tmp} {assign body : Code} {Q : Exit → Act → World → Prop} {a : Act} {w : World}
    (hro : F.round = none) (h1 : 1 ≤ n) {gf : Nat} {lb : Array Value} (hg : a.eval g = .func (.func gf) #[] lb) (hFg : F.fn gf) (eg : ∀ args w, (callFunc gf args).run P w = .ok (.enter gf args) w)
    {encs : α → Array Value} {Kp Mv : World → World → Prop} {Nx : List α → α → Prop} {S : List α → World → Prop} {Sp : List α → Prop} {St : World → Prop} (hseq : SeqW F (n - 1) P gf lb encs Kp Mv Nx S Sp St) (hps : ∀ x, (encs x).size = ps.size)
    (hSt : ∀ o o', St ((w.alloc o).alloc o')) (hSe : ∀ (xs : List α) (W : World) (l : Nat) (o o' : Obj), w.heap.size ≤ l → W.heap[l]? = some o → o.isCells = false → S xs W → S xs (W.putObj l o'))
    (hKt : ∀ {A B C : World}, Kp A B → Kp B C → Kp A C) (hKb : ∀ (W : World) (l : Nat) (o o' : Obj), w.heap.size ≤ l → W.heap[l]? = some o → o.isCells = false → Kp W (W.putObj l o'))
    (hMb : ∀ A B, Mv A B → ∀ (l : Nat) (o : Obj), w.heap.size ≤ l → A.heap[l]? = some o → o.isCells = false → B.heap[l]? = some o)
    (I : List α → World → Prop) (Ix : Code → List α → World → Prop) (hI : OwnFrom w.heap.size I) (hIx : ∀ c, OwnFrom w.heap.size (Ix c)) (hIM : Closed Mv I) (hIxM : ∀ c, Closed Mv (Ix c)) (h0 : I [] w)
    (hround : ∀ (l : Nat) (pre : List α) (x : α) (W : World), I pre W → Nx pre x → w.heap.size + 1 < W.heap.size →
      assign.wpIn (F.inRound l) (n - 1 - 1) P (Exit.then (fun a' W' => KeepsFrom w.heap.size W W' ∧ Kp W W' ∧ I pre W' ∧
        ∀ Wb, I pre Wb → (∀ k, k ≠ w.heap.size + 1 → Wb.heap[k]? = W'.heap[k]?) → body.wpIn (F.inRound l) (n - 1 - 1) P (bodyEnd w.heap.size Kp I Ix (pre ++ [x]) Wb) a' Wb) (fun _ _ _ => False))
        { tmps := (ps.zip (encs x)).foldl (fun t (p, v) => t.setIfInBounds p v) a.tmps, defers := [] } W)
    (hdone : ∀ (xs : List α) (W : World), S xs W → I xs W → W.heap[w.heap.size]? = some (.deferred (some [])) → Q .normal { a with defers := { target := .collected w.heap.size, args := #[] } :: a.defers } W)
    (hstop : ∀ (c : Code) (pre : List α) (W : World), Sp pre → Ix c pre W → W.heap[w.heap.size]? = some (.deferred (some [])) → c.wpIn F n P Q { a with defers := { target := .collected w.heap.size, args := #[] } :: a.defers } W) :
    (Code.rangeFunc g ps assign body).wpIn F n P Q a w := by
  refine range_enter hro h1 hg hFg eg fun fn hfn => ?_
  let rc := loopRec fn a.tmps ps assign body w.heap.size
  generalize hW1 : (w.alloc (.deferred (some []))).alloc (.loop (rc .ready none)) = W1
  have hL1 : W1.heap[w.heap.size + 1]? = some (.loop (rc .ready none)) := by
    have := World.alloc_heap_new (w.alloc (.deferred (some []))) (.loop (rc .ready none))
    rw [World.size_alloc, hW1] at this
    exact this
  have hD1 : W1.heap[w.heap.size]? = some (.deferred (some [])) := by
    rw [← hW1]; exact (Below.heap_alloc _ _ _ (by simp)).trans (World.alloc_heap_new w _)
  have hI1 : I [] W1 := by rw [← hW1]; exact hI.alloc _ (hI.alloc _ h0)
  refine (hseq (w.heap.size + 1)
    (fun pre W => I pre W ∧ W.heap[w.heap.size + 1]? = some (.loop (rc .ready none)) ∧ W.heap[w.heap.size]? = some (.deferred (some [])))
    (fun pre W => ∃ c, Ix c pre W ∧ W.heap[w.heap.size + 1]? = some (.loop (rc .done (some c))) ∧ W.heap[w.heap.size]? = some (.deferred (some [])))
    W1 (by rw [← hW1]; exact hSt _ _) ?_ ?_ ?_ ⟨hI1, hL1, hD1⟩).mono ?_
  · rintro s A B ⟨hi, hl, hd⟩ hm
    exact ⟨hIM s A B hi hm, hMb A B hm _ _ (by omega) hl rfl, hMb A B hm _ _ (Nat.le_refl _) hd rfl⟩
  · rintro s A B ⟨c, hi, hl, hd⟩ hm
    exact ⟨c, hIxM c s A B hi hm, hMb A B hm _ _ (by omega) hl rfl, hMb A B hm _ _ (Nat.le_refl _) hd rfl⟩
  · -- one round
    rintro pre x W ⟨hi, hl, hd⟩ hx
    refine yieldAt_round hl rfl (hps x) hfn ?_
    refine wpIn_mono (hround _ pre x W hi hx (Array.getElem?_eq_some_iff.1 hl).1) ?_
    intro e a' Wa hq
    cases e with
    | exit id => exact hq.elim
    | goto l => exact hq.elim
    | ret => exact hq.elim
    | panic ch => exact hq.elim
    | outgrown => exact hq.elim
    | normal =>
    obtain ⟨hka, hkpa, hia, hbody⟩ := hq
    have hla := hka.same _ _ (by omega) hl rfl
    have hda := hka.same _ _ (Nat.le_refl _) hd rfl
    refine ⟨hla, ?_⟩
    have hlt : w.heap.size + 1 < Wa.heap.size := (Array.getElem?_eq_some_iff.1 hla).1
    have hlb : (Wa.putObj (w.heap.size + 1) (.loop (rc .busy none))).heap[w.heap.size + 1]? = some (.loop (rc .busy none)) := World.putObj_heap_same hlt
    have hdb : (Wa.putObj (w.heap.size + 1) (.loop (rc .busy none))).heap[w.heap.size]? = some (.deferred (some [])) := (World.putObj_heap_other (by omega)).trans hda
    have hkb : Kp Wa (Wa.putObj (w.heap.size + 1) (.loop (rc .busy none))) := hKb _ _ _ _ (by omega) hla rfl
    refine wpIn_mono (hbody _ (hI.putObj _ hia (by omega) hla rfl) (fun k hk => World.putObj_heap_other hk)) ?_
    rintro e a3 W3 hp
    have keep : KeepsFrom w.heap.size (Wa.putObj (w.heap.size + 1) (.loop (rc .busy none))) W3 → W3.heap[w.heap.size + 1]? = some (.loop (rc .busy none)) ∧ W3.heap[w.heap.size]? = some (.deferred (some [])) ∧
        (∀ o, (W3.putObj (w.heap.size + 1) o).heap[w.heap.size + 1]? = some o) ∧ (∀ o, (W3.putObj (w.heap.size + 1) o).heap[w.heap.size]? = some (.deferred (some []))) := fun hk => by
      have h3 := hk.same _ _ (by omega) hlb rfl
      have h4 := hk.same _ _ (Nat.le_refl _) hdb rfl
      exact ⟨h3, h4, fun o => World.putObj_heap_same (Array.getElem?_eq_some_iff.1 h3).1, fun o => (World.putObj_heap_other (by omega)).trans h4⟩
    cases e with
    | normal =>
      obtain ⟨hk3, hkp3, hi3⟩ := hp
      obtain ⟨h3, h4, h5, h6⟩ := keep hk3
      refine ⟨h3, .inl ⟨rfl, ?_, ?_⟩⟩
      · exact ⟨hI.putObj _ hi3 (by omega) h3 rfl, h5 _, h6 _⟩
      · exact hKt hkpa (hKt hkb (hKt hkp3 (hKb _ _ _ _ (by omega) h3 rfl)))
    | ret =>
      obtain ⟨hk3, hi3⟩ := hp
      obtain ⟨h3, h4, h5, h6⟩ := keep hk3
      exact ⟨h3, .inr ⟨rfl, .ret, ⟨(hIx _).putObj _ hi3 (by omega) h3 rfl, h5 _, h6 _⟩⟩⟩
    | exit id =>
      obtain ⟨hk3, hi3⟩ := hp
      obtain ⟨h3, h4, h5, h6⟩ := keep hk3
      exact ⟨h3, .inr ⟨rfl, .exit id, ⟨(hIx _).putObj _ hi3 (by omega) h3 rfl, h5 _, h6 _⟩⟩⟩
    | goto t =>
      obtain ⟨hk3, hi3⟩ := hp
      obtain ⟨h3, h4, h5, h6⟩ := keep hk3
      exact ⟨h3, .inr ⟨rfl, .goto t, ⟨(hIx _).putObj _ hi3 (by omega) h3 rfl, h5 _, h6 _⟩⟩⟩
    | panic ch => exact hp.elim
    | outgrown => exact hp.elim
  · -- behind the iterator
    rintro e W2 ⟨⟨v, rfl⟩, (⟨xs, hS, hi, hl, hd⟩ | ⟨pre, hSp, c, hi, hl, hd⟩)⟩
    · refine ⟨v, .ready, none, rfl, by simp, hl, fun _ => ?_, fun c hc => by cases hc⟩
      exact hdone xs _ (hSe _ _ _ _ _ (by omega) hl rfl hS) (hI.putObj _ hi (by omega) hl rfl) ((World.putObj_heap_other (by omega)).trans hd)
    · refine ⟨v, .done, some c, rfl, by simp, hl, fun h => by (cases h), fun c' hc => ?_⟩
      cases hc
      exact hstop c pre _ hSp ((hIx c).putObj _ hi (by omega) hl rfl) ((World.putObj_heap_other (by omega)).trans hd)
end

end Go.Proofs.YtlkghcfjcdeokaaDoor
