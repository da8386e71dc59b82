/-
  A rule for 'for , and more of the kind. Conditions: as the theorems' own hypotheses say.
-/
import Derived.RangeFuncNested
import Derived.RangeFuncBound
import Derived.RangeFuncCalls
import Derived.RangeFuncLeaves
import Derived.WalkKit
import Derived.WalkSpells
import Derived.WalkLawsBesides
import Derived.OwnWalkIn
import Derived.TacticsInMore
import Derived.LoopNIn
import Derived.LoopIn
import Derived.Lib.Hide
namespace Go.Proofs.YtmebjdbkngehiaaGreatDoor
open Go.RowKit
variable {Q : Exit → Act → World → Prop} {a : Act} {w : World} {g : Operand} {ps : Array Tmp} {assign body : Code} {α : Type}
section
variable {F : Fence} {n : Nat} {P : Program}
theorem wpIn_scope {c : Code} (h : c.wpIn F n P (Exit.noGoto Q) a w) : (Code.scope c).wpIn F n P Q a w := by
 intro b k cs hro hb hr
 have h0 : (lone (b.atR a (.code (.scope c) :: k)) cs w).fenced P F := fenced_calm hb hr rfl
 have hs : step P (lone (b.atR a (.code (.scope c) :: k)) cs w) = .next (lone (b.atR a (.code c :: .inScope c :: k)) cs w) :=
  step_lone_go (by simp [stepG, stepG.exec, Frame.atR])
 obtain ⟨e, a₁, w₁, hq, harr⟩ := h b (.inScope c :: k) cs hro hb hr
 cases e with
 | normal =>
  have hi : step P (lone (b.atR a₁ (.inScope c :: k)) cs w₁) = .next (lone (b.atR a₁ k) cs w₁) :=
   step_lone_go (by simp [stepG, stepG.exec, Frame.atR])
  exact ⟨.normal, a₁, w₁, hq, .head h0 hs (StepsIn.trans harr (.one (fenced_calm hb hr rfl) hi))⟩
 | exit id =>
  have hx : exitTo id (.inScope c :: k) = exitTo id k := by simp [exitTo]
  exact ⟨.exit id, a₁, w₁, hq, fun k' hk => .head h0 hs (harr.1 k' (by rw [hx]; exact hk)),
   fun hr' hk => let ⟨k₁, h1, h2⟩ := harr.2 hr' (by rw [hx]; exact hk); ⟨k₁, h1, .head h0 hs h2⟩⟩
 | goto l => exact hq.elim
 | ret => exact ⟨_, a₁, w₁, hq, .of_steps (.one h0 hs) harr⟩
 | panic ch => exact ⟨_, a₁, w₁, hq, .of_steps (.one h0 hs) harr⟩
 | outgrown => exact ⟨_, a₁, w₁, hq, .of_steps (b := b) (k := k) (cs := cs) (e := .outgrown) (.one h0 hs) harr⟩
def Closed {β : Type} (Mv : World → World → Prop) (J : β → World → Prop) : Prop := ∀ s A B, J s A → Mv A B → J s B
def RoundOk {α : Type} (F : Fence) (n : Nat) (P : Program) (l : Nat) (encs : α → Array Value) (Kp : World → World → Prop) (Nx : List α → α → Prop) (J Jx : List α → World → Prop) : Prop :=
 ∀ pre x A, J pre A → Nx pre x → YieldAt F n P l (encs x) A fun e B =>
  (e = .returned (.bool true) ∧ J (pre ++ [x]) B ∧ Kp A B) ∨ (e = .returned (.bool false) ∧ Jx (pre ++ [x]) B)
def SeqM {α : Type} (F : Fence) (n : Nat) (P : Program) (g : Nat) (lb : Array Value) (encs : α → Array Value) (Kp Mv : World → World → Prop) (Nx : List α → α → Prop) (S Sp : List α → Prop) (St : World → Prop) : Prop :=
 ∀ (l : Nat) (J Jx : List α → World → Prop) (W : World), St W → Closed Mv J → Closed Mv Jx → RoundOk F (n - 1) P l encs Kp Nx J Jx → J [] W →
  CallsIn F n P g (#[.func (.yield l) #[] #[]] ++ lb) W fun e W' => (∃ v, e = .returned v) ∧ ((∃ xs, S xs ∧ J xs W') ∨ (∃ pre, Sp pre ∧ Jx pre W'))
abbrev loopRec (fn : FuncId) (tmps : Array Value) (ps : Array Tmp) (assign body : Code) (D : Nat) (st : LoopState) (pe : Option Code) : Loop :=
 { state := st, pending := pe, fn := fn, tmps := tmps, params := ps, assign := assign, body := body, defers := D }
theorem range_enter
  (hro : F.round = none) (h1 : 1 ≤ n) {gf : Nat} {lb : Array Value} (hg : a.eval g = .func (.func gf) #[] lb) (hFg : F.fn gf) (eg : ∀ args w, (callFunc gf args).run P w = .ok (.enter gf args) w)
  (hcall : ∀ fn, F.fn fn → CallsIn F (n - 1) P gf (#[.func (.yield (w.heap.size + 1)) #[] #[]] ++ lb)
   ((w.alloc (.deferred (some []))).alloc (.loop (loopRec fn a.tmps ps assign body w.heap.size .ready none)))
   fun e W2 => ∃ v st pe, e = .returned v ∧ st ≠ .busy ∧ W2.heap[w.heap.size + 1]? = some (.loop (loopRec fn a.tmps ps assign body w.heap.size st pe)) ∧
    (pe = none → Q .normal { a with defers := { target := .collected w.heap.size, args := #[] } :: a.defers } (W2.putObj (w.heap.size + 1) (.loop (loopRec fn a.tmps ps assign body w.heap.size .exhausted none)))) ∧
    (∀ c, pe = some c → c.wpIn F n P Q { a with defers := { target := .collected w.heap.size, args := #[] } :: a.defers } (W2.putObj (w.heap.size + 1) (.loop (loopRec fn a.tmps ps assign body w.heap.size .exhausted (some c)))))) :
  (Code.rangeFunc g ps assign body).wpIn F n P Q a w := by
 refine wpIn_rangeFunc fun fn hfn => ?_
 have hc := hcall fn hfn
 have hent := run_enterLoop_outer (P := P) (w := w) fn a.tmps ps assign body
 rw [hro]
 generalize hW1 : (w.alloc (.deferred (some []))).alloc (.loop (loopRec fn a.tmps ps assign body w.heap.size .ready none)) = W1 at hc
 have hent' : (Instr.enterLoop fn a.tmps ps assign body none).run P w = .ok (w.heap.size + 1, [{ target := .collected w.heap.size, args := #[] }]) W1 := by rw [← hW1]; exact hent
 refine ⟨w.heap.size + 1, [{ target := .collected w.heap.size, args := #[] }], W1, { target := .fn (.func gf) lb, args := #[.func (.yield (w.heap.size + 1)) #[] #[]] }, W1, gf,
  #[.func (.yield (w.heap.size + 1)) #[] #[]] ++ lb, W1, ?_, ?_, ?_, ?_, fun _ => h1, ?_⟩
 ·exact hent'
 ·simp only [resolve, hg]
  simp [go_sem]
 ·intro f' hf'
  simp [Target.leads] at hf'
  subst hf'
  exact hFg
 ·simp [invoke, go_sem, eg]
 ·refine hc.mono ?_
  intro e W2 h
  obtain ⟨v, st, pe, he, hst, hl, hnn, hcc⟩ := h
  rw [he]
  have hend := run_endLoop (P := P) hl hst
  refine ⟨pe, _, hend, ?_⟩
  cases pe with
  | none => exact hnn rfl
  | some c => exact hcc c rfl
def roundEnd (l : Nat) (r : Loop) (R : Ending → World → Prop) : Exit → Act → World → Prop
 | .normal, _, W => W.heap[l]? = some (.loop { r with state := .busy }) ∧ R (.returned (.bool true)) (W.putObj l (.loop { r with state := .ready, pending := none }))
 | .ret, _, W => W.heap[l]? = some (.loop { r with state := .busy }) ∧ R (.returned (.bool false)) (W.putObj l (.loop { r with state := .done, pending := some .ret }))
 | .exit id, _, W => W.heap[l]? = some (.loop { r with state := .busy }) ∧ R (.returned (.bool false)) (W.putObj l (.loop { r with state := .done, pending := some (.exit id) }))
 | .goto t, _, W => W.heap[l]? = some (.loop { r with state := .busy }) ∧ R (.returned (.bool false)) (W.putObj l (.loop { r with state := .done, pending := some (.goto t) }))
 | .panic _, _, _ => False
 | .outgrown, _, _ => False
theorem yieldAt_round {l : Nat} {r : Loop} {args : Array Value} {W : World} {R : Ending → World → Prop} (hl : W.heap[l]? = some (.loop r)) (hr : r.state = .ready) (hs : args.size = r.params.size) (hF : F.fn r.fn)
  (h : r.assign.wpIn (F.inRound l) n P (Exit.then (fun a₁ W₁ => W₁.heap[l]? = some (.loop r) ∧ r.body.wpIn (F.inRound l) n P (roundEnd l r R) a₁ (W₁.putObj l (.loop { r with state := .busy }))) (fun _ _ _ => False))
   { tmps := (r.params.zip args).foldl (fun tmps (t, a) => tmps.setIfInBounds t a) r.tmps, defers := [] } W) : YieldAt F n P l args W R := by
 refine ⟨r.fn, _, r.assign, r.body, run_yield hl hs, roundIn_of_wpIn hF (wpIn_mono h ?_)⟩
 rintro e a₁ W₁ hq
 cases e with
 | normal =>
  obtain ⟨hl1, hb⟩ := hq
  refine ⟨_, run_beginRound hl1 hr, wpIn_mono hb ?_⟩
  rintro e a₂ W₂ hq₂
  cases e with
  | normal => exact ⟨_, _, run_endRound none hq₂.1, hq₂.2⟩
  | ret => exact ⟨_, _, run_endRound (some .ret) hq₂.1, hq₂.2⟩
  | exit id => exact ⟨_, _, run_endRound (some (.exit id)) hq₂.1, hq₂.2⟩
  | goto t => exact ⟨_, _, run_endRound (some (.goto t)) hq₂.1, hq₂.2⟩
  | panic ch => exact hq₂.elim
  | outgrown => exact hq₂.elim
 | exit id => exact hq.elim
 | goto t => exact hq.elim
 | ret => exact hq.elim
 | panic ch => exact hq.elim
 | outgrown => exact hq.elim
def bodyEnd {α : Type} (B : Nat) (Kp : World → World → Prop) (I : List α → World → Prop) (Ix : Code → List α → World → Prop) (xs : List α) (W : World) : Exit → Act → World → Prop
 | .normal, _, W' => KeepsFrom B W W' ∧ Kp W W' ∧ I xs W'
 | .ret, _, W' => KeepsFrom B W W' ∧ Ix .ret xs W'
 | .exit id, _, W' => KeepsFrom B W W' ∧ Ix (.exit id) xs W'
 | .goto t, _, W' => KeepsFrom B W W' ∧ Ix (.goto t) xs W'
 | .panic _, _, _ => False
 | .outgrown, _, _ => False
theorem wpIn_rangeM
  (hro : F.round = none) (h1 : 1 ≤ n) {gf : Nat} {lb : Array Value} (hg : a.eval g = .func (.func gf) #[] lb) (hFg : F.fn gf) (eg : ∀ args w, (callFunc gf args).run P w = .ok (.enter gf args) w)
  {encs : α → Array Value} {Kp Mv : World → World → Prop} {Nx : List α → α → Prop} {S Sp : List α → Prop} {St : World → Prop} (hseq : SeqM F (n - 1) P gf lb encs Kp Mv Nx S Sp St) (hps : ∀ x, (encs x).size = ps.size)
  (hSt : ∀ o o', St ((w.alloc o).alloc o'))
  (hKt : ∀ {A B C : World}, Kp A B → Kp B C → Kp A C) (hKb : ∀ (W : World) (l : Nat) (o o' : Obj), w.heap.size ≤ l → W.heap[l]? = some o → o.isCells = false → Kp W (W.putObj l o'))
  (hMb : ∀ A B, Mv A B → ∀ (l : Nat) (o : Obj), w.heap.size ≤ l → A.heap[l]? = some o → o.isCells = false → B.heap[l]? = some o)
  (I : List α → World → Prop) (Ix : Code → List α → World → Prop) (hI : OwnFrom w.heap.size I) (hIx : ∀ c, OwnFrom w.heap.size (Ix c)) (hIM : Closed Mv I) (hIxM : ∀ c, Closed Mv (Ix c)) (h0 : I [] w)
  (hround : ∀ (l : Nat) (pre : List α) (x : α) (W : World), I pre W → Nx pre x →
   assign.wpIn (F.inRound l) (n - 1 - 1) P (Exit.then (fun a' W' => KeepsFrom w.heap.size W W' ∧ Kp W W' ∧ I pre W' ∧
    ∀ Wb, I pre Wb → (∀ k, k ≠ w.heap.size + 1 → Wb.heap[k]? = W'.heap[k]?) → body.wpIn (F.inRound l) (n - 1 - 1) P (bodyEnd w.heap.size Kp I Ix (pre ++ [x]) Wb) a' Wb) (fun _ _ _ => False))
    { tmps := (ps.zip (encs x)).foldl (fun t (p, v) => t.setIfInBounds p v) a.tmps, defers := [] } W)
  (hdone : ∀ (xs : List α) (W : World), S xs → I xs W → W.heap[w.heap.size]? = some (.deferred (some [])) → Q .normal { a with defers := { target := .collected w.heap.size, args := #[] } :: a.defers } W)
  (hstop : ∀ (c : Code) (pre : List α) (W : World), Sp pre → Ix c pre W → W.heap[w.heap.size]? = some (.deferred (some [])) → c.wpIn F n P Q { a with defers := { target := .collected w.heap.size, args := #[] } :: a.defers } W) :
  (Code.rangeFunc g ps assign body).wpIn F n P Q a w := by
 refine range_enter hro h1 hg hFg eg fun fn hfn => ?_
 let rc := loopRec fn a.tmps ps assign body w.heap.size
 generalize hW1 : (w.alloc (.deferred (some []))).alloc (.loop (rc .ready none)) = W1
 have hL1 : W1.heap[w.heap.size + 1]? = some (.loop (rc .ready none)) := by
  have := World.alloc_heap_new (w.alloc (.deferred (some []))) (.loop (rc .ready none))
  rw [World.size_alloc, hW1] at this
  exact this
 have hD1 : W1.heap[w.heap.size]? = some (.deferred (some [])) := by
  rw [← hW1]; exact (Below.heap_alloc _ _ _ (by simp)).trans (World.alloc_heap_new w _)
 have hI1 : I [] W1 := by rw [← hW1]; exact hI.alloc _ (hI.alloc _ h0)
 refine (hseq (w.heap.size + 1)
  (fun pre W => I pre W ∧ W.heap[w.heap.size + 1]? = some (.loop (rc .ready none)) ∧ W.heap[w.heap.size]? = some (.deferred (some [])))
  (fun pre W => ∃ c, Ix c pre W ∧ W.heap[w.heap.size + 1]? = some (.loop (rc .done (some c))) ∧ W.heap[w.heap.size]? = some (.deferred (some [])))
  W1 (by rw [← hW1]; exact hSt _ _) ?_ ?_ ?_ ⟨hI1, hL1, hD1⟩).mono ?_
 ·rintro s A B ⟨hi, hl, hd⟩ hm
  exact ⟨hIM s A B hi hm, hMb A B hm _ _ (by omega) hl rfl, hMb A B hm _ _ (Nat.le_refl _) hd rfl⟩
 ·rintro s A B ⟨c, hi, hl, hd⟩ hm
  exact ⟨c, hIxM c s A B hi hm, hMb A B hm _ _ (by omega) hl rfl, hMb A B hm _ _ (Nat.le_refl _) hd rfl⟩
 ·-- one round
  rintro pre x W ⟨hi, hl, hd⟩ hx
  refine yieldAt_round hl rfl (hps x) hfn ?_
  refine wpIn_mono (hround _ pre x W hi hx) ?_
  intro e a' Wa hq
  cases e with
  | exit id => exact hq.elim
  | goto l => exact hq.elim
  | ret => exact hq.elim
  | panic ch => exact hq.elim
  | outgrown => exact hq.elim
  | normal =>
  obtain ⟨hka, hkpa, hia, hbody⟩ := hq
  have hla := hka.same _ _ (by omega) hl rfl
  have hda := hka.same _ _ (Nat.le_refl _) hd rfl
  refine ⟨hla, ?_⟩
  have hlt : w.heap.size + 1 < Wa.heap.size := (Array.getElem?_eq_some_iff.1 hla).1
  have hlb : (Wa.putObj (w.heap.size + 1) (.loop (rc .busy none))).heap[w.heap.size + 1]? = some (.loop (rc .busy none)) := World.putObj_heap_same hlt
  have hdb : (Wa.putObj (w.heap.size + 1) (.loop (rc .busy none))).heap[w.heap.size]? = some (.deferred (some [])) := (World.putObj_heap_other (by omega)).trans hda
  have hkb : Kp Wa (Wa.putObj (w.heap.size + 1) (.loop (rc .busy none))) := hKb _ _ _ _ (by omega) hla rfl
  refine wpIn_mono (hbody _ (hI.putObj _ hia (by omega) hla rfl) (fun k hk => World.putObj_heap_other hk)) ?_
  rintro e a3 W3 hp
  have keep : KeepsFrom w.heap.size (Wa.putObj (w.heap.size + 1) (.loop (rc .busy none))) W3 → W3.heap[w.heap.size + 1]? = some (.loop (rc .busy none)) ∧ W3.heap[w.heap.size]? = some (.deferred (some [])) ∧
    (∀ o, (W3.putObj (w.heap.size + 1) o).heap[w.heap.size + 1]? = some o) ∧ (∀ o, (W3.putObj (w.heap.size + 1) o).heap[w.heap.size]? = some (.deferred (some []))) := fun hk => by
   have h3 := hk.same _ _ (by omega) hlb rfl
   have h4 := hk.same _ _ (Nat.le_refl _) hdb rfl
   exact ⟨h3, h4, fun o => World.putObj_heap_same (Array.getElem?_eq_some_iff.1 h3).1, fun o => (World.putObj_heap_other (by omega)).trans h4⟩
  cases e with
  | normal =>
   obtain ⟨hk3, hkp3, hi3⟩ := hp
   obtain ⟨h3, h4, h5, h6⟩ := keep hk3
   refine ⟨h3, .inl ⟨rfl, ?_, ?_⟩⟩
   ·exact ⟨hI.putObj _ hi3 (by omega) h3 rfl, h5 _, h6 _⟩
   ·exact hKt hkpa (hKt hkb (hKt hkp3 (hKb _ _ _ _ (by omega) h3 rfl)))
  | ret =>
   obtain ⟨hk3, hi3⟩ := hp
   obtain ⟨h3, h4, h5, h6⟩ := keep hk3
   exact ⟨h3, .inr ⟨rfl, .ret, ⟨(hIx _).putObj _ hi3 (by omega) h3 rfl, h5 _, h6 _⟩⟩⟩
  | exit id =>
   obtain ⟨hk3, hi3⟩ := hp
   obtain ⟨h3, h4, h5, h6⟩ := keep hk3
   exact ⟨h3, .inr ⟨rfl, .exit id, ⟨(hIx _).putObj _ hi3 (by omega) h3 rfl, h5 _, h6 _⟩⟩⟩
  | goto t =>
   obtain ⟨hk3, hi3⟩ := hp
   obtain ⟨h3, h4, h5, h6⟩ := keep hk3
   exact ⟨h3, .inr ⟨rfl, .goto t, ⟨(hIx _).putObj _ hi3 (by omega) h3 rfl, h5 _, h6 _⟩⟩⟩
  | panic ch => exact hp.elim
  | outgrown => exact hp.elim
 ·-- behind the iterator
  rintro e W2 ⟨⟨v, rfl⟩, (⟨xs, hS, hi, hl, hd⟩ | ⟨pre, hSp, c, hi, hl, hd⟩)⟩
  ·refine ⟨v, .ready, none, rfl, by simp, hl, fun _ => ?_, fun c hc => by cases hc⟩
   exact hdone xs _ hS (hI.putObj _ hi (by omega) hl rfl) ((World.putObj_heap_other (by omega)).trans hd)
  ·refine ⟨v, .done, some c, rfl, by simp, hl, fun h => by (cases h), fun c' hc => ?_⟩
   cases hc
   exact hstop c pre _ hSp ((hIx c).putObj _ hi (by omega) hl rfl) ((World.putObj_heap_other (by omega)).trans hd)
end
section
variable {F : Fence} {n : Nat} {P : Program}
def SeqW {α : Type} (F : Fence) (n : Nat) (P : Program) (g : Nat) (lb : Array Value) (encs : α → Array Value) (Kp Mv : World → World → Prop) (Nx : List α → α → Prop) (S : List α → World → Prop) (Sp : List α → Prop) (St : World → Prop) : Prop :=
 ∀ (l : Nat) (J Jx : List α → World → Prop) (W : World), St W → Closed Mv J → Closed Mv Jx → RoundOk F (n - 1) P l encs Kp Nx J Jx → J [] W →
  CallsIn F n P g (#[.func (.yield l) #[] #[]] ++ lb) W fun e W' => (∃ v, e = .returned v) ∧ ((∃ xs, S xs W' ∧ J xs W') ∨ (∃ pre, Sp pre ∧ Jx pre W'))
theorem wpIn_rangeW
  (hro : F.round = none) (h1 : 1 ≤ n) {gf : Nat} {lb : Array Value} (hg : a.eval g = .func (.func gf) #[] lb) (hFg : F.fn gf) (eg : ∀ args w, (callFunc gf args).run P w = .ok (.enter gf args) w)
  {encs : α → Array Value} {Kp Mv : World → World → Prop} {Nx : List α → α → Prop} {S : List α → World → Prop} {Sp : List α → Prop} {St : World → Prop} (hseq : SeqW F (n - 1) P gf lb encs Kp Mv Nx S Sp St) (hps : ∀ x, (encs x).size = ps.size)
  (hSt : ∀ o o', St ((w.alloc o).alloc o')) (hSe : ∀ (xs : List α) (W : World) (l : Nat) (o o' : Obj), w.heap.size ≤ l → W.heap[l]? = some o → o.isCells = false → S xs W → S xs (W.putObj l o'))
  (hKt : ∀ {A B C : World}, Kp A B → Kp B C → Kp A C) (hKb : ∀ (W : World) (l : Nat) (o o' : Obj), w.heap.size ≤ l → W.heap[l]? = some o → o.isCells = false → Kp W (W.putObj l o'))
  (hMb : ∀ A B, Mv A B → ∀ (l : Nat) (o : Obj), w.heap.size ≤ l → A.heap[l]? = some o → o.isCells = false → B.heap[l]? = some o)
  (I : List α → World → Prop) (Ix : Code → List α → World → Prop) (hI : OwnFrom w.heap.size I) (hIx : ∀ c, OwnFrom w.heap.size (Ix c)) (hIM : Closed Mv I) (hIxM : ∀ c, Closed Mv (Ix c)) (h0 : I [] w)
  (hround : ∀ (l : Nat) (pre : List α) (x : α) (W : World), I pre W → Nx pre x →
   assign.wpIn (F.inRound l) (n - 1 - 1) P (Exit.then (fun a' W' => KeepsFrom w.heap.size W W' ∧ Kp W W' ∧ I pre W' ∧
    ∀ Wb, I pre Wb → (∀ k, k ≠ w.heap.size + 1 → Wb.heap[k]? = W'.heap[k]?) → body.wpIn (F.inRound l) (n - 1 - 1) P (bodyEnd w.heap.size Kp I Ix (pre ++ [x]) Wb) a' Wb) (fun _ _ _ => False))
    { tmps := (ps.zip (encs x)).foldl (fun t (p, v) => t.setIfInBounds p v) a.tmps, defers := [] } W)
  (hdone : ∀ (xs : List α) (W : World), S xs W → I xs W → W.heap[w.heap.size]? = some (.deferred (some [])) → Q .normal { a with defers := { target := .collected w.heap.size, args := #[] } :: a.defers } W)
  (hstop : ∀ (c : Code) (pre : List α) (W : World), Sp pre → Ix c pre W → W.heap[w.heap.size]? = some (.deferred (some [])) → c.wpIn F n P Q { a with defers := { target := .collected w.heap.size, args := #[] } :: a.defers } W) :
  (Code.rangeFunc g ps assign body).wpIn F n P Q a w := by
 refine range_enter hro h1 hg hFg eg fun fn hfn => ?_
 let rc := loopRec fn a.tmps ps assign body w.heap.size
 generalize hW1 : (w.alloc (.deferred (some []))).alloc (.loop (rc .ready none)) = W1
 have hL1 : W1.heap[w.heap.size + 1]? = some (.loop (rc .ready none)) := by
  have := World.alloc_heap_new (w.alloc (.deferred (some []))) (.loop (rc .ready none))
  rw [World.size_alloc, hW1] at this
  exact this
 have hD1 : W1.heap[w.heap.size]? = some (.deferred (some [])) := by
  rw [← hW1]; exact (Below.heap_alloc _ _ _ (by simp)).trans (World.alloc_heap_new w _)
 have hI1 : I [] W1 := by rw [← hW1]; exact hI.alloc _ (hI.alloc _ h0)
 refine (hseq (w.heap.size + 1)
  (fun pre W => I pre W ∧ W.heap[w.heap.size + 1]? = some (.loop (rc .ready none)) ∧ W.heap[w.heap.size]? = some (.deferred (some [])))
  (fun pre W => ∃ c, Ix c pre W ∧ W.heap[w.heap.size + 1]? = some (.loop (rc .done (some c))) ∧ W.heap[w.heap.size]? = some (.deferred (some [])))
  W1 (by rw [← hW1]; exact hSt _ _) ?_ ?_ ?_ ⟨hI1, hL1, hD1⟩).mono ?_
 ·rintro s A B ⟨hi, hl, hd⟩ hm
  exact ⟨hIM s A B hi hm, hMb A B hm _ _ (by omega) hl rfl, hMb A B hm _ _ (Nat.le_refl _) hd rfl⟩
 ·rintro s A B ⟨c, hi, hl, hd⟩ hm
  exact ⟨c, hIxM c s A B hi hm, hMb A B hm _ _ (by omega) hl rfl, hMb A B hm _ _ (Nat.le_refl _) hd rfl⟩
 ·-- one round
  rintro pre x W ⟨hi, hl, hd⟩ hx
  refine yieldAt_round hl rfl (hps x) hfn ?_
  refine wpIn_mono (hround _ pre x W hi hx) ?_
  intro e a' Wa hq
  cases e with
  | exit id => exact hq.elim
  | goto l => exact hq.elim
  | ret => exact hq.elim
  | panic ch => exact hq.elim
  | outgrown => exact hq.elim
  | normal =>
  obtain ⟨hka, hkpa, hia, hbody⟩ := hq
  have hla := hka.same _ _ (by omega) hl rfl
  have hda := hka.same _ _ (Nat.le_refl _) hd rfl
  refine ⟨hla, ?_⟩
  have hlt : w.heap.size + 1 < Wa.heap.size := (Array.getElem?_eq_some_iff.1 hla).1
  have hlb : (Wa.putObj (w.heap.size + 1) (.loop (rc .busy none))).heap[w.heap.size + 1]? = some (.loop (rc .busy none)) := World.putObj_heap_same hlt
  have hdb : (Wa.putObj (w.heap.size + 1) (.loop (rc .busy none))).heap[w.heap.size]? = some (.deferred (some [])) := (World.putObj_heap_other (by omega)).trans hda
  have hkb : Kp Wa (Wa.putObj (w.heap.size + 1) (.loop (rc .busy none))) := hKb _ _ _ _ (by omega) hla rfl
  refine wpIn_mono (hbody _ (hI.putObj _ hia (by omega) hla rfl) (fun k hk => World.putObj_heap_other hk)) ?_
  rintro e a3 W3 hp
  have keep : KeepsFrom w.heap.size (Wa.putObj (w.heap.size + 1) (.loop (rc .busy none))) W3 → W3.heap[w.heap.size + 1]? = some (.loop (rc .busy none)) ∧ W3.heap[w.heap.size]? = some (.deferred (some [])) ∧
    (∀ o, (W3.putObj (w.heap.size + 1) o).heap[w.heap.size + 1]? = some o) ∧ (∀ o, (W3.putObj (w.heap.size + 1) o).heap[w.heap.size]? = some (.deferred (some []))) := fun hk => by
   have h3 := hk.same _ _ (by omega) hlb rfl
   have h4 := hk.same _ _ (Nat.le_refl _) hdb rfl
   exact ⟨h3, h4, fun o => World.putObj_heap_same (Array.getElem?_eq_some_iff.1 h3).1, fun o => (World.putObj_heap_other (by omega)).trans h4⟩
  cases e with
  | normal =>
   obtain ⟨hk3, hkp3, hi3⟩ := hp
   obtain ⟨h3, h4, h5, h6⟩ := keep hk3
   refine ⟨h3, .inl ⟨rfl, ?_, ?_⟩⟩
   ·exact ⟨hI.putObj _ hi3 (by omega) h3 rfl, h5 _, h6 _⟩
   ·exact hKt hkpa (hKt hkb (hKt hkp3 (hKb _ _ _ _ (by omega) h3 rfl)))
  | ret =>
   obtain ⟨hk3, hi3⟩ := hp
   obtain ⟨h3, h4, h5, h6⟩ := keep hk3
   exact ⟨h3, .inr ⟨rfl, .ret, ⟨(hIx _).putObj _ hi3 (by omega) h3 rfl, h5 _, h6 _⟩⟩⟩
  | exit id =>
   obtain ⟨hk3, hi3⟩ := hp
   obtain ⟨h3, h4, h5, h6⟩ := keep hk3
   exact ⟨h3, .inr ⟨rfl, .exit id, ⟨(hIx _).putObj _ hi3 (by omega) h3 rfl, h5 _, h6 _⟩⟩⟩
  | goto t =>
   obtain ⟨hk3, hi3⟩ := hp
   obtain ⟨h3, h4, h5, h6⟩ := keep hk3
   exact ⟨h3, .inr ⟨rfl, .goto t, ⟨(hIx _).putObj _ hi3 (by omega) h3 rfl, h5 _, h6 _⟩⟩⟩
  | panic ch => exact hp.elim
  | outgrown => exact hp.elim
 ·-- behind the iterator
  rintro e W2 ⟨⟨v, rfl⟩, (⟨xs, hS, hi, hl, hd⟩ | ⟨pre, hSp, c, hi, hl, hd⟩)⟩
  ·refine ⟨v, .ready, none, rfl, by simp, hl, fun _ => ?_, fun c hc => by cases hc⟩
   exact hdone xs _ (hSe _ _ _ _ _ (by omega) hl rfl hS) (hI.putObj _ hi (by omega) hl rfl) ((World.putObj_heap_other (by omega)).trans hd)
  ·refine ⟨v, .done, some c, rfl, by simp, hl, fun h => by (cases h), fun c' hc => ?_⟩
   cases hc
   exact hstop c pre _ hSp ((hIx c).putObj _ hi (by omega) hl rfl) ((World.putObj_heap_other (by omega)).trans hd)
end
section
variable {F : Fence} {n : Nat} {P : Program}
theorem wpIn_rangeX
  (hro : F.round = none) (h1 : 1 ≤ n) {gf : Nat} {lb : Array Value} (hg : a.eval g = .func (.func gf) #[] lb) (hFg : F.fn gf) (eg : ∀ args w, (callFunc gf args).run P w = .ok (.enter gf args) w)
  {encs : α → Array Value} {Kp Mv : World → World → Prop} {Nx : List α → α → Prop} {S : List α → World → Prop} {Sp : List α → Prop} {St : World → Prop} (hseq : SeqW F (n - 1) P gf lb encs Kp Mv Nx S Sp St) (hps : ∀ x, (encs x).size = ps.size)
  (hSt : ∀ o o', St ((w.alloc o).alloc o')) (hSe : ∀ (xs : List α) (W : World) (l : Nat) (o o' : Obj), w.heap.size ≤ l → W.heap[l]? = some o → o.isCells = false → S xs W → S xs (W.putObj l o'))
  (hKt : ∀ {A B C : World}, Kp A B → Kp B C → Kp A C) (hKb : ∀ (W : World) (l : Nat) (o o' : Obj), w.heap.size ≤ l → W.heap[l]? = some o → o.isCells = false → Kp W (W.putObj l o'))
  (hMb : ∀ A B, Mv A B → ∀ (l : Nat) (o : Obj), w.heap.size ≤ l → A.heap[l]? = some o → o.isCells = false → B.heap[l]? = some o)
  (I : List α → World → Prop) (Ix : Code → List α → World → Prop) (hI : OwnFrom w.heap.size I) (hIx : ∀ c, OwnFrom w.heap.size (Ix c)) (hIM : Closed Mv I) (hIxM : ∀ c, Closed Mv (Ix c)) (h0 : I [] w)
  (hround : ∀ (l : Nat) (pre : List α) (x : α) (W : World), I pre W → Nx pre x → w.heap.size + 1 < W.heap.size →
   assign.wpIn (F.inRound l) (n - 1 - 1) P (Exit.then (fun a' W' => KeepsFrom w.heap.size W W' ∧ Kp W W' ∧ I pre W' ∧
    ∀ Wb, I pre Wb → (∀ k, k ≠ w.heap.size + 1 → Wb.heap[k]? = W'.heap[k]?) → body.wpIn (F.inRound l) (n - 1 - 1) P (bodyEnd w.heap.size Kp I Ix (pre ++ [x]) Wb) a' Wb) (fun _ _ _ => False))
    { tmps := (ps.zip (encs x)).foldl (fun t (p, v) => t.setIfInBounds p v) a.tmps, defers := [] } W)
  (hdone : ∀ (xs : List α) (W : World), S xs W → I xs W → W.heap[w.heap.size]? = some (.deferred (some [])) → Q .normal { a with defers := { target := .collected w.heap.size, args := #[] } :: a.defers } W)
  (hstop : ∀ (c : Code) (pre : List α) (W : World), Sp pre → Ix c pre W → W.heap[w.heap.size]? = some (.deferred (some [])) → c.wpIn F n P Q { a with defers := { target := .collected w.heap.size, args := #[] } :: a.defers } W) :
  (Code.rangeFunc g ps assign body).wpIn F n P Q a w := by
 refine range_enter hro h1 hg hFg eg fun fn hfn => ?_
 let rc := loopRec fn a.tmps ps assign body w.heap.size
 generalize hW1 : (w.alloc (.deferred (some []))).alloc (.loop (rc .ready none)) = W1
 have hL1 : W1.heap[w.heap.size + 1]? = some (.loop (rc .ready none)) := by
  have := World.alloc_heap_new (w.alloc (.deferred (some []))) (.loop (rc .ready none))
  rw [World.size_alloc, hW1] at this
  exact this
 have hD1 : W1.heap[w.heap.size]? = some (.deferred (some [])) := by
  rw [← hW1]; exact (Below.heap_alloc _ _ _ (by simp)).trans (World.alloc_heap_new w _)
 have hI1 : I [] W1 := by rw [← hW1]; exact hI.alloc _ (hI.alloc _ h0)
 refine (hseq (w.heap.size + 1)
  (fun pre W => I pre W ∧ W.heap[w.heap.size + 1]? = some (.loop (rc .ready none)) ∧ W.heap[w.heap.size]? = some (.deferred (some [])))
  (fun pre W => ∃ c, Ix c pre W ∧ W.heap[w.heap.size + 1]? = some (.loop (rc .done (some c))) ∧ W.heap[w.heap.size]? = some (.deferred (some [])))
  W1 (by rw [← hW1]; exact hSt _ _) ?_ ?_ ?_ ⟨hI1, hL1, hD1⟩).mono ?_
 ·rintro s A B ⟨hi, hl, hd⟩ hm
  exact ⟨hIM s A B hi hm, hMb A B hm _ _ (by omega) hl rfl, hMb A B hm _ _ (Nat.le_refl _) hd rfl⟩
 ·rintro s A B ⟨c, hi, hl, hd⟩ hm
  exact ⟨c, hIxM c s A B hi hm, hMb A B hm _ _ (by omega) hl rfl, hMb A B hm _ _ (Nat.le_refl _) hd rfl⟩
 ·-- one round
  rintro pre x W ⟨hi, hl, hd⟩ hx
  refine yieldAt_round hl rfl (hps x) hfn ?_
  refine wpIn_mono (hround _ pre x W hi hx (Array.getElem?_eq_some_iff.1 hl).1) ?_
  intro e a' Wa hq
  cases e with
  | exit id => exact hq.elim
  | goto l => exact hq.elim
  | ret => exact hq.elim
  | panic ch => exact hq.elim
  | outgrown => exact hq.elim
  | normal =>
  obtain ⟨hka, hkpa, hia, hbody⟩ := hq
  have hla := hka.same _ _ (by omega) hl rfl
  have hda := hka.same _ _ (Nat.le_refl _) hd rfl
  refine ⟨hla, ?_⟩
  have hlt : w.heap.size + 1 < Wa.heap.size := (Array.getElem?_eq_some_iff.1 hla).1
  have hlb : (Wa.putObj (w.heap.size + 1) (.loop (rc .busy none))).heap[w.heap.size + 1]? = some (.loop (rc .busy none)) := World.putObj_heap_same hlt
  have hdb : (Wa.putObj (w.heap.size + 1) (.loop (rc .busy none))).heap[w.heap.size]? = some (.deferred (some [])) := (World.putObj_heap_other (by omega)).trans hda
  have hkb : Kp Wa (Wa.putObj (w.heap.size + 1) (.loop (rc .busy none))) := hKb _ _ _ _ (by omega) hla rfl
  refine wpIn_mono (hbody _ (hI.putObj _ hia (by omega) hla rfl) (fun k hk => World.putObj_heap_other hk)) ?_
  rintro e a3 W3 hp
  have keep : KeepsFrom w.heap.size (Wa.putObj (w.heap.size + 1) (.loop (rc .busy none))) W3 → W3.heap[w.heap.size + 1]? = some (.loop (rc .busy none)) ∧ W3.heap[w.heap.size]? = some (.deferred (some [])) ∧
    (∀ o, (W3.putObj (w.heap.size + 1) o).heap[w.heap.size + 1]? = some o) ∧ (∀ o, (W3.putObj (w.heap.size + 1) o).heap[w.heap.size]? = some (.deferred (some []))) := fun hk => by
   have h3 := hk.same _ _ (by omega) hlb rfl
   have h4 := hk.same _ _ (Nat.le_refl _) hdb rfl
   exact ⟨h3, h4, fun o => World.putObj_heap_same (Array.getElem?_eq_some_iff.1 h3).1, fun o => (World.putObj_heap_other (by omega)).trans h4⟩
  cases e with
  | normal =>
   obtain ⟨hk3, hkp3, hi3⟩ := hp
   obtain ⟨h3, h4, h5, h6⟩ := keep hk3
   refine ⟨h3, .inl ⟨rfl, ?_, ?_⟩⟩
   ·exact ⟨hI.putObj _ hi3 (by omega) h3 rfl, h5 _, h6 _⟩
   ·exact hKt hkpa (hKt hkb (hKt hkp3 (hKb _ _ _ _ (by omega) h3 rfl)))
  | ret =>
   obtain ⟨hk3, hi3⟩ := hp
   obtain ⟨h3, h4, h5, h6⟩ := keep hk3
   exact ⟨h3, .inr ⟨rfl, .ret, ⟨(hIx _).putObj _ hi3 (by omega) h3 rfl, h5 _, h6 _⟩⟩⟩
  | exit id =>
   obtain ⟨hk3, hi3⟩ := hp
   obtain ⟨h3, h4, h5, h6⟩ := keep hk3
   exact ⟨h3, .inr ⟨rfl, .exit id, ⟨(hIx _).putObj _ hi3 (by omega) h3 rfl, h5 _, h6 _⟩⟩⟩
  | goto t =>
   obtain ⟨hk3, hi3⟩ := hp
   obtain ⟨h3, h4, h5, h6⟩ := keep hk3
   exact ⟨h3, .inr ⟨rfl, .goto t, ⟨(hIx _).putObj _ hi3 (by omega) h3 rfl, h5 _, h6 _⟩⟩⟩
  | panic ch => exact hp.elim
  | outgrown => exact hp.elim
 ·-- behind the iterator
  rintro e W2 ⟨⟨v, rfl⟩, (⟨xs, hS, hi, hl, hd⟩ | ⟨pre, hSp, c, hi, hl, hd⟩)⟩
  ·refine ⟨v, .ready, none, rfl, by simp, hl, fun _ => ?_, fun c hc => by cases hc⟩
   exact hdone xs _ (hSe _ _ _ _ _ (by omega) hl rfl hS) (hI.putObj _ hi (by omega) hl rfl) ((World.putObj_heap_other (by omega)).trans hd)
  ·refine ⟨v, .done, some c, rfl, by simp, hl, fun h => by (cases h), fun c' hc => ?_⟩
   cases hc
   exact hstop c pre _ hSp ((hIx c).putObj _ hi (by omega) hl rfl) ((World.putObj_heap_other (by omega)).trans hd)
end
end Go.Proofs.YtmebjdbkngehiaaGreatDoor
