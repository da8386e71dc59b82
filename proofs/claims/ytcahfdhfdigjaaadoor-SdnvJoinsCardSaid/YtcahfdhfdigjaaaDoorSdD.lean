/-
  Package sdnv: a number's groups, gone through (groups); and regions of a round of a range over a function, met as outside one. Conditions: as the theorems' own hypotheses say.
-/
import Derived.Test.YtcahfdhfdigjaaaDoorSdC
import Derived.Test.YtcahfdhfdigjaaaDoorRng3
import Derived.OrdersIn
namespace Go.Proofs.YtcahfdhfdigjaaaDoor
open Go.RowKit

/-- An operation that is no defer statement. -/
def noDefer (o : Oper) : Bool := match o.op with
  | .defer _ => false
  | _ => true
theorem noDefer_ne {o : Oper} (h : noDefer o = true) : ∀ c, o.op ≠ .defer c := fun c e => by
  rw [noDefer, e] at h; cases h

section
variable {l n : Nat} {P : Program} {ops : Array Oper} {Q : Exit → Act → World → Prop} {a : Act} {w : World}

theorem round_op {o : Oper} {K : Act → World → Prop} (hQ : ¬ LetsOut Q) (hd : noDefer o = true) (h : o.wp P a w K Q) : o.wpIn (Fence.wide.inRound l) n P a w K Q := by
  refine ⟨fun _ _ => trivial, ?_⟩
  rw [show o.semAt (Fence.wide.inRound l).round a.eval = execOp a.eval o from Oper.semAt_eq _ _ _ (noDefer_ne hd)]
  unfold Oper.wp at h
  generalize (execOp a.eval o).run P w = r at h ⊢
  cases r with
  | ok x w' =>
    cases x with
    | value v => exact h
    | skip => exact h
    | defer d => exact h
    | enter f args => exact ⟨fun h => (by cases h), CallsIn.inRound l (callsIn_wide.2 h)⟩
    | row row args => exact ⟨fun h => (by cases h), fun c cs _ => let ⟨v, w', r, s⟩ := h c cs; ⟨v, w', r, stepsIn_wide.2 s⟩⟩
    | _ => exact (h : False).elim
  | halt x w' => cases x <;> exact h

theorem round_list (L : List Oper) (hQ : ¬ LetsOut Q) (hd : L.all noDefer = true) : ∀ {a : Act} {w : World}, wpList P ops Q L a w → wpListIn (Fence.wide.inRound l) n P ops Q L a w := by
  induction L with
  | nil => intro a w h; exact h
  | cons o rest ih =>
    intro a w h
    rw [List.all_cons, Bool.and_eq_true] at hd
    unfold wpList at h
    unfold wpListIn
    split
    · rename_i hw
      rw [if_pos hw] at h
      rcases h with h | h
      · exact Oper.wpIn_mono (fun a w => ih hd.2) (round_op hQ hd.1 h)
      · exact absurd h.2 hQ
    · rename_i hw
      rw [if_neg hw] at h
      exact ⟨fun _ _ => trivial, ih hd.2 h⟩

/-- A region of a round, as outside one. -/
theorem round_region {id : Nat} {L : List Oper} (hQ : ¬ LetsOut Q) (hd : L.all noDefer = true) (h : wpList P L.toArray Q L a w) : (Code.region id L.toArray false).wpIn (Fence.wide.inRound l) n P Q a w :=
  wpIn_region_lit (round_list L hQ hd h)

theorem round_any (hQ : ¬ LetsOut Q) (hd : ∀ (i : Nat) (o : Oper), ops[i]? = some o → noDefer o = true) : ∀ (fuel : Nat) (listed : Array Bool) (a : Act) (w : World), wpAny P .any ops Q fuel listed a w → wpAnyIn (Fence.wide.inRound l) n P .any ops Q fuel listed a w
  | 0, _, _, _, h => h
  | fuel + 1, listed, a, w, h => ⟨h.1, fun i hi => by
    have hi := h.2 i hi
    unfold wpOp at hi
    unfold wpOpIn
    cases ho : ops[i]? with
    | none => rw [ho] at hi; exact round_any hQ hd fuel _ _ _ hi
    | some o =>
      rw [ho] at hi
      dsimp only at hi ⊢
      split
      · rename_i hw
        rw [if_pos hw] at hi
        rcases hi with hi | hi
        · exact Oper.wpIn_mono (fun a w => round_any hQ hd fuel _ a w) (round_op hQ (hd i o ho) hi)
        · exact absurd hi.2 hQ
      · rename_i hw
        rw [if_neg hw] at hi
        exact ⟨fun _ _ => trivial, round_any hQ hd fuel _ _ _ hi⟩⟩

/-- A region of a round that draws its order, as outside one. -/
theorem round_held {id : Nat} {S : World → Prop} (hm : P.follows .mixedOrders = true) (hQ : ¬ LetsOut Q) (hd : ops.toList.all noDefer = true) (hS : S w.drew)
    (h : S w.drew → wpAnyH P .any ops Q S ops.size (Array.replicate ops.size false) a w.drew) : (Code.region id ops true).wpIn (Fence.wide.inRound l) n P Q a w :=
  wpIn_region_any hm (round_any hQ (fun i o ho => by
    have := List.all_eq_true.1 hd o
    exact this (by rw [Array.mem_toList_iff]; exact Array.mem_of_getElem? ho)) _ _ _ _ (wpAny_of_held _ _ _ _ (h hS)))
/-- At a step of a region: the operation's run is known. -/
theorem step_run {o : Oper} {K : Act → World → Prop} {E : Prop} {v : Value} {w' : World} (hgd : o.guard = none) (hr : (execOp a.eval o).run P w = .ok (.value v) w') (h : K (a.put o.dst v) w') :
    if Region.wanted o (yielded ops a.tmps) = true then Oper.wp P o a w K Q else E := by
  have hw : Region.wanted o (yielded ops a.tmps) = true := by simp [Region.wanted, hgd]
  rw [if_pos hw]
  unfold Oper.wp
  rw [hr]
  exact h
end

/-- The groups ahead of the last one, the least part first. -/
def upL : Nat → Nat → List UInt8
  | 0, _ => []
  | k + 1, n => if n = 0 then [] else UInt8.ofNat (128 + n % 128) :: upL k (n / 128)
theorem upL_tops (k n : Nat) : (upL k n).reverse = tops k n := by
  induction k generalizing n with
  | zero => rfl
  | succ k ih =>
    rw [upL, tops]
    by_cases h : n = 0
    · rw [if_pos h, if_pos h]; rfl
    · rw [if_neg h, if_neg h, List.reverse_cons, ih]
/-- All of them, the least part first. -/
def grL (n : Nat) : List UInt8 := UInt8.ofNat (n % 128) :: upL 9 (n / 128)
theorem grL_sdL (n : Nat) : (grL n).reverse = sdL n := by rw [grL, List.reverse_cons, upL_tops, sdL]

theorem or_mark (m k : Nat) (hk : k = 0 ∨ k = 128) : bits .or .u8 ((m % 128 : Nat) : Int) (k : Int) = ((k + m % 128 : Nat) : Int) := by
  have hm : m % 128 < 128 := Nat.mod_lt _ (by omega)
  generalize m % 128 = x at hm
  rcases hk with rfl | rfl
  · have : ∀ y : Fin 128, bits .or .u8 (((y : Nat)) : Int) ((0 : Nat) : Int) = ((0 + (y : Nat) : Nat) : Int) := by decide
    exact this ⟨x, hm⟩
  · have : ∀ y : Fin 128, bits .or .u8 (((y : Nat)) : Int) ((128 : Nat) : Int) = ((128 + (y : Nat) : Nat) : Int) := by decide
    exact this ⟨x, hm⟩

theorem boxed_kept' {W W' : World} {B : Nat} {t : TypeId} {v : Value} (h : Boxed W B t v) (hb : W'.heap[B]? = W.heap[B]?) : Boxed W' B t v := hb.trans h

set_option maxRecDepth 100000 in
theorem groups_seq (n : Nat) (hn : n ≤ 281474976710655) (Bn : Nat) (m : Nat) :
    SeqM Fence.wide m Tryd.prog 39 #[.pointer (some ⟨Bn, 0, none⟩)] (fun b : UInt8 => #[.int .u8 (b.toNat : Int)])
      (fun A B => B.heap[Bn]? = A.heap[Bn]?) (fun A B => ∃ v, B = A.setCell ⟨Bn, 0, none⟩ v) (fun pre x => ∃ t, grL n = pre ++ x :: t) (fun xs => xs = grL n) (fun _ => True)
      (fun W => Boxed W Bn 3 (.int .i64 (n : Int))) := by
  rintro l J Jx W hbn hJ hJx hY h0
  refine callsIn_of_wp Tryd.func39 rfl trivial ?_ rfl
  simp only [Tryd.ntmps39, List.size_toArray, List.length_cons, List.length_nil, Nat.reduceAdd, Nat.reduceSub, Array.replicate_succ, Array.replicate_zero, List.push_toArray, List.append_toArray, List.nil_append, List.cons_append]
  refine wpIn_scope ?_
  gi_wp2
  refine wpIn_label ?_
  gi_wp2
  gi_loopw [3] (fun u wr => ∃ (pre : List UInt8) (q f k : Nat), u = .int .u8 (k : Int) ∧ (k = 0 ∨ k = 128) ∧ q ≤ 281474976710655 ∧ q / 128 < 128 ^ f ∧ grL n = pre ++ UInt8.ofNat (k + q % 128) :: upL f (q / 128) ∧ J pre wr ∧ Boxed wr Bn 3 (.int .i64 (q : Int))) (fun _ wr => (intOf ((wr.cell? ⟨Bn, 0, none⟩).getD .nilIface)).toNat)
  case atStart => exact ⟨[], n, 9, 0, rfl, .inl rfl, hn, by omega, by simp [grL], h0, hbn⟩
  case round =>
    obtain ⟨pre, q, f, k, rfl, hk, hq, hf, hL, hJk, hbk⟩ := hrel
    have cn := hbk.cell
    have fn := hbk.frozen
    have hy0 := hY pre _ wr hJk ⟨_, hL⟩
    have hx : (UInt8.ofNat (k + q % 128)).toNat = k + q % 128 := UInt8.toNat_ofNat_of_lt' (by show _ < 256; omega)
    dsimp only at hy0
    rw [hx, ← or_mark q k hk, show ((q % 128 : Nat) : Int) = (q : Int) % 128 by omega] at hy0
    obtain ⟨fnn, tmps, assign, body, hy, hR⟩ := hy0
    gi_wp2
    refine ⟨fun hd => (by cases hd), hR.mono ?_⟩
    rintro e W3 (⟨rfl, hJ3, hk3⟩ | ⟨rfl, hJx3⟩)
    · have hb3 := boxed_kept' hbk hk3
      have cn3 := hb3.cell
      have fn3 := hb3.frozen
      have hJ4 := hJ _ _ _ hJ3 ⟨.int .i64 ((q : Int) / 128), rfl⟩
      have hb4 := hb3.set (.int .i64 ((q : Int) / 128))
      have hc4 := hb4.cell
      by_cases h0 : q / 128 = 0
      · have hz : ((q : Int) / 128 == 0) = true := by simp; omega
        have hz' : (q : Int) / 128 = 0 := by omega
        gi_wp2
        simp only [Exit.noGoto]
        go_end0
        have hL0 : upL f (q / 128) = [] := by rw [h0]; cases f <;> simp [upL]
        exact ⟨⟨_, rfl⟩, .inl ⟨pre ++ [UInt8.ofNat (k + q % 128)], by rw [hL, hL0], hJ _ _ _ hJ3 ⟨_, rfl⟩⟩⟩
      · have hz : ((q : Int) / 128 == 0) = false := by simp; omega
        have hz' : ¬ (q : Int) / 128 = 0 := by omega
        gi_wp2
        obtain ⟨f', rfl⟩ : ∃ f', f = f' + 1 := ⟨f - 1, by
          cases f with
          | zero => simp at hf; omega
          | succ f => rfl⟩
        have hq2 : ((q / 128 : Nat) : Int) = (q : Int) / 128 := by omega
        refine ⟨⟨pre ++ [UInt8.ofNat (k + q % 128)], q / 128, f', 128, rfl, .inr rfl, by omega, by rw [Nat.pow_succ] at hf; omega, ?_, hJ4, by rw [hq2]; exact hb4⟩, ?_⟩
        · rw [hL, upL, if_neg h0]; simp
        · rw [hc4, cn]
          simp [intOf]
          omega
    · gi_wp2
      simp only [Exit.noGoto]
      go_end0
      exact ⟨⟨_, rfl⟩, .inr ⟨_, trivial, hJx3⟩⟩

end Go.Proofs.YtcahfdhfdigjaaaDoor
