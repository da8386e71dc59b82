/-
  Package nums: the iterator that goes through a number's bytes (bytes$1), as a contract for whatever loop body; the function value that lays a byte (Bytes$1). Conditions: as the theorems' own hypotheses say.
-/
import Derived.Test.YtmoghgmbpkpcfaaGreatDoorMgD
import Derived.Test.YtmoghgmbpkpcfaaGreatDoorMgB
namespace Go.Proofs.YtmoghgmbpkpcfaaGreatDoor
open Go.RowKit
attribute [local go_sem] Oper.semAt_some

theorem boxed_kept {W W' : World} {B : Nat} {t : TypeId} {v : Value} (h : Boxed W B t v) (hb : W'.heap[B]? = W.heap[B]?) : Boxed W' B t v := hb.trans h

theorem bytes_seq (w n : Nat) (hw : w ≤ 8) (hn : n ≤ 9223372036854775807) (Bw Bn : Nat) (m : Nat) :
    SeqM Fence.wide m Tryz.prog 81 #[.pointer (some ⟨Bw, 0, none⟩), .pointer (some ⟨Bn, 0, none⟩)] (fun i : Nat => #[.int .i64 (i : Int), .int .u8 (((n / 256 ^ i : Nat) : Int) % 256)])
      (fun A B => B.heap[Bn]? = A.heap[Bn]?) (fun A B => ∃ v, B = A.setCell ⟨Bn, 0, none⟩ v) (fun pre i => i = pre.length ∧ i < w) (fun xs => xs.length = w) (fun _ => True)
      (fun W => Boxed W Bw 3 (.int .i64 (w : Int)) ∧ Boxed W Bn 3 (.int .i64 (n : Int))) := by
  rintro l J Jx W ⟨hbw, hbn⟩ hJ hJx hY h0
  have cw := hbw.cell
  clear hbw
  refine callsIn_of_wp Tryz.func81 rfl trivial ?_ rfl
  simp only [Tryz.ntmps81, List.size_toArray, List.length_cons, List.length_nil, Nat.reduceAdd, Nat.reduceSub, Array.replicate_succ, Array.replicate_zero, List.push_toArray, List.append_toArray, List.nil_append, List.cons_append]
  refine wpIn_scope (wpIn_seq (wpIn_label ?_))
  gi_wp2
  gi_loopw [6] (fun i wr => ∃ k : Nat, k ≤ w ∧ i = .int .i64 (k : Int) ∧ J (List.range k) wr ∧ Boxed wr Bn 3 (.int .i64 ((n / 256 ^ k : Nat) : Int))) (fun i _ => w - (intOf i).toNat)
  case atStart => exact ⟨0, Nat.zero_le _, rfl, h0, by simpa using hbn⟩
  case round =>
    obtain ⟨k, hk, rfl, hJk, hbk⟩ := hrel
    have cn := hbk.cell
    have fn := hbk.frozen
    have hnk : n / 256 ^ k ≤ 9223372036854775807 := Nat.le_trans (Nat.div_le_self _ _) hn
    by_cases hlt : k < w
    · have hy0 := hY (List.range k) k wr hJk ⟨by simp, hlt⟩
      dsimp only at hy0
      have hnext : (n / 256 ^ k) / 256 = n / 256 ^ (k + 1) := by rw [Nat.div_div_eq_div_mul, Nat.pow_succ]
      have HN := Lib.hid hnext
      clear hnext
      generalize hq : n / 256 ^ k = q at hy0 hbk cn hnk HN
      have HQ := Lib.hid hq
      clear hq
      obtain ⟨fnn, tmps, assign, body, hy, hR⟩ := hy0
      gi_wp2
      refine ⟨fun hd => (by cases hd), hR.mono ?_⟩
      rintro e W3 (⟨rfl, hJ3, hk3⟩ | ⟨rfl, hJx3⟩)
      · have hb3 := boxed_kept hbk hk3
        have cn3 := hb3.cell
        have fn3 := hb3.frozen
        gi_wp2
        go_roundw
        case rel =>
          refine ⟨k + 1, by omega, by go_num, ?_, ?_⟩
          · rw [List.range_succ]
            exact hJ _ _ _ hJ3 ⟨_, rfl⟩
          · have e2 : ((n / 256 ^ (k + 1) : Nat) : Int) = (q : Int) / 256 := by rw [← HN.out]; rfl
            rw [e2]
            exact hb3.set _
        case measure => simp [intOf]; omega
      · gi_wp2
        simp only [Exit.noGoto]
        go_end0
        exact ⟨⟨_, rfl⟩, .inr ⟨_, trivial, hJx3⟩⟩
    · gi_wp2
      simp only [Exit.noGoto]
      go_end0
      obtain rfl : k = w := by omega
      exact ⟨⟨_, rfl⟩, .inl ⟨List.range k, by simp, hJk⟩⟩


/-- 'lay': a byte is stored into a row of the call's own. -/
theorem lay_any (g Bo Bw : Nat) (w : Nat) (hw : w ≤ 8) (i : Nat) (hi : i < w) (b : Int) (W : World) (xs : List Value) (base : Nat)
    (hr : W.ownsRow base 5 1 (.slice (some ⟨g, 0, none⟩) w w) w xs) (hbo : Boxed W Bo 40 (.slice (some ⟨g, 0, none⟩) w w)) (hbw : Boxed W Bw 3 (.int .i64 (w : Int))) :
    Calls Tryz.prog 73 #[.int .i64 (i : Int), .int .u8 b, .pointer (some ⟨Bo, 0, none⟩), .pointer (some ⟨Bw, 0, none⟩)] W
      fun e W' => e = .returned (.tuple #[]) ∧ W' = W.setCell ⟨g, w - 1 - i, none⟩ (.int .u8 b) := by
  have c1 := hbo.cell
  have c2 := hbw.cell
  have hxl := hr.1
  have hc := hr.cellAt (w - 1 - i) (by omega)
  have hf := hr.frozenAt (w - 1 - i)
  rw [List.getElem?_eq_getElem (by omega)] at hc
  have e1 : ((w : Int) - 1 - (i : Int)).toNat = w - 1 - i := by omega
  have E1 := Lib.hid e1
  clear e1 hr hbo hbw
  go_enter Tryz.func73, Tryz.ntmps73
  go_wp2
  go_end0
  exact ⟨rfl, rfl⟩

end Go.Proofs.YtmoghgmbpkpcfaaGreatDoor
