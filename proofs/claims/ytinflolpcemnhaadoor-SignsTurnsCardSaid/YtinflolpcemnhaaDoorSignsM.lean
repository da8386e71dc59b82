/-
  Package signs, marks and times: what the program tells is what the document's answer tells: by definition, no program. No condition.
-/
import Derived.Test.YtinflolpcemnhaaDoorSignsQ
namespace Go.Proofs.YtinflolpcemnhaaDoor
open Go.RowKit

theorem MarkUp_ref (f : Int) (hf : f ≤ 9223372036854775807) : toldV (gam f) (upmE f) = (rMarkUp f).1 ∧ codeIx (upmE f) = (rMarkUp f).2 := by
  rcases bool_cases (isInB f 127) with h1 | h1
  · have e : upmE f = some 0 := by rw [upmE, h1]; rfl
    rw [e, rMarkUp, h1]; exact ⟨rfl, rfl⟩
  rcases bool_cases (bits .and .i64 f 32 != 0) with h2 | h2
  · rcases bool_cases (bits .and .i64 f 64 != 0) with h3 | h3
    · have e : upmE f = none := by rw [upmE, h1, h2, h3]; rfl
      obtain ⟨n, rfl, k1, k2⟩ := isIn_cases f 127 hf (by decide) h1
      have hg := gam_nat n (by omega)
      have ha : bits .and .i64 (n : Int) 23 = ((n &&& 23 : Nat) : Int) := andN n 23 (by omega) (by decide)
      rw [e, rMarkUp, h1, h2, h3, hg, ha]; exact ⟨rfl, rfl⟩
    · have e : upmE f = some 6 := by rw [upmE, h1, h2, h3]; rfl
      rw [e, rMarkUp, h1, h2, h3]; exact ⟨rfl, rfl⟩
  · have e : upmE f = some 5 := by rw [upmE, h1, h2]; rfl
    rw [e, rMarkUp, h1, h2]; exact ⟨rfl, rfl⟩

theorem or8_all : (List.range 24).all (fun n => !isInN n 23 || ((n ||| 8) == n + 8)) = true := by kernel_rfl

theorem MarkDown_ref (f : Int) (c : Bool) (hf : f ≤ 9223372036854775807) :
    toldV (match c with | true => bits .or .i64 (gam f) 8 | false => gam f) (dnmE f) = (rMarkDown f c).1 ∧ codeIx (dnmE f) = (rMarkDown f c).2 := by
  rcases bool_cases (isInB f 23) with h1 | h1
  · have e : dnmE f = some 0 := by rw [dnmE, h1]; rfl
    rw [e, rMarkDown, h1]; cases c <;> exact ⟨rfl, rfl⟩
  have e : dnmE f = none := by rw [dnmE, h1]; rfl
  obtain ⟨n, rfl, k1, k2⟩ := isIn_cases f 23 hf (by decide) h1
  have hg := gam_nat n (by omega)
  rw [k1] at hg
  have hk := List.all_eq_true.1 or8_all n (List.mem_range.2 (by omega))
  have hin : isInN n 23 = true := by rw [isInN, k1]; simp
  rw [hin] at hk
  have hk' : n ||| 8 = n + 8 := by simpa using hk
  have ho : bits .or .i64 (n : Int) 8 = ((n ||| 8 : Nat) : Int) := orN n 8 (by omega) (by decide)
  rw [e, rMarkDown, h1, hg]
  refine ⟨?_, by cases c <;> rfl⟩
  cases c
  · rfl
  · show bits .or .i64 (n : Int) 8 = wrap64 ((n : Int) + 8)
    rw [ho, hk', IntWalk.wrap64_in _ ⟨by omega, by omega⟩]
    omega

theorem Millis_cases (n : Int) : (0 ≤ n ∧ n ≤ 281474976710 ∧ toldV (wrap64 (n * 1000)) (milE n) = n * 1000 ∧ codeIx (milE n) = 0) ∨ (¬ (0 ≤ n ∧ n ≤ 281474976710) ∧ toldV (wrap64 (n * 1000)) (milE n) = 0 ∧ codeIx (milE n) = 10) := by
  by_cases h0 : 0 ≤ n
  · by_cases h1 : n ≤ 281474976710
    · have e : milE n = none := by rw [milE, decide_eq_true h0, decide_eq_true h1]; rfl
      rw [e]
      refine .inl ⟨h0, h1, ?_, rfl⟩
      show wrap64 (n * 1000) = n * 1000
      exact IntWalk.wrap64_in _ ⟨by omega, by omega⟩
    · have e : milE n = some 1 := by rw [milE, decide_eq_true h0, decide_eq_false h1]; rfl
      rw [e]; exact .inr ⟨fun h => h1 h.2, rfl, rfl⟩
  · have e : milE n = some 1 := by rw [milE, decide_eq_false h0]; rfl
    rw [e]; exact .inr ⟨fun h => h0 h.1, rfl, rfl⟩
theorem Millis_ref (n : Int) : toldV (wrap64 (n * 1000)) (milE n) = (rMillis n).1 ∧ codeIx (milE n) = (rMillis n).2 := by
  rcases Millis_cases n with ⟨h0, h1, h2, h3⟩ | ⟨h0, h2, h3⟩
  · rw [h2, h3, rMillis, decide_eq_false (show ¬ n < 0 by omega), decide_eq_false (show ¬ 281474976710 < n by omega)]
    refine ⟨?_, rfl⟩
    show n * 1000 = wrap64 (1000 * n)
    rw [IntWalk.wrap64_in _ ⟨by omega, by omega⟩]; omega
  · rw [h2, h3, rMillis]
    by_cases h4 : n < 0
    · rw [decide_eq_true h4]; exact ⟨rfl, rfl⟩
    · rw [decide_eq_true (show 281474976710 < n by omega), Bool.or_true]; exact ⟨rfl, rfl⟩

theorem Seconds_cases (n : Int) : (okNum n = true ∧ (n.tmod 1000 == 0) = true ∧ toldV (n.tdiv 1000) (secE n) = n.tdiv 1000 ∧ codeIx (secE n) = 0)
    ∨ (okNum n = true ∧ (n.tmod 1000 == 0) = false ∧ toldV (n.tdiv 1000) (secE n) = 0 ∧ codeIx (secE n) = 136) ∨ (okNum n = false ∧ toldV (n.tdiv 1000) (secE n) = 0 ∧ codeIx (secE n) = 10) := by
  rcases bool_cases (okNum n) with h | h
  · have e : secE n = some 1 := by rw [secE, h]; rfl
    rw [e]; exact .inr (.inr ⟨h, rfl, rfl⟩)
  · rcases bool_cases (n.tmod 1000 == 0) with k | k
    · have e : secE n = some 7 := by rw [secE, h, k]; rfl
      rw [e]; exact .inr (.inl ⟨h, k, rfl, rfl⟩)
    · have e : secE n = none := by rw [secE, h, k]; rfl
      rw [e]; exact .inl ⟨h, k, rfl, rfl⟩
theorem Seconds_ref (n : Int) : toldV (n.tdiv 1000) (secE n) = (rSeconds n).1 ∧ codeIx (secE n) = (rSeconds n).2 := by
  rcases Seconds_cases n with ⟨h0, h1, h2, h3⟩ | ⟨h0, h1, h2, h3⟩ | ⟨h0, h2, h3⟩
  · have h1' : (n.tmod 1000 != 0) = false := by rw [bne, h1]; rfl
    rw [h2, h3, rSeconds, h0, h1']; exact ⟨rfl, rfl⟩
  · have h1' : (n.tmod 1000 != 0) = true := by rw [bne, h1]; rfl
    rw [h2, h3, rSeconds, h0, h1']; exact ⟨rfl, rfl⟩
  · rw [h2, h3, rSeconds, h0]; exact ⟨rfl, rfl⟩

end Go.Proofs.YtinflolpcemnhaaDoor
