/-
  Package postriderref13 (the document's answer for signs): the walks of its functions, each as a contract. Conditions: as the theorems' own hypotheses say.
-/
import Derived.Test.YtinflolpcemnhaaDoorSignsH
import Derived.Test.YtinflolpcemnhaaDoorSignsF
import Derived.Test.YtinflolpcemnhaaDoorSignsG
namespace Go.Proofs.YtinflolpcemnhaaDoor
open Go.RowKit

theorem rAmong_any (s all : Int) (w : World) : Calls Tryd.prog 33 #[.int .i64 s, .int .i64 all] w (Pure (.bool (isInB s all)) w) := by
  by_cases h : 0 ≤ s
  · go_enter Tryd.func33, Tryd.ntmps33
    go_wp2
    go_ret
    exact ⟨by simp [isInB, h], rfl⟩
  · have h' : decide (0 ≤ s) = false := by simp; omega
    have HH := Lib.hid h'
    clear h'
    go_enter Tryd.func33, Tryd.ntmps33
    go_wp2
    go_ret
    exact ⟨by rw [isInB, HH.out]; rfl, rfl⟩

/-- The document's six. -/
def rsixB (f : Int) : Bool := isInB f 508351 && decide (f / 128 % 4 < 3)
theorem rsix_any (f : Int) (w : World) (hf2 : f ≤ 9223372036854775807) : Calls Tryd.prog 32 #[.int .i64 f] w (Pure (.bool (rsixB f)) w) := by
  rcases bool_cases (isInB f 508351) with hi | hi
  · have HS := Lib.hid (show false = rsixB f by rw [rsixB, hi]; rfl)
    have HI := Lib.hid hi
    clear hi
    go_enter Tryd.func32, Tryd.ntmps32
    go_wp2_with fail
    refine (rAmong_any f 508351 _).mono ?_
    rintro e w1 ⟨rfl, rfl⟩
    rw [HI.out]
    go_wp2_with fail
    go_ret
    exact ⟨by rw [← HS.out]; rfl, rfl⟩
  · have hf0 : 0 ≤ f := by
      rw [isInB, Bool.and_eq_true, decide_eq_true_eq] at hi; exact hi.1
    have HS := Lib.hid (show decide (f / 128 % 4 < 3) = rsixB f by rw [rsixB, hi]; rfl)
    have HI := Lib.hid hi
    clear hi
    go_enter Tryd.func32, Tryd.ntmps32
    go_wp2_with fail
    refine (rAmong_any f 508351 _).mono ?_
    rintro e w1 ⟨rfl, rfl⟩
    rw [HI.out]
    go_wp2_with fail
    go_ret
    exact ⟨by rw [← HS.out]; try rfl, rfl⟩

/-- The document's Up, Down, MarkUp, MarkDown, Millis, Seconds, Class. -/
def rUp (f : Int) : Int × Int := if rsixB f then (if bits .and .i64 f 32768 != 0 then (0, 131) else (if bits .and .i64 f 16 == 0 then (0, 132) else (if bits .and .i64 f 475136 != 0 then (wrap64 (bits .and .i64 f 475175 + 64), 0) else (bits .and .i64 f 475175, 0)))) else (0, 2)
theorem rUp_any (f : Int) (w : World) (hf2 : f ≤ 9223372036854775807) : Calls Tryd.prog 15 #[.int .i64 f] w (Pure (.tuple #[.int .i64 (rUp f).1, .int .i64 (rUp f).2]) w) := by
  have hR : rUp f = if rsixB f then (if bits .and .i64 f 32768 != 0 then (0, 131) else (if bits .and .i64 f 16 == 0 then (0, 132) else (if bits .and .i64 f 475136 != 0 then (wrap64 (bits .and .i64 f 475175 + 64), 0) else (bits .and .i64 f 475175, 0)))) else (0, 2) := rfl
  generalize rUp f = r at hR ⊢
  rcases bool_cases (rsixB f) with h0 | h0 <;>
  rcases bool_cases (bits .and .i64 f 32768 != 0) with h1 | h1 <;>
  rcases bool_cases (bits .and .i64 f 16 == 0) with h2 | h2 <;>
  rcases bool_cases (bits .and .i64 f 475136 != 0) with h3 | h3
  all_goals
    simp only [h0, h1, h2, h3, Bool.false_eq_true, if_false, if_true, Bool.or_true, Bool.or_false, Bool.true_or, Bool.false_or, Bool.not_true, Bool.not_false] at hR
    have HR := Lib.hid hR
    clear hR
    go_enter Tryd.func15, Tryd.ntmps15
    go_wp2_with fail
    refine (rsix_any f w hf2).mono ?_
    rintro e w1 ⟨rfl, rfl⟩
    try simp only [h0]
    go_wp2_with fail
    go_ret2
    exact ⟨by rw [HR.out]; rfl, rfl⟩

def rDown (f p : Int) (c : Bool) : Int × Int := if !isInB f 475239 || decide (p < 0) || decide (2 < p) then (0, 2) else (if (bits .and .i64 f 64 != 0) == (bits .and .i64 f 475136 != 0) then (if c then (wrap64 (wrap64 (wrap64 (bits .and .i64 f 475175 + 16) + wrap64 (p * 128)) + 8), 0) else (wrap64 (wrap64 (bits .and .i64 f 475175 + 16) + wrap64 (p * 128)), 0)) else (0, 133))
theorem rDown_any (f p : Int) (c : Bool) (w : World) (hp1 : -9223372036854775808 ≤ p) (hp2 : p ≤ 9223372036854775807) : Calls Tryd.prog 16 #[.int .i64 f, .int .i64 p, .bool c] w (Pure (.tuple #[.int .i64 (rDown f p c).1, .int .i64 (rDown f p c).2]) w) := by
  have hR : rDown f p c = if !isInB f 475239 || decide (p < 0) || decide (2 < p) then (0, 2) else (if (bits .and .i64 f 64 != 0) == (bits .and .i64 f 475136 != 0) then (if c then (wrap64 (wrap64 (wrap64 (bits .and .i64 f 475175 + 16) + wrap64 (p * 128)) + 8), 0) else (wrap64 (wrap64 (bits .and .i64 f 475175 + 16) + wrap64 (p * 128)), 0)) else (0, 133)) := rfl
  generalize rDown f p c = r at hR ⊢
  rcases bool_cases (isInB f 475239) with h0 | h0 <;>
  rcases bool_cases (decide (p < 0)) with h1 | h1 <;>
  rcases bool_cases (decide (2 < p)) with h2 | h2 <;>
  rcases bool_cases ((bits .and .i64 f 64 != 0) == (bits .and .i64 f 475136 != 0)) with h3 | h3 <;>
  cases c
  all_goals
    simp only [h0, h1, h2, h3, Bool.false_eq_true, if_false, if_true, Bool.or_true, Bool.or_false, Bool.true_or, Bool.false_or, Bool.not_true, Bool.not_false] at hR
    have HR := Lib.hid hR
    clear hR
    go_enter Tryd.func16, Tryd.ntmps16
    go_wp2_with fail
    refine (rAmong_any f 475239 w).mono ?_
    rintro e w1 ⟨rfl, rfl⟩
    try simp only [h0]
    go_wp2_with fail
    go_ret2
    exact ⟨by rw [HR.out]; rfl, rfl⟩

def rMarkUp (f : Int) : Int × Int := if isInB f 127 then (if bits .and .i64 f 32 != 0 then (0, 134) else (if bits .and .i64 f 64 != 0 then (0, 135) else (bits .and .i64 f 23, 0))) else (0, 2)
theorem rMarkUp_any (f : Int) (w : World) : Calls Tryd.prog 20 #[.int .i64 f] w (Pure (.tuple #[.int .i64 (rMarkUp f).1, .int .i64 (rMarkUp f).2]) w) := by
  have hR : rMarkUp f = if isInB f 127 then (if bits .and .i64 f 32 != 0 then (0, 134) else (if bits .and .i64 f 64 != 0 then (0, 135) else (bits .and .i64 f 23, 0))) else (0, 2) := rfl
  generalize rMarkUp f = r at hR ⊢
  rcases bool_cases (isInB f 127) with h0 | h0 <;>
  rcases bool_cases (bits .and .i64 f 32 != 0) with h1 | h1 <;>
  rcases bool_cases (bits .and .i64 f 64 != 0) with h2 | h2
  all_goals
    simp only [h0, h1, h2, Bool.false_eq_true, if_false, if_true, Bool.or_true, Bool.or_false, Bool.true_or, Bool.false_or, Bool.not_true, Bool.not_false] at hR
    have HR := Lib.hid hR
    clear hR
    go_enter Tryd.func20, Tryd.ntmps20
    go_wp2_with fail
    refine (rAmong_any f 127 w).mono ?_
    rintro e w1 ⟨rfl, rfl⟩
    try simp only [h0]
    go_wp2_with fail
    go_ret2
    exact ⟨by rw [HR.out]; rfl, rfl⟩

def rMarkDown (f : Int) (c : Bool) : Int × Int := if isInB f 23 then (if c then (wrap64 (f + 8), 0) else (f, 0)) else (0, 2)
theorem rMarkDown_any (f : Int) (c : Bool) (w : World) : Calls Tryd.prog 22 #[.int .i64 f, .bool c] w (Pure (.tuple #[.int .i64 (rMarkDown f c).1, .int .i64 (rMarkDown f c).2]) w) := by
  have hR : rMarkDown f c = if isInB f 23 then (if c then (wrap64 (f + 8), 0) else (f, 0)) else (0, 2) := rfl
  generalize rMarkDown f c = r at hR ⊢
  rcases bool_cases (isInB f 23) with h0 | h0 <;>
  cases c
  all_goals
    simp only [h0, Bool.false_eq_true, if_false, if_true, Bool.or_true, Bool.or_false, Bool.true_or, Bool.false_or, Bool.not_true, Bool.not_false] at hR
    have HR := Lib.hid hR
    clear hR
    go_enter Tryd.func22, Tryd.ntmps22
    go_wp2_with fail
    refine (rAmong_any f 23 w).mono ?_
    rintro e w1 ⟨rfl, rfl⟩
    try simp only [h0]
    go_wp2_with fail
    go_ret2
    exact ⟨by rw [HR.out]; rfl, rfl⟩

def rMillis (n : Int) : Int × Int := if decide (n < 0) || decide (281474976710 < n) then (0, 10) else (wrap64 (1000 * n), 0)
theorem rMillis_any (n : Int) (w : World) : Calls Tryd.prog 23 #[.int .i64 n] w (Pure (.tuple #[.int .i64 (rMillis n).1, .int .i64 (rMillis n).2]) w) := by
  have hR : rMillis n = if decide (n < 0) || decide (281474976710 < n) then (0, 10) else (wrap64 (1000 * n), 0) := rfl
  generalize rMillis n = r at hR ⊢
  rcases bool_cases (decide (n < 0)) with h0 | h0 <;>
  rcases bool_cases (decide (281474976710 < n)) with h1 | h1
  all_goals
    simp only [h0, h1, Bool.false_eq_true, if_false, if_true, Bool.or_true, Bool.or_false, Bool.true_or, Bool.false_or, Bool.not_true, Bool.not_false] at hR
    have HR := Lib.hid hR
    clear hR
    go_enter Tryd.func23, Tryd.ntmps23
    go_wp2_with fail
    go_ret2
    exact ⟨by rw [HR.out]; rfl, rfl⟩

def rSeconds (n : Int) : Int × Int := if okNum n then (if n.tmod 1000 != 0 then (0, 136) else (n.tdiv 1000, 0)) else (0, 10)
theorem rSeconds_any (n : Int) (w : World) (hn1 : -9223372036854775808 ≤ n) (hn2 : n ≤ 9223372036854775807) : Calls Tryd.prog 24 #[.int .i64 n] w (Pure (.tuple #[.int .i64 (rSeconds n).1, .int .i64 (rSeconds n).2]) w) := by
  have hR : rSeconds n = if okNum n then (if n.tmod 1000 != 0 then (0, 136) else (n.tdiv 1000, 0)) else (0, 10) := rfl
  generalize rSeconds n = r at hR ⊢
  rcases bool_cases (okNum n) with h0 | h0 <;>
  rcases bool_cases (n.tmod 1000 != 0) with h1 | h1
  all_goals
    simp only [h0, h1, Bool.false_eq_true, if_false, if_true, Bool.or_true, Bool.or_false, Bool.true_or, Bool.false_or, Bool.not_true, Bool.not_false] at hR
    have HR := Lib.hid hR
    clear hR
    go_enter Tryd.func24, Tryd.ntmps24
    go_wp2_with fail
    refine (rRight_any n w).mono ?_
    rintro e w1 ⟨rfl, rfl⟩
    try simp only [h0]
    go_wp2_with fail
    go_ret2
    exact ⟨by rw [HR.out]; rfl, rfl⟩

def rClass (f : Int) : Int × Bool × Int := if rsixB f then (f / 128 % 4, bits .and .i64 f 8 != 0, 0) else (0, false, 2)
theorem rClass_any (f : Int) (w : World) (hf2 : f ≤ 9223372036854775807) : Calls Tryd.prog 18 #[.int .i64 f] w
    (Pure (.tuple #[.int .i64 (rClass f).1, .bool (rClass f).2.1, .int .i64 (rClass f).2.2]) w) := by
  have hR : rClass f = if rsixB f then (f / 128 % 4, bits .and .i64 f 8 != 0, 0) else (0, false, 2) := rfl
  rcases bool_cases (rsixB f) with h0 | h0
  · simp only [h0, Bool.false_eq_true, if_false] at hR
    have HR := Lib.hid hR
    clear hR
    go_enter Tryd.func18, Tryd.ntmps18
    go_wp2_with fail
    refine (rsix_any f w hf2).mono ?_
    rintro e w1 ⟨rfl, rfl⟩
    try simp only [h0]
    go_wp2_with fail
    refine bodyPost_ret (v := .tuple #[.int .i64 0, .bool false, .int .i64 2]) ?_ rfl ⟨by rw [HR.out], rfl⟩
    simp [results, Tryd.results18, go_sem]
  · have hf0 : 0 ≤ f := by
      have h1 := h0
      rw [rsixB, isInB, Bool.and_eq_true, Bool.and_eq_true, decide_eq_true_eq] at h1; exact h1.1.1
    simp only [h0, if_true] at hR
    have HR := Lib.hid hR
    clear hR
    go_enter Tryd.func18, Tryd.ntmps18
    go_wp2_with fail
    refine (rsix_any f w hf2).mono ?_
    rintro e w1 ⟨rfl, rfl⟩
    try simp only [h0]
    go_wp2_with fail
    refine bodyPost_ret (v := .tuple #[.int .i64 (f / 128 % 4), .bool (bits .and .i64 f 8 != 0), .int .i64 0]) ?_ rfl ⟨by rw [HR.out], rfl⟩
    simp [results, Tryd.results18, go_sem]

end Go.Proofs.YtinflolpcemnhaaDoor
