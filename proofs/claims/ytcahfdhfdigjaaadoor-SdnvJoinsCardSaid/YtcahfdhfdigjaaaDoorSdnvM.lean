/-
  Numbers in as many bytes as they need: plain naturals and lists, no program. No condition.
-/
import Derived.WalkKit
namespace Go.Proofs.YtcahfdhfdigjaaaDoor

theorem sd_snoc_ind {α : Type} {C : List α → Prop} (h0 : C []) (hs : ∀ l a, C l → C (l ++ [a])) : ∀ l, C l := by
  intro l
  have : ∀ r : List α, C r.reverse := by
    intro r
    induction r with
    | nil => exact h0
    | cons a r ih => rw [List.reverse_cons]; exact hs _ _ ih
  have := this l.reverse
  rwa [List.reverse_reverse] at this

/-- The number that groups tell. -/
def v7 (l : List UInt8) : Nat := l.foldl (fun a b => a * 128 + b.toNat % 128) 0
theorem v7_snoc (l : List UInt8) (b : UInt8) : v7 (l ++ [b]) = v7 l * 128 + b.toNat % 128 := by simp [v7]
theorem v7_from (l : List UInt8) : ∀ a, l.foldl (fun a b => a * 128 + b.toNat % 128) a = a * 128 ^ l.length + v7 l := by
  induction l using sd_snoc_ind with
  | h0 => intro a; simp [v7]
  | hs l b ih =>
    intro a
    rw [List.foldl_append, List.foldl_cons, List.foldl_nil, ih a, v7_snoc, List.length_append]
    simp only [List.length_cons, List.length_nil, Nat.pow_succ, Nat.zero_add, Nat.add_mul, Nat.mul_assoc]
    omega
theorem v7_append (l m : List UInt8) : v7 (l ++ m) = v7 l * 128 ^ m.length + v7 m := by
  rw [v7, List.foldl_append, v7_from]; rfl
theorem v7_take_le (l : List UInt8) (k : Nat) : v7 (l.take k) ≤ v7 l := by
  conv => rhs; rw [← List.take_append_drop k l, v7_append]
  have : 1 ≤ 128 ^ (l.drop k).length := Nat.one_le_pow _ _ (by omega)
  have h2 : v7 (l.take k) * 1 ≤ v7 (l.take k) * 128 ^ (l.drop k).length := Nat.mul_le_mul_left _ this
  omega

/-- The groups ahead of the last one. -/
def tops : Nat → Nat → List UInt8
  | 0, _ => []
  | k + 1, n => if n = 0 then [] else tops k (n / 128) ++ [UInt8.ofNat (128 + n % 128)]
/-- A number's groups. -/
def sdL (n : Nat) : List UInt8 := tops 9 (n / 128) ++ [UInt8.ofNat (n % 128)]

theorem top_nat (n : Nat) : (UInt8.ofNat (128 + n % 128)).toNat = 128 + n % 128 := UInt8.toNat_ofNat_of_lt' (by show _ < 256; omega)
theorem low_nat (n : Nat) : (UInt8.ofNat (n % 128)).toNat = n % 128 := UInt8.toNat_ofNat_of_lt' (by show _ < 256; omega)
theorem tops_zero (k : Nat) : tops k 0 = [] := by cases k <;> simp [tops]
theorem tops_ge (k n : Nat) : ∀ b ∈ tops k n, 128 ≤ b.toNat := by
  induction k generalizing n with
  | zero => intro b h; simp [tops] at h
  | succ k ih =>
    intro b h
    rw [tops] at h
    by_cases h0 : n = 0
    · simp [h0] at h
    · rw [if_neg h0, List.mem_append, List.mem_singleton] at h
      rcases h with h | rfl
      · exact ih _ b h
      · rw [top_nat]; omega
theorem v7_tops (k n : Nat) (h : n < 128 ^ k) : v7 (tops k n) = n := by
  induction k generalizing n with
  | zero => simp at h; subst h; simp [tops, v7]
  | succ k ih =>
    rw [tops]
    by_cases h0 : n = 0
    · simp [h0, v7]
    · rw [if_neg h0, v7_snoc, ih _ (by rw [Nat.pow_succ] at h; omega), top_nat]; omega
theorem v7_sdL (n : Nat) (h : n < 128 ^ 9 * 128) : v7 (sdL n) = n := by
  rw [sdL, v7_snoc, v7_tops 9 _ (by omega), low_nat]; omega
theorem tops_head (k n : Nat) (h : n < 128 ^ k) : ∀ b, (tops k n).head? = some b → b.toNat ≠ 128 := by
  induction k generalizing n with
  | zero => intro b hb; simp [tops] at hb
  | succ k ih =>
    intro b hb
    rw [tops] at hb
    by_cases h0 : n = 0
    · simp [h0] at hb
    · rw [if_neg h0] at hb
      by_cases h1 : n / 128 = 0
      · rw [h1, tops_zero] at hb
        simp only [List.nil_append, List.head?_cons, Option.some.injEq] at hb
        rw [← hb, top_nat]; omega
      · have hne : tops k (n / 128) ≠ [] := fun e => by
          have := v7_tops k (n / 128) (by rw [Nat.pow_succ] at h; omega)
          rw [e] at this
          simp [v7] at this
          omega
        refine ih (n / 128) (by rw [Nat.pow_succ] at h; omega) b ?_
        cases ht : tops k (n / 128) with
        | nil => exact absurd ht hne
        | cons x r => rw [ht] at hb; exact hb
theorem v7_pos {l : List UInt8} (hne : l ≠ []) (hg : ∀ b ∈ l, 128 ≤ b.toNat) (hh : ∀ b, l.head? = some b → b.toNat ≠ 128) : 1 ≤ v7 l := by
  match l, hne with
  | b :: r, _ =>
    have h1 := hg b (by simp)
    have h2 := hh b rfl
    have hb := b.toNat_lt
    have : v7 (b :: r) = v7 [b] * 128 ^ r.length + v7 r := v7_append [b] r
    rw [this]
    have h3 : 1 ≤ v7 [b] := by simp [v7]; omega
    have h4 : 1 ≤ 128 ^ r.length := Nat.one_le_pow _ _ (by omega)
    have := Nat.mul_le_mul h3 h4
    omega
theorem tops_unique (l : List UInt8) : ∀ k, (∀ b ∈ l, 128 ≤ b.toNat) → (∀ b, l.head? = some b → b.toNat ≠ 128) → v7 l < 128 ^ k → l = tops k (v7 l) := by
  induction l using sd_snoc_ind with
  | h0 => intro k _ _ _; rw [show v7 [] = 0 from rfl, tops_zero]
  | hs l b ih =>
    intro k hg hh hlt
    have hb := b.toNat_lt
    have hgb := hg b (by simp)
    have hpos := v7_pos (l := l ++ [b]) (by simp) hg hh
    rw [v7_snoc] at hlt hpos ⊢
    cases k with
    | zero => simp at hlt; omega
    | succ k =>
      rw [tops, if_neg (by omega), show (v7 l * 128 + b.toNat % 128) / 128 = v7 l by omega, show (v7 l * 128 + b.toNat % 128) % 128 = b.toNat % 128 by omega]
      have he := ih k (fun c hc => hg c (by simp [hc])) (fun c hc => hh c (by
        cases l with
        | nil => simp at hc
        | cons x l => simpa using hc)) (by rw [Nat.pow_succ] at hlt; omega)
      rw [← he, show 128 + b.toNat % 128 = b.toNat by omega]
      simp

/-- The place of the last group. -/
def endN : List UInt8 → Option Nat
  | [] => none
  | b :: l => if b.toNat < 128 then some 0 else (endN l).map (· + 1)
theorem endN_some {l : List UInt8} {e : Nat} (h : endN l = some e) : ∃ (m : List UInt8) (b : UInt8) (t : List UInt8), l = m ++ b :: t ∧ m.length = e ∧ (∀ c ∈ m, 128 ≤ c.toNat) ∧ b.toNat < 128 := by
  induction l generalizing e with
  | nil => cases h
  | cons c l ih =>
    rw [endN] at h
    by_cases hc : c.toNat < 128
    · rw [if_pos hc] at h
      injection h with h
      exact ⟨[], c, l, rfl, h, fun _ h => by simp at h, hc⟩
    · rw [if_neg hc] at h
      cases he : endN l with
      | none => rw [he] at h; cases h
      | some e' =>
        rw [he] at h
        injection h with h
        obtain ⟨m, b, t, rfl, hm, hg, hb⟩ := ih he
        refine ⟨c :: m, b, t, rfl, by simp [hm, h], fun x hx => ?_, hb⟩
        rcases List.mem_cons.1 hx with rfl | hx
        · omega
        · exact hg x hx
theorem endN_mk (m : List UInt8) (b : UInt8) (t : List UInt8) (hg : ∀ c ∈ m, 128 ≤ c.toNat) (hb : b.toNat < 128) : endN (m ++ b :: t) = some m.length := by
  induction m with
  | nil => simp [endN, hb]
  | cons c m ih =>
    have := hg c (by simp)
    rw [List.cons_append, endN, if_neg (by omega), ih (fun x hx => hg x (by simp [hx]))]
    rfl
theorem endN_none {l : List UInt8} (h : endN l = none) : ∀ c ∈ l, 128 ≤ c.toNat := by
  induction l with
  | nil => intro c hc; simp at hc
  | cons b l ih =>
    rw [endN] at h
    by_cases hb : b.toNat < 128
    · rw [if_pos hb] at h; cases h
    · rw [if_neg hb] at h
      intro c hc
      rcases List.mem_cons.1 hc with rfl | hc
      · omega
      · cases he : endN l with
        | none => exact ih he c hc
        | some e => rw [he] at h; cases h
theorem endN_all {l : List UInt8} (h : ∀ c ∈ l, 128 ≤ c.toNat) : endN l = none := by
  induction l with
  | nil => rfl
  | cons b l ih =>
    have := h b (by simp)
    rw [endN, if_neg (by omega), ih (fun c hc => h c (by simp [hc]))]
    rfl

inductive SdR where
  | bad (e : Int)
  | ok (n k : Nat)
/-- What stands at a text's beginning. -/
def sdecL (l : List UInt8) : SdR :=
  match endN l with
  | none => .bad 11
  | some e => if l.head? = some 128 then .bad 20 else if 281474976710655 < v7 (l.take (e + 1)) then .bad 10 else .ok (v7 (l.take (e + 1))) (e + 1)

theorem sdL_length (n : Nat) : 1 ≤ (sdL n).length := by simp [sdL]
/-- A number is decoded from its groups, whatever stands behind. -/
theorem sdec_sdL {n : Nat} (hn : n ≤ 281474976710655) (t : List UInt8) : sdecL (sdL n ++ t) = .ok n (sdL n).length := by
  have e : sdL n ++ t = tops 9 (n / 128) ++ UInt8.ofNat (n % 128) :: t := by simp [sdL]
  have h1 : endN (sdL n ++ t) = some (tops 9 (n / 128)).length := by rw [e]; exact endN_mk _ _ _ (tops_ge 9 _) (by rw [low_nat]; omega)
  have h2 : (sdL n ++ t).take ((tops 9 (n / 128)).length + 1) = sdL n := by
    rw [show (tops 9 (n / 128)).length + 1 = (sdL n).length by simp [sdL]]; simp
  have h3 : (sdL n ++ t).head? ≠ some 128 := by
    rw [e]
    cases ht : tops 9 (n / 128) with
    | nil =>
      simp only [List.nil_append, List.head?_cons, ne_eq, Option.some.injEq]
      intro e
      have := congrArg UInt8.toNat e
      rw [low_nat] at this
      have h8 : (128 : UInt8).toNat = 128 := rfl
      omega
    | cons b r =>
      have := tops_head 9 (n / 128) (by omega) b (by rw [ht]; rfl)
      simp only [List.cons_append, List.head?_cons, ne_eq, Option.some.injEq]
      intro e
      exact this (by rw [e]; rfl)
  rw [sdecL, h1]
  dsimp only
  rw [if_neg h3, h2, v7_sdL n (by omega), if_neg (by omega)]
  simp [sdL]

/-- What is decoded has these groups. -/
theorem sdL_sdec {l : List UInt8} {n k : Nat} (h : sdecL l = .ok n k) : n ≤ 281474976710655 ∧ l.take k = sdL n ∧ k ≤ l.length ∧ 1 ≤ k := by
  rw [sdecL] at h
  cases he : endN l with
  | none => rw [he] at h; cases h
  | some e =>
    rw [he] at h
    dsimp only at h
    by_cases h1 : l.head? = some 128
    · rw [if_pos h1] at h; cases h
    rw [if_neg h1] at h
    by_cases h2 : 281474976710655 < v7 (l.take (e + 1))
    · rw [if_pos h2] at h; cases h
    rw [if_neg h2] at h
    injection h with h3 h4
    subst h3 h4
    obtain ⟨m, b, t, rfl, rfl, hg, hb⟩ := endN_some he
    have ht : (m ++ b :: t).take (m.length + 1) = m ++ [b] := by
      rw [show m ++ b :: t = (m ++ [b]) ++ t by simp, show m.length + 1 = (m ++ [b]).length by simp, List.take_left]
    rw [ht] at h2 ⊢
    rw [v7_snoc] at h2 ⊢
    refine ⟨by omega, ?_, by simp, by omega⟩
    have hm := tops_unique m 9 hg (fun c hc e8 => h1 (by
      cases m with
      | nil => simp at hc
      | cons x m =>
        simp only [List.head?_cons, Option.some.injEq] at hc
        subst hc
        simp only [List.cons_append, List.head?_cons, Option.some.injEq]
        exact UInt8.toNat_inj.1 e8)) (by omega)
    rw [sdL, show (v7 m * 128 + b.toNat % 128) / 128 = v7 m by omega, ← hm, show (v7 m * 128 + b.toNat % 128) % 128 = b.toNat by omega]
    simp

/-- A beginning of a number's groups that is not all of them is too short. -/
theorem sdec_short (n k : Nat) (hk : k < (sdL n).length) : sdecL ((sdL n).take k) = .bad 11 := by
  have hl : (sdL n).length = (tops 9 (n / 128)).length + 1 := by simp [sdL]
  have : endN ((sdL n).take k) = none := by
    refine endN_all fun c hc => ?_
    rw [sdL, List.take_append_of_le_length (by omega)] at hc
    exact tops_ge 9 _ c (List.mem_of_mem_take hc)
  rw [sdecL, this]

theorem tops_len (k n j : Nat) (h : n < 128 ^ j) : (tops k n).length ≤ j := by
  induction k generalizing n j with
  | zero => simp [tops]
  | succ k ih =>
    rw [tops]
    by_cases h0 : n = 0
    · simp [h0]
    · rw [if_neg h0]
      cases j with
      | zero => simp at h; omega
      | succ j =>
        have := ih (n / 128) j (by rw [Nat.pow_succ] at h; omega)
        simp; omega
theorem tops_mono (k n m : Nat) (h : n ≤ m) : (tops k n).length ≤ (tops k m).length := by
  induction k generalizing n m with
  | zero => simp [tops]
  | succ k ih =>
    rw [tops, tops]
    by_cases h0 : n = 0
    · simp [h0]
    · rw [if_neg h0, if_neg (by omega)]
      have := ih (n / 128) (m / 128) (by omega)
      simp; omega
theorem sdL_mono {n m : Nat} (h : n ≤ m) : (sdL n).length ≤ (sdL m).length := by
  have := tops_mono 9 (n / 128) (m / 128) (by omega)
  simp [sdL]; omega
theorem sdL_le7 {n : Nat} (h : n ≤ 281474976710655) : (sdL n).length ≤ 7 := by
  have := tops_len 9 (n / 128) 6 (by omega)
  simp [sdL]; omega
theorem sdL_prefix {n m : Nat} (hn : n ≤ 281474976710655) (hm : m ≤ 281474976710655) (t : List UInt8) (h : sdL n ++ t = sdL m) : n = m := by
  have h1 := sdec_sdL hn t
  have h2 := sdec_sdL hm []
  rw [List.append_nil, ← h, h1] at h2
  injection h2

/-- All the numbers of a text: with enough rounds. -/
inductive AllR where
  | bad (e : Int)
  | ok (l : List Nat)
def AllR.push (n : Nat) : AllR → AllR
  | .bad e => .bad e
  | .ok l => .ok (n :: l)
def allL : Nat → List UInt8 → AllR
  | 0, _ => .ok []
  | f + 1, l => if l = [] then .ok [] else
    match sdecL l with
    | .bad e => .bad e
    | .ok n k => (allL f (l.drop k)).push n
theorem allL_more (f g : Nat) : ∀ l : List UInt8, l.length ≤ f → l.length ≤ g → allL f l = allL g l := by
  induction f generalizing g with
  | zero => intro l hl _; cases g with
    | zero => rfl
    | succ g => have : l = [] := List.eq_nil_of_length_eq_zero (by omega)
                simp [allL, this]
  | succ f ih =>
    intro l hl hg
    cases g with
    | zero => have : l = [] := List.eq_nil_of_length_eq_zero (by omega)
              simp [allL, this]
    | succ g =>
      rw [allL, allL]
      by_cases h0 : l = []
      · simp [h0]
      · rw [if_neg h0, if_neg h0]
        cases hd : sdecL l with
        | bad e => rfl
        | ok n k =>
          obtain ⟨_, _, h3, h4⟩ := sdL_sdec hd
          dsimp only
          rw [ih g (l.drop k) (by simp; omega) (by simp; omega)]
def allOf (l : List UInt8) : AllR := allL l.length l
theorem allOf_nil : allOf [] = .ok [] := rfl
theorem allOf_step {l : List UInt8} (h : l ≠ []) : allOf l = match sdecL l with | .bad e => .bad e | .ok n k => (allOf (l.drop k)).push n := by
  have hl : 1 ≤ l.length := by cases l with
    | nil => exact absurd rfl h
    | cons a l => simp
  obtain ⟨f, hf⟩ : ∃ f, l.length = f + 1 := ⟨l.length - 1, by omega⟩
  rw [allOf, hf, allL, if_neg h]
  cases hd : sdecL l with
  | bad e => rfl
  | ok n k =>
    obtain ⟨_, _, h3, h4⟩ := sdL_sdec hd
    dsimp only
    rw [allOf, allL_more f (l.drop k).length (l.drop k) (by simp; omega) (Nat.le_refl _)]
theorem allOf_cons {n : Nat} (hn : n ≤ 281474976710655) (t : List UInt8) : allOf (sdL n ++ t) = (allOf t).push n := by
  have hne : sdL n ++ t ≠ [] := fun e => by
    have h1 := congrArg List.length e
    have h2 := sdL_length n
    rw [List.length_append, List.length_nil] at h1
    omega
  rw [allOf_step hne, sdec_sdL hn t]
  dsimp only
  rw [List.drop_left]

/-- Many numbers' groups. -/
def listL (l : List Nat) : List UInt8 := l.flatMap sdL
theorem allOf_listL (l : List Nat) (h : ∀ n ∈ l, n ≤ 281474976710655) (t : List UInt8) : allOf (listL l ++ t) = match allOf t with | .bad e => .bad e | .ok m => .ok (l ++ m) := by
  induction l with
  | nil => simp only [listL, List.flatMap_nil, List.nil_append]; cases allOf t <;> rfl
  | cons n l ih =>
    have e : listL (n :: l) ++ t = sdL n ++ (listL l ++ t) := by simp [listL]
    rw [e, allOf_cons (h n (by simp)), ih (fun m hm => h m (by simp [hm]))]
    cases allOf t <;> rfl
theorem listL_allOf (f : Nat) : ∀ l : List UInt8, l.length ≤ f → ∀ ns, allOf l = .ok ns → listL ns = l ∧ ∀ n ∈ ns, n ≤ 281474976710655 := by
  induction f with
  | zero =>
    intro l hl ns h
    have : l = [] := List.eq_nil_of_length_eq_zero (by omega)
    subst this
    rw [allOf_nil] at h
    injection h with h
    subst h
    exact ⟨rfl, fun n hn => by simp at hn⟩
  | succ f ih =>
    intro l hl ns h
    by_cases h0 : l = []
    · subst h0
      rw [allOf_nil] at h
      injection h with h
      subst h
      exact ⟨rfl, fun n hn => by simp at hn⟩
    · rw [allOf_step h0] at h
      cases hd : sdecL l with
      | bad e => rw [hd] at h; cases h
      | ok n k =>
        rw [hd] at h
        dsimp only at h
        obtain ⟨h1, h2, h3, h4⟩ := sdL_sdec hd
        cases ha : allOf (l.drop k) with
        | bad e => rw [ha] at h; cases h
        | ok ms =>
          rw [ha] at h
          injection h with h
          subst h
          obtain ⟨i1, i2⟩ := ih (l.drop k) (by simp; omega) ms ha
          refine ⟨?_, fun m hm => ?_⟩
          · rw [show listL (n :: ms) = sdL n ++ listL ms by simp [listL], i1, ← h2, List.take_append_drop]
          · rcases List.mem_cons.1 hm with rfl | hm
            · exact h1
            · exact i2 m hm
/-- A text that is cut behind whole numbers, and what is wrong behind them. -/
theorem allOf_bad (f : Nat) : ∀ l : List UInt8, l.length ≤ f → ∀ e, allOf l = .bad e → ∃ (ns : List Nat) (t : List UInt8), (∀ n ∈ ns, n ≤ 281474976710655) ∧ l = listL ns ++ t ∧ t ≠ [] ∧ sdecL t = .bad e := by
  induction f with
  | zero =>
    intro l hl e h
    have : l = [] := List.eq_nil_of_length_eq_zero (by omega)
    subst this
    rw [allOf_nil] at h
    cases h
  | succ f ih =>
    intro l hl e h
    by_cases h0 : l = []
    · subst h0; rw [allOf_nil] at h; cases h
    · rw [allOf_step h0] at h
      cases hd : sdecL l with
      | bad e' =>
        rw [hd] at h
        injection h with h
        subst h
        exact ⟨[], l, fun n hn => by simp at hn, rfl, h0, hd⟩
      | ok n k =>
        rw [hd] at h
        dsimp only at h
        obtain ⟨h1, h2, h3, h4⟩ := sdL_sdec hd
        cases ha : allOf (l.drop k) with
        | ok ms => rw [ha] at h; cases h
        | bad e' =>
          rw [ha] at h
          injection h with h
          subst h
          obtain ⟨ns, t, i1, i2, i3, i4⟩ := ih (l.drop k) (by simp; omega) e' ha
          refine ⟨n :: ns, t, fun m hm => ?_, ?_, i3, i4⟩
          · rcases List.mem_cons.1 hm with rfl | hm
            · exact h1
            · exact i1 m hm
          · rw [show listL (n :: ns) = sdL n ++ listL ns by simp [listL], List.append_assoc, ← i2, ← h2, List.take_append_drop]

end Go.Proofs.YtcahfdhfdigjaaaDoor
