/-
  A disk whose power may go at any write: plain lists, no program. No condition.
-/
namespace Go.Proofs.YtlkghcfjcdeokaaDoor

/-- A disk: its sectors' bytes, after how many writes its power goes (0: never), with which cut, whether it is down, how many writes were done. -/
structure DN where
  L : List (List UInt8)
  left : Nat
  cut : Nat
  down : Bool
  n : Nat

/-- Its sectors have sixty-four bytes each, and a cut is at most that. -/
structure DN.Fit (d : DN) : Prop where
  sec : ∀ s ∈ d.L, s.length = 64
  cut : d.cut ≤ 64
def DN.new (k : Nat) : DN := ⟨List.replicate k (List.replicate 64 0), 0, 0, false, 0⟩
theorem DN.new_fit (k : Nat) : (DN.new k).Fit := ⟨fun s hs => by rw [List.eq_of_mem_replicate hs]; simp, Nat.zero_le _⟩
def DN.has (d : DN) (i : Int) : Bool := decide (0 ≤ i) && decide (i < (d.L.length : Int))
theorem DN.has_iff {d : DN} {i : Int} : d.has i = true ↔ ∃ k : Nat, i = (k : Int) ∧ k < d.L.length := by
  simp only [DN.has, Bool.and_eq_true, decide_eq_true_eq]
  constructor
  · rintro ⟨h1, h2⟩
    exact ⟨i.toNat, by omega, by omega⟩
  · rintro ⟨k, rfl, h⟩
    omega
/-- What is read, and the error's number. -/
def DN.read (d : DN) (i : Int) : List UInt8 × Int := if d.down then ([], 180) else if d.has i then (d.L.getD i.toNat [], 0) else ([], 181)
/-- What a write leaves, and the error's number. -/
def DN.write (d : DN) (i : Int) (s : List UInt8) : DN × Int :=
  if d.down then (d, 180) else if d.has i = true ∧ s.length = 64 then
    ({ L := d.L.set i.toNat (s.take (if d.left = 1 then d.cut else 64) ++ (d.L.getD i.toNat []).drop (if d.left = 1 then d.cut else 64)), left := d.left - 1, cut := d.cut, down := decide (d.left = 1), n := d.n + 1 }, if d.left = 1 then 180 else 0)
  else (d, 181)
def DN.arm (d : DN) (k c : Int) : DN × Int := if 1 ≤ k ∧ 0 ≤ c ∧ c ≤ 64 then ({ d with left := k.toNat, cut := c.toNat }, 0) else (d, 2)
def DN.restart (d : DN) : DN := { d with left := 0, cut := 0, down := false }
/-- All its bytes. -/
def DN.all (d : DN) : List UInt8 := d.L.flatten

theorem DN.write_fit {d : DN} (h : d.Fit) (i : Int) (s : List UInt8) : (d.write i s).1.Fit ∧ (d.write i s).1.L.length = d.L.length ∧ (d.write i s).1.n ≤ d.n + 1 := by
  unfold DN.write
  split
  · exact ⟨h, rfl, Nat.le_succ _⟩
  · split
    · rename_i _ hc
      obtain ⟨k, rfl, hk⟩ := DN.has_iff.1 hc.1
      have hs := h.sec _ (List.getElem_mem hk)
      have hcut := h.cut
      refine ⟨⟨fun t ht => ?_, h.cut⟩, by simp, by simp⟩
      rcases List.mem_or_eq_of_mem_set ht with ht | rfl
      · exact h.sec t ht
      · have e : d.L.getD (Int.toNat (k : Int)) [] = d.L[k] := by rw [Int.toNat_natCast, List.getD, List.getElem?_eq_getElem hk]; rfl
        rw [e, List.length_append, List.length_take, List.length_drop, hs, hc.2]
        split <;> omega
    · exact ⟨h, rfl, Nat.le_succ _⟩
theorem DN.arm_fit {d : DN} (h : d.Fit) (k c : Int) : (d.arm k c).1.Fit ∧ (d.arm k c).1.L.length = d.L.length ∧ (d.arm k c).1.n = d.n := by
  unfold DN.arm
  split
  · exact ⟨⟨h.sec, by show c.toNat ≤ 64; omega⟩, rfl, rfl⟩
  · exact ⟨h, rfl, rfl⟩
theorem DN.restart_fit {d : DN} (h : d.Fit) : d.restart.Fit ∧ d.restart.L.length = d.L.length ∧ d.restart.n = d.n := ⟨⟨h.sec, by show 0 ≤ 64; omega⟩, rfl, rfl⟩
theorem flat_length {L : List (List UInt8)} (h : ∀ s ∈ L, s.length = 64) : L.flatten.length = 64 * L.length := by
  induction L with
  | nil => rfl
  | cons s L ih =>
    rw [List.flatten_cons, List.length_append, h s (by simp), ih fun t ht => h t (by simp [ht]), List.length_cons]
    omega
/-- The bytes of one sector among all. -/
theorem flat_sector {L : List (List UInt8)} (h : ∀ s ∈ L, s.length = 64) : ∀ (k : Nat) (hk : k < L.length), (L.flatten.drop (64 * k)).take 64 = L[k] := by
  induction L with
  | nil => intro k hk; simp at hk
  | cons s L ih =>
    intro k hk
    have hs := h s (by simp)
    rw [List.flatten_cons]
    cases k with
    | zero => rw [Nat.mul_zero, List.drop_zero, List.take_left' hs]; rfl
    | succ k =>
      rw [show 64 * (k + 1) = s.length + 64 * k by omega, ← List.drop_drop, List.drop_left' rfl]
      exact ih (fun t ht => h t (by simp [ht])) k (by simpa using hk)
/-- One sector turned: all bytes. -/
theorem flat_set {L : List (List UInt8)} (h : ∀ s ∈ L, s.length = 64) : ∀ (k : Nat) (t : List UInt8) (_ : k < L.length) (_ : t.length = 64), (L.set k t).flatten = L.flatten.take (64 * k) ++ t ++ L.flatten.drop (64 * k + 64) := by
  induction L with
  | nil => intro k t hk; simp at hk
  | cons s L ih =>
    intro k t hk ht
    have hs := h s (by simp)
    cases k with
    | zero =>
      rw [List.set_cons_zero, List.flatten_cons, List.flatten_cons, Nat.mul_zero, List.take_zero, List.nil_append, Nat.zero_add, List.drop_left' hs]
    | succ k =>
      have h2 := ih (fun u hu => h u (by simp [hu])) k t (by simpa using hk) ht
      rw [List.set_cons_succ, List.flatten_cons, List.flatten_cons, h2, show 64 * (k + 1) = s.length + 64 * k by omega, List.take_length_add_append, show s.length + 64 * k + 64 = s.length + (64 * k + 64) by omega, List.drop_length_add_append]
      simp

end Go.Proofs.YtlkghcfjcdeokaaDoor
