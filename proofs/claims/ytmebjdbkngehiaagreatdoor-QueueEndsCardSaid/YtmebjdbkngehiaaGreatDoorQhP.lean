/-
  QueueOnce: plain law. No condition. QueueOnce: what its calls answer. No condition. QueueOnce: what its calls answer behind a first Put that is done. No condition.
-/
import Derived.Test.YtmebjdbkngehiaaGreatDoorQhO
namespace Go.Proofs.YtmebjdbkngehiaaGreatDoor

/-- Put tells something else than that it is done. -/
theorem once_no {k : Nat} {s s1 : SN} {e : EI} {n r : Int} (h : SN.put k s e = (s1, n, r)) (hr : r ≠ 0) : n = 0 ∧ s1 = s ∧ (s.knows e.key = false ∨ r = 192 ∨ r = 191) := by
  unfold SN.put at h
  split at h
  · obtain ⟨rfl, rfl, rfl⟩ : s = s1 ∧ (0 : Int) = n ∧ (191 : Int) = r := by injection h with a b; injection b with b c; exact ⟨a, b, c⟩
    exact ⟨rfl, rfl, .inr (.inr rfl)⟩
  · split at h
    · obtain ⟨rfl, rfl, rfl⟩ : s = s1 ∧ (0 : Int) = n ∧ (192 : Int) = r := by injection h with a b; injection b with b c; exact ⟨a, b, c⟩
      exact ⟨rfl, rfl, .inr (.inl rfl)⟩
    · rename_i hk
      split at h
      · obtain ⟨rfl, rfl, rfl⟩ : s = s1 ∧ (0 : Int) = n ∧ (194 : Int) = r := by injection h with a b; injection b with b c; exact ⟨a, b, c⟩
        exact ⟨rfl, rfl, .inl (by simpa using hk)⟩
      · have : (0 : Int) = r := by injection h with a b; injection b with b c
        exact absurd this.symm hr
/-- Put tells that it is done. -/
theorem once_yes {k : Nat} {s s1 : SN} {e : EI} {n : Int} (h : SN.put k s e = (s1, n, 0)) : e.id = 0 ∧ e.sent = false ∧ (e.num s.next).right = true ∧ s.knows e.key = false ∧ n = s.next ∧ s1 = ⟨s.L ++ [e.num s.next], s.K ++ [(e.num s.next).k]⟩ := by
  unfold SN.put at h
  split at h
  · have : (191 : Int) = 0 := by injection h with a b; injection b with b c
    cases this
  · rename_i h1
    split at h
    · have : (192 : Int) = 0 := by injection h with a b; injection b with b c
      cases this
    · rename_i h2
      split at h
      · have : (194 : Int) = 0 := by injection h with a b; injection b with b c
        cases this
      · have h1' := Decidable.not_not.1 h1
        obtain ⟨rfl, rfl⟩ : (⟨s.L ++ [e.num s.next], s.K ++ [(e.num s.next).k]⟩ : SN) = s1 ∧ s.next = n := by injection h with a b; injection b with b c; exact ⟨a, b⟩
        exact ⟨h1'.1, h1'.2.1, h1'.2.2, by simpa using h2, rfl, rfl⟩
/-- A key that is known is not put again. -/
theorem once_more {k : Nat} {s : SN} {e : EI} (h0 : e.id = 0) (h1 : e.sent = false) (h2 : (e.num s.next).right = true) (hk : s.knows e.key = true) : SN.put k s e = (s, 0, 192) := by
  unfold SN.put
  rw [if_neg (fun q => q ⟨h0, h1, h2⟩), if_pos hk]
theorem num_right {e : EI} {n m : Int} (h : (e.num n).right = true) (hm : 1 ≤ m) (hm2 : m ≤ 1000) : (e.num m).right = true := by
  obtain ⟨a1, a2, a3⟩ := EI.right_iff.1 h
  exact EI.right_iff.2 ⟨hm, okNum_iff.2 ⟨by show 0 ≤ m; omega, by show m ≤ 281474976710655; omega⟩, a3⟩

end Go.Proofs.YtmebjdbkngehiaaGreatDoor

namespace Go.Proofs.YtmebjdbkngehiaaGreatDoor

/-- A call that is no Put keeps the keys. -/
theorem call_K (k : Nat) (s : SN) {x : QO} (hx : 1 ≤ x.kind ∧ x.kind ≤ 3) : (SN.call k s x).1.K = s.K := by
  unfold SN.call
  rw [if_neg (by omega)]
  show (s.became (x.kind + 1) x.a).1.K = s.K
  unfold SN.became
  split
  · rfl
  · split
    · rfl
    · exact tell_K (by show x.kind + 1 ≠ 1; omega) (by show x.kind + 1 ≠ 5; omega)
theorem knows_K {s t : SN} (h : t.K = s.K) (u : ByteArray) : t.knows u = s.knows u := by unfold SN.knows; rw [h]
/-- Put of a key that is known, on a queue whose power stays. -/
theorem once_put {q : QN} (h : QG q) (hl : q.d.left = 0) {e : EI} {n : Int} (h0 : e.id = 0) (h1 : e.sent = false) (h2 : (e.num n).right = true) {j : Nat} (hf : q.s.Few j) (hj : j ≤ 60) (hn : 1 ≤ q.s.next) (hk : q.s.knows e.key = true) : ∃ q', KN.act ⟨q.d, some q⟩ ⟨0, 0, 0, e⟩ = (⟨q'.d, some q'⟩, ⟨0, [], 192⟩) ∧ QG q' ∧ q'.s = q.s ∧ q'.d.left = 0 ∧ q'.d.L.length = q.d.L.length ∧ q'.d.n ≤ q.d.n + (2 * q.d.L.length + 2) := by
  obtain ⟨q', b1, b2, b3, b4, b5, b6⟩ := calm_act (x := ⟨0, 0, 0, e⟩) h hl ⟨(by decide : (0 : Int) ≤ 0), (by decide : (0 : Int) ≤ 3)⟩
  have hp : SN.call q.d.L.length q.s ⟨0, 0, 0, e⟩ = (q.s, 0, 192) := once_more h0 h1 (num_right h2 hn (by have := hf.2; omega)) hk
  rw [hp] at b1 b3
  exact ⟨q', b1, b2, b3, b4, b5, b6⟩
theorem next_pos (s : SN) : 1 ≤ s.next := by
  have := (foldl_max s.K 0).1
  unfold SN.next
  omega

end Go.Proofs.YtmebjdbkngehiaaGreatDoor

namespace Go.Proofs.YtmebjdbkngehiaaGreatDoor

theorem knows_snoc (L : List EI) (K : List KI) (k : KI) : (SN.mk L (K ++ [k])).knows k.text = true := knows_iff.2 ⟨k, by simp, rfl⟩
theorem once_do {m : Nat} {q1 : QN} {nn : Int} (h1 : QG q1) (hl : q1.d.left = 0) (hm : q1.d.L.length = m) {kd : Int} (hk : 1 ≤ kd ∧ kd ≤ 3) :
    ∃ q2 an, KN.act ⟨q1.d, some q1⟩ ⟨kd, nn, 0, EI.nil⟩ = (⟨q2.d, some q2⟩, an) ∧ QG q2 ∧ q2.s.K = q1.s.K ∧ q2.d.left = 0 ∧ q2.d.L.length = m ∧ q2.d.n ≤ q1.d.n + (2 * m + 2) := by
  obtain ⟨q2, b1, b2, b3, b4, b5, b6⟩ := calm_act (x := ⟨kd, nn, 0, EI.nil⟩) h1 hl (by show 0 ≤ kd ∧ kd ≤ 3; omega)
  rw [hm] at b5 b6
  exact ⟨q2, _, b1, b2, by rw [b3]; exact call_K _ _ hk, b4, b5, b6⟩
theorem once_find {m : Nat} {q q1 : QN} {E : EI} {nn : Int} {s1 : SN} (h1 : QG q1) (hs : q1.s = s1) (hp : SN.put m q.s E = (s1, nn, 0)) : q1.s.find nn = (E.num nn, true) := by
  obtain ⟨-, -, -, -, rfl, rfl⟩ := once_yes hp
  have hok := h1.qi.ok
  rw [hs] at hok ⊢
  have hi : q.s.L.length < (q.s.L ++ [E.num q.s.next]).length := by simp
  have := find_at hok (i := q.s.L.length) hi
  simp only [List.getElem_append_right (Nat.le_refl _), Nat.sub_self, List.getElem_cons_zero] at this
  exact this

end Go.Proofs.YtmebjdbkngehiaaGreatDoor
