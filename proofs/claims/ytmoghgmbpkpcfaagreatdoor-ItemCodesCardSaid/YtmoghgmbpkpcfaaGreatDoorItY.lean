/-
  Package item: Decode and Whole as their plain laws say. Conditions: head's and nums' listed variables hold what 'HInv' says, errors.errorType holds the handle of the type error ('SInv').
-/
import Derived.Test.YtmoghgmbpkpcfaaGreatDoorItWa
import Derived.Test.YtmoghgmbpkpcfaaGreatDoorItWb
import Derived.Test.YtmoghgmbpkpcfaaGreatDoorItWc
namespace Go.Proofs.YtmoghgmbpkpcfaaGreatDoor
open Go.RowKit Go.Shelf

/-- No item. -/
def nilT : TV := .mk 0 0 ByteArray.empty none 0 []
theorem nilT_item : nilT.item = nilI := rfl
theorem nilT_at (D : Nat) (W : World) : ItAt D W nilT := .mk (fun h => absurd h (Nat.lt_irrefl 0)) (by simp)
theorem nilT_fits (f : Nat) : Fits (f + 1) nilT := .mk (by simp) (show ByteArray.empty.size ≤ 700 by decide) (by simp)
/-- An item in memory that is so and so. -/
structure IsT (x : IN) (f : Nat) (w w' : World) (t : TV) : Prop where
  item : t.item = x
  at_ : ItAt w'.heap.size w' t
  fits : Fits f t
  bel : Below w.heap.size w w'
theorem IsT.later {x : IN} {f : Nat} {w w' w2 : World} {t : TV} (h : IsT x f w w' t) (hb : Below w'.heap.size w' w2) : IsT x f w w2 t := ⟨h.item, h.at_.later hb hb.size, h.fits, h.bel.trans (hb.mono h.bel.size)⟩
theorem decI_read (s : ByteArray) (a : Int) : decI s a = (readA s a).top := by
  unfold decI readA
  split <;> rfl
theorem readA_er {s : ByteArray} {a er : Int} (hr : readA s a = .bad er) : er ≠ 0 := by
  rintro rfl
  have h := dec_sound (s := s) (a := a) (by rw [decI_read, hr]; rfl)
  rw [decI_read, hr] at h
  have h1 := h.1
  have h2 : (0 : Int) = a + ((nilI.bytes.length : Nat) : Int) := h.2.2.1
  have h3 := IN.bytes_pos nilI
  omega
structure II (w : World) (A : Nat → Addr) (aN aW aS : Addr) : Prop where
  h : HInv w A aN aW aS
  s : SInv w
theorem II.below {w w' : World} {A : Nat → Addr} {aN aW aS : Addr} (h : II w A aN aW aS) (hb : Below w.heap.size w w') : II w' A aN aW aS := ⟨h.h.below hb, h.s.below hb⟩
theorem IDecode_any {s : ByteArray} (a : Int) {A : Nat → Addr} {aN aW aS : Addr} {w : World} (hs : s.size ≤ 9223372036854775807) (hI : II w A aN aW aS) :
    Calls Tryz.prog 9 #[.string s, .int .i64 a] w fun e w' => ∃ t : TV, e = .returned (.tuple #[t.val, .int .i64 (decI s a).2.1, .int .i64 (decI s a).2.2]) ∧ IsT (decI s a).1 6 w w' t := by
  rw [decI_read]
  cases hr : readA s a with
  | bad er =>
    refine (Decode_no hs hI.h hI.s hr).mono ?_
    rintro e w' ⟨rfl, hb⟩
    exact ⟨nilT, rfl, rfl, nilT_at _ _, nilT_fits 5, hb⟩
  | ok c a' x =>
    refine (Decode_go hs hI.h hr).mono ?_
    rintro e w' ⟨t, rfl, h1, h2, h3, h4⟩
    exact ⟨t, rfl, h1, h2, h3, h4⟩
theorem IWhole_any {s : ByteArray} {A : Nat → Addr} {aN aW aS : Addr} {w : World} (hs : s.size ≤ 9223372036854775807) (hI : II w A aN aW aS) :
    Calls Tryz.prog 11 #[.string s] w fun e w' => ∃ t : TV, e = .returned (.tuple #[t.val, .int .i64 (wholeI s).2]) ∧ IsT (wholeI s).1 6 w w' t := by
  rw [wholeI, decI_read]
  cases hr : readA s 0 with
  | bad er =>
    refine (Whole_no hs hI.h hI.s hr).mono ?_
    rintro e w' ⟨rfl, hb⟩
    have he : er ≠ 0 := readA_er hr
    rw [show (RR.top (.bad er)).2.2 = er from rfl, if_neg he]
    exact ⟨nilT, rfl, rfl, nilT_at _ _, nilT_fits 5, hb⟩
  | ok c a' x =>
    rw [show (RR.top (.ok c a' x)).2.2 = 0 from rfl, if_pos rfl, show (RR.top (.ok c a' x)).2.1 = (a' : Int) from rfl]
    by_cases hq : (a' : Int) = (s.size : Int)
    · rw [if_pos hq]
      refine (Whole_go hs hI.h hI.s hr hq).mono ?_
      rintro e w' ⟨t, rfl, h1, h2, h3, h4⟩
      exact ⟨t, rfl, h1, h2, h3, h4⟩
    · rw [if_neg hq]
      refine (Whole_two hs hI.h hI.s hr hq).mono ?_
      rintro e w' ⟨rfl, hb⟩
      exact ⟨nilT, rfl, rfl, nilT_at _ _, nilT_fits 5, hb⟩

end Go.Proofs.YtmoghgmbpkpcfaaGreatDoor
