/-
  An item as an argument lists it. No condition.
-/
import Derived.Test.YtmoghgmbpkpcfaaGreatDoorMgH
namespace Go.Proofs.YtmoghgmbpkpcfaaGreatDoor
open Go.RowKit Go.Shelf

/-- An item as it is listed: of its list the first items. -/
inductive VT where
  | mk (k n : Int) (s : ByteArray) (a : Option Addr) (len cap : Nat) (l : List VT)
def VT.kind : VT → Int | .mk k _ _ _ _ _ _ => k
def VT.num : VT → Int | .mk _ n _ _ _ _ _ => n
def VT.txt : VT → ByteArray | .mk _ _ s _ _ _ _ => s
def VT.at_ : VT → Option Addr | .mk _ _ _ a _ _ _ => a
def VT.len : VT → Nat | .mk _ _ _ _ n _ _ => n
def VT.cap : VT → Nat | .mk _ _ _ _ _ c _ => c
def VT.kids : VT → List VT | .mk _ _ _ _ _ _ l => l
def VT.row (t : VT) : Value := .slice t.at_ t.len t.cap
def VT.val (t : VT) : Value := .agg #[.int .i64 t.kind, .int .i64 t.num, .string t.txt, t.row]
def RowV (W : World) (D : Nat) (a : Option Addr) (l : List VT) : Prop := 0 < l.length → ∃ ad, a = some ad ∧ ad.block < D ∧ ∀ (i : Nat) (h : i < l.length), W.cell? (ad.add (i * 4)) = some (.int .i64 l[i].kind) ∧ W.cell? ⟨(ad.add (i * 4)).block, (ad.add (i * 4)).off + 1, none⟩ = some (.int .i64 l[i].num) ∧
  W.cell? ⟨(ad.add (i * 4)).block, (ad.add (i * 4)).off + 2, none⟩ = some (.string l[i].txt) ∧ W.cell? ⟨(ad.add (i * 4)).block, (ad.add (i * 4)).off + 3, none⟩ = some l[i].row
theorem RowV.below {W W' : World} {D D' : Nat} {a : Option Addr} {l : List VT} (h : RowV W D a l) (hb : Below D W W') (hD : D ≤ D') : RowV W' D' a l := fun hp => by
  obtain ⟨ad, h1, h2, h3⟩ := h hp
  refine ⟨ad, h1, by omega, fun i hi => ?_⟩
  obtain ⟨g1, g2, g3, g4⟩ := h3 i hi
  have hl : (ad.add (i * 4)).block < D := by rw [ad_blk]; exact h2
  exact ⟨(hb.cell hl).trans g1, (hb.cell (by exact hl)).trans g2, (hb.cell (by exact hl)).trans g3, (hb.cell (by exact hl)).trans g4⟩
/-- An item lies in memory as it is listed, so deep. -/
def VAt (D : Nat) (W : World) : Nat → VT → Prop
  | 0, _ => True
  | d + 1, t => t.txt.size ≤ 9223372036854775807 ∧ t.len ≤ 9223372036854775807 ∧ (0 < d → t.kids.length = min t.len 62 ∧ RowV W D t.at_ t.kids ∧ ∀ x ∈ t.kids, VAt D W d x)
theorem VAt.below {W W' : World} {D D' : Nat} (hb : Below D W W') (hD : D ≤ D') : ∀ (d : Nat) (t : VT), VAt D W d t → VAt D' W' d t := by
  intro d
  induction d with
  | zero => intro t _; trivial
  | succ d ih =>
    rintro t ⟨h0, h00, h⟩
    refine ⟨h0, h00, fun hd => ?_⟩
    obtain ⟨h1, h2, h3⟩ := h hd
    exact ⟨h1, h2.below hb hD, fun x hx => ih x (h3 x hx)⟩

end Go.Proofs.YtmoghgmbpkpcfaaGreatDoor
