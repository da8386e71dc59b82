/-
  What a row's listed variable gives a walk when it is an array of structs of integers: each cell. Conditions: as the theorems' own hypotheses say.
-/
import Derived.Test.YtlkghcfjcdeokaaDoorSent
import Derived.OpenShut
import Derived.ChangeArms
import Derived.Deep.Fields
import Derived.LaidSub
namespace Go.Proofs.YtlkghcfjcdeokaaDoor
open Go.RowKit Go.WideShapes Go.ChangeShapes Go.Deep

/-- Is a type int's? -/
def isI64 (P : Program) (t : TypeId) : Bool := match P.underlying t with
  | some (.int .i64) => true
  | _ => false
theorem isI64_of {P : Program} {t : TypeId} (h : isI64 P t = true) : P.underlying t = some (.int .i64) := by
  unfold isI64 at h
  split at h
  · assumption
  · cases h

/-- The datum of such an array. -/
def rowsData (rows : List (List Int)) : DataW Unit := .agg (rows.map fun r => .agg (r.map fun n => .lit (.int .i64 n)))

theorem ints_of_struct {P : Program} {w : World} {base : Nat} {sp : Nat → Bool} {held : Bool} {fuel : Nat} {t : TypeId} {fs : Array Field} {cs : List Value} {zs : List Int} {p : List MemPlace}
    (ht : P.underlying t = some (.struct fs)) (hone : oneCellFields P fs = true) (hint : (fs.toList.all fun f => isI64 P f.type) = true)
    (h : DataW.trod (fun _ => ()) P w base sp held fuel t cs = some (.agg (zs.map fun n => .lit (.int .i64 n)), p)) : ∀ (j : Nat) (z : Int), zs[j]? = some z → cs[j]? = some (.int .i64 z) := by
  obtain ⟨xs, n, _, hx, hcs, hlen, hf⟩ := DataW.trod_struct ht h
  intro j z hz
  have hxs : xs.map (·.1) = zs.map fun n => (DataW.lit (.int .i64 n) : DataW Unit) := by
    have := congrArg Prod.fst hx
    simpa using this.symm
  have hzl : zs.length = fs.size := by have := congrArg List.length hxs; simp at this; omega
  have hj : j < fs.size := by rw [← hzl]; exact (List.getElem?_eq_some_iff.1 hz).1
  have hfj : fs[j]? = some fs[j] := Array.getElem?_eq_getElem hj
  obtain ⟨ho, hk⟩ := hone_of hone j _ hfj
  have hi : P.underlying fs[j].type = some (.int .i64) := isI64_of (List.all_eq_true.1 hint fs[j] (by simp))
  have h1 := hf j _ hfj
  rw [ho, hk] at h1
  have hxj : xs[j]? = some (xs[j]'(by omega)) := List.getElem?_eq_getElem (by omega)
  rw [hxj] at h1
  obtain ⟨m, hc, he, _⟩ := DataW.trod_int hi h1
  have h2 : (xs.map (·.1))[j]? = some (DataW.lit (.int .i64 m) : DataW Unit) := by rw [List.getElem?_map, hxj, he]; rfl
  rw [hxs, List.getElem?_map, hz] at h2
  simp only [Option.map_some, Option.some.injEq, DataW.lit.injEq, Lit.int.injEq, true_and] at h2
  subst h2
  have := congrArg (fun l : List Value => l[0]?) hc
  simpa [List.getElem?_take, List.getElem?_drop] using this

theorem cells_of_rows {P : Program} {w : World} {base : Nat} {sp : Nat → Bool} {held : Bool} {fuel : Nat} {t e : TypeId} {n : Nat} {fs : Array Field} {cs : List Value} {rows : List (List Int)} {p : List MemPlace}
    (ht : P.underlying t = some (.array n e)) (he : P.underlying e = some (.struct fs)) (hone : oneCellFields P fs = true) (hint : (fs.toList.all fun f => isI64 P f.type) = true)
    (h : DataW.trod (fun _ => ()) P w base sp held fuel t cs = some (rowsData rows, p)) : ∀ (i j : Nat) (r : List Int) (z : Int), rows[i]? = some r → r[j]? = some z → j < P.cellsOf e → cs[i * P.cellsOf e + j]? = some (.int .i64 z) := by
  obtain ⟨xs, m, _, hx, hcs, hlen, hf⟩ := DataW.trod_array ht h
  intro i j r z hr hz hje
  have hxs : xs.map (·.1) = rows.map fun r => (DataW.agg (r.map fun n => .lit (.int .i64 n)) : DataW Unit) := by
    have := congrArg Prod.fst hx
    simpa [rowsData] using this.symm
  have hl : rows.length = n := by have := congrArg List.length hxs; simp at this; omega
  have hi : i < n := by rw [← hl]; exact (List.getElem?_eq_some_iff.1 hr).1
  have hxi : xs[i]? = some (xs[i]'(by omega)) := List.getElem?_eq_getElem (by omega)
  have h1 := hf i hi
  rw [hxi] at h1
  have h2 : (xs.map (·.1))[i]? = some (xs[i]'(by omega)).1 := by rw [List.getElem?_map, hxi]; rfl
  rw [hxs, List.getElem?_map, hr] at h2
  simp only [Option.map_some, Option.some.injEq] at h2
  have h3 : DataW.trod (fun _ => ()) P w base sp held m e ((cs.drop (i * P.cellsOf e)).take (P.cellsOf e)) = some (.agg (r.map fun n => .lit (.int .i64 n)), (xs[i]'(by omega)).2) := by rw [h1, h2]
  have h4 := ints_of_struct he hone hint h3 j z hz
  rw [List.getElem?_take, if_pos hje, List.getElem?_drop] at h4
  exact h4

/-- The variable's cells. -/
theorem rows_of_laid {P : Program} {W : World} {name : String} {L : List (String × DataW Unit)} {g : Nat} {t e : TypeId} {n : Nat} {fs : Array Field} {rows : List (List Int)}
    (hL : L.filter (fun x => x.1 == name) = [(name, rowsData rows)]) (hp : (L.all fun x => x.2.handleName?.isNone) = true) (h : laidMetH P L W)
    (hg : P.globalNamed name = some g) (hty : (P.globals[g]?).map (·.type) = some t)
    (ht : P.underlying t = some (.array n e)) (he : P.underlying e = some (.struct fs)) (hone : oneCellFields P fs = true) (hint : (fs.toList.all fun f => isI64 P f.type) = true) :
    ∀ (i j : Nat) (r : List Int) (z : Int), rows[i]? = some r → r[j]? = some z → j < P.cellsOf e → W.cell? ⟨g, i * P.cellsOf e + j, none⟩ = some (.int .i64 z) := by
  rw [MakeChecks.laidMetH_plain _ _ _ hp] at h
  have h := laidMet.filter (fun x => x.1 == name) h
  rw [hL] at h
  obtain ⟨ps, ⟨g', t', cs, fuel, p, q, hg', ht', hvar, hd, _, _⟩, _⟩ := h
  obtain rfl := Option.some.inj (hg.symm.trans hg')
  obtain rfl := Option.some.inj (hty.symm.trans ht')
  intro i j r z hr hz hj
  have h1 := cells_of_rows ht he hone hint hd i j r z hr hz hj
  rw [World.var?_cell hg hvar]
  simpa using h1

/-- The errors among the listed variables. -/
theorem sent_of_laid_among {W : World} (keep : String × DataW Unit → Bool) (l : List (String × Nat × List UInt8)) (L : List (String × DataW Unit)) (hL : L.filter keep = l.map fun x => (x.1, .iface "*errors.errorString" (.ptr (.agg [.lit (.string x.2.2)]))))
    (hp : (L.all fun x => x.2.handleName?.isNone) = true) (h : laidMetH Tryd.prog L W) (hg : ∀ x ∈ l, Tryd.prog.globalNamed x.1 = some x.2.1 ∧ (Tryd.prog.globals[x.2.1]?).map (·.type) = some 62) :
    ∃ av : List Addr, av.length = l.length ∧ av.Nodup ∧ ∀ g a, (g, a) ∈ (l.map (·.2.1)).zip av → W.cell? ⟨g, 0, none⟩ = some (ErrV a) ∧ Plain W a := by
  rw [MakeChecks.laidMetH_plain _ _ _ hp] at h
  have h := laidMet.filter keep h
  rw [hL] at h
  obtain ⟨ps, h1, h2, h3⟩ := h
  obtain ⟨av, k1, k2, _, k4⟩ := sent_of_vars l ps h1 h2 h3 hg
  exact ⟨av, k1, k2, k4⟩

end Go.Proofs.YtlkghcfjcdeokaaDoor
