/-
  NARROWER THAN 'FOR EVERY INPUT', by the rows' own cells (each row's printed sentence says how): NumsTells: laid · NumsBack: laid · NumsOrder: laid · NumsWider: laid · NumsHalves: laid · NumsFits: laid · NumsCuts: laid · NumsParts: laid.
  DERIVED. THE GIVEN ROWS OF THIS SEAT. 8 by the template 'for every input the law returns true; each argument reads behind the call as it read before'; 0 by the template 'total and deterministic' (their statements: YtfnejgmgdhoanaaDoorTotals.lean).
  GIVEN WITH THE SEED: the statements are not yours to turn. If you find one false, say at which input.
  Laid BY PROGRAM, IN A SANDBOX (cutbox-rows.mjs): the forced cells as the released guide's own fill.sh prints them over the translation 107c45a8b34fc0ca… (all of the seat's roots in one cut). By AI agents, Wed Nov 11 2026. No macro, syntax, notation, axiom, sorry.
-/
import Derived.Test.YtfnejgmgdhoanaaDoorChecked
import GoSem.Claim
import GoSem.ClaimJoined
import GoSem.ClaimMapViews
import Derived.JoinedTies
import Derived.KernelRfl
namespace Go.Proofs.YtfnejgmgdhoanaaDoor
/- THE CELL 'sum', in the pinned program and in every row, IS THE sha256 OF THE DUMP (.gsa) THAT YtfnejgmgdhoanaaDoorProg.lean LOADS. Nothing in Lean hashes anything: it is a label: what it is worth is what the hold of that sum in a sandbox is worth. -/
noncomputable def Tryd.pinned : Pinned := { name := "ytfnejgmgdhoanaadoor", sum := "107c45a8b34fc0ca2203c7fd93864c6340aa0e1c8ead0df6fe4e34feb919aaa0", checked := Tryd.checked }
namespace Rows
def none {H : Type} : Left H := { results := [], args := [] }

/- WHAT THE LISTED PACKAGE-LEVEL VARIABLES READ AS WHEN THE CALL BEGINS. Each datum BY PROGRAM (the guide's laid-datum.mjs) off the statement by which the dump's own 'gosem.cut.vars' lays the variable. In a bare row this is a premise. The card (YtfnejgmgdhoanaaDoorCards.lean) ties it to the program's text. -/
def laid_postrider_nums_errWidth {H : Type} : DataW H := .iface "*errors.errorString" (.ptr (.agg [.lit (.string [110, 111, 32, 119, 105, 100, 116, 104])]))
def laid_postrider_nums_errNum {H : Type} : DataW H := .iface "*errors.errorString" (.ptr (.agg [.lit (.string [110, 111, 32, 110, 117, 109, 98, 101, 114])]))
def laid_postrider_nums_errShort {H : Type} : DataW H := .iface "*errors.errorString" (.ptr (.agg [.lit (.string [116, 111, 111, 32, 115, 104, 111, 114, 116])]))

/-- 'postriderlaw01.NumsTells': WHATEVER THE INPUT: true; the input reads as it did. -/
def numsTellsSpec : ChangeSpec := { name := "numsTells", fn := fun _ => fun
  | [d1, d2, d3, d4] => { results := [.lit (.bool true)], args := [d1, d2, d3, d4] }
  | _ => none }
def numsTellsRow : OpenClaim := { program := "ytfnejgmgdhoanaadoor", sum := "107c45a8b34fc0ca2203c7fd93864c6340aa0e1c8ead0df6fe4e34feb919aaa0", func := "postrider/postriderlaw01.NumsTells", spec := "numsTells", inPlace := ["internal/reflectlite.TypeOf"], unfollowed := true, recurses := true, named := ["postrider/nums.errNum", "postrider/nums.errWidth", "postrider/nums.errShort"], apart := false, laid := [("postrider/nums.errWidth", laid_postrider_nums_errWidth), ("postrider/nums.errNum", laid_postrider_nums_errNum), ("postrider/nums.errShort", laid_postrider_nums_errShort)] }
def NumsTellsSaid : Prop := numsTellsRow.holds Tryd.pinned (OpenSpec.ofChange numsTellsSpec)

/-- ITS FALSE NEIGHBOUR: 'it returns false'. Refute it at one input. -/
def numsTellsWrong : ChangeSpec := { name := "numsTells", fn := fun _ => fun
  | [d1, d2, d3, d4] => { results := [.lit (.bool false)], args := [d1, d2, d3, d4] }
  | _ => none }
def NumsTellsWrongFalsely : Prop := numsTellsRow.holds Tryd.pinned (OpenSpec.ofChange numsTellsWrong)

/-- 'postriderlaw01.NumsBack': WHATEVER THE INPUT: true; the input reads as it did. -/
def numsBackSpec : ChangeSpec := { name := "numsBack", fn := fun _ => fun
  | [d1, d2, d3, d4] => { results := [.lit (.bool true)], args := [d1, d2, d3, d4] }
  | _ => none }
def numsBackRow : OpenClaim := { program := "ytfnejgmgdhoanaadoor", sum := "107c45a8b34fc0ca2203c7fd93864c6340aa0e1c8ead0df6fe4e34feb919aaa0", func := "postrider/postriderlaw01.NumsBack", spec := "numsBack", inPlace := ["internal/reflectlite.TypeOf"], unfollowed := true, recurses := true, named := ["postrider/nums.errNum", "postrider/nums.errWidth", "postrider/nums.errShort"], apart := false, laid := [("postrider/nums.errWidth", laid_postrider_nums_errWidth), ("postrider/nums.errNum", laid_postrider_nums_errNum), ("postrider/nums.errShort", laid_postrider_nums_errShort)] }
def NumsBackSaid : Prop := numsBackRow.holds Tryd.pinned (OpenSpec.ofChange numsBackSpec)

/-- ITS FALSE NEIGHBOUR: 'it returns false'. Refute it at one input. -/
def numsBackWrong : ChangeSpec := { name := "numsBack", fn := fun _ => fun
  | [d1, d2, d3, d4] => { results := [.lit (.bool false)], args := [d1, d2, d3, d4] }
  | _ => none }
def NumsBackWrongFalsely : Prop := numsBackRow.holds Tryd.pinned (OpenSpec.ofChange numsBackWrong)

/-- 'postriderlaw01.NumsOrder': WHATEVER THE INPUT: true; the input reads as it did. -/
def numsOrderSpec : ChangeSpec := { name := "numsOrder", fn := fun _ => fun
  | [d1, d2, d3] => { results := [.lit (.bool true)], args := [d1, d2, d3] }
  | _ => none }
def numsOrderRow : OpenClaim := { program := "ytfnejgmgdhoanaadoor", sum := "107c45a8b34fc0ca2203c7fd93864c6340aa0e1c8ead0df6fe4e34feb919aaa0", func := "postrider/postriderlaw01.NumsOrder", spec := "numsOrder", inPlace := ["internal/reflectlite.TypeOf"], unfollowed := true, recurses := true, named := ["postrider/nums.errNum", "postrider/nums.errWidth", "postrider/nums.errShort"], apart := false, laid := [("postrider/nums.errWidth", laid_postrider_nums_errWidth), ("postrider/nums.errNum", laid_postrider_nums_errNum), ("postrider/nums.errShort", laid_postrider_nums_errShort)] }
def NumsOrderSaid : Prop := numsOrderRow.holds Tryd.pinned (OpenSpec.ofChange numsOrderSpec)

/-- ITS FALSE NEIGHBOUR: 'it returns false'. Refute it at one input. -/
def numsOrderWrong : ChangeSpec := { name := "numsOrder", fn := fun _ => fun
  | [d1, d2, d3] => { results := [.lit (.bool false)], args := [d1, d2, d3] }
  | _ => none }
def NumsOrderWrongFalsely : Prop := numsOrderRow.holds Tryd.pinned (OpenSpec.ofChange numsOrderWrong)

/-- 'postriderlaw01.NumsWider': WHATEVER THE INPUT: true; the input reads as it did. -/
def numsWiderSpec : ChangeSpec := { name := "numsWider", fn := fun _ => fun
  | [d1, d2] => { results := [.lit (.bool true)], args := [d1, d2] }
  | _ => none }
def numsWiderRow : OpenClaim := { program := "ytfnejgmgdhoanaadoor", sum := "107c45a8b34fc0ca2203c7fd93864c6340aa0e1c8ead0df6fe4e34feb919aaa0", func := "postrider/postriderlaw01.NumsWider", spec := "numsWider", inPlace := ["internal/reflectlite.TypeOf"], unfollowed := true, recurses := true, named := ["postrider/nums.errNum", "postrider/nums.errWidth", "postrider/nums.errShort"], apart := false, laid := [("postrider/nums.errWidth", laid_postrider_nums_errWidth), ("postrider/nums.errNum", laid_postrider_nums_errNum), ("postrider/nums.errShort", laid_postrider_nums_errShort)] }
def NumsWiderSaid : Prop := numsWiderRow.holds Tryd.pinned (OpenSpec.ofChange numsWiderSpec)

/-- ITS FALSE NEIGHBOUR: 'it returns false'. Refute it at one input. -/
def numsWiderWrong : ChangeSpec := { name := "numsWider", fn := fun _ => fun
  | [d1, d2] => { results := [.lit (.bool false)], args := [d1, d2] }
  | _ => none }
def NumsWiderWrongFalsely : Prop := numsWiderRow.holds Tryd.pinned (OpenSpec.ofChange numsWiderWrong)

/-- 'postriderlaw01.NumsHalves': WHATEVER THE INPUT: true; the input reads as it did. -/
def numsHalvesSpec : ChangeSpec := { name := "numsHalves", fn := fun _ => fun
  | [d1, d2, d3, d4] => { results := [.lit (.bool true)], args := [d1, d2, d3, d4] }
  | _ => none }
def numsHalvesRow : OpenClaim := { program := "ytfnejgmgdhoanaadoor", sum := "107c45a8b34fc0ca2203c7fd93864c6340aa0e1c8ead0df6fe4e34feb919aaa0", func := "postrider/postriderlaw01.NumsHalves", spec := "numsHalves", inPlace := ["internal/reflectlite.TypeOf"], unfollowed := true, recurses := true, named := ["postrider/nums.errNum", "postrider/nums.errWidth", "postrider/nums.errShort"], apart := false, laid := [("postrider/nums.errWidth", laid_postrider_nums_errWidth), ("postrider/nums.errNum", laid_postrider_nums_errNum), ("postrider/nums.errShort", laid_postrider_nums_errShort)] }
def NumsHalvesSaid : Prop := numsHalvesRow.holds Tryd.pinned (OpenSpec.ofChange numsHalvesSpec)

/-- ITS FALSE NEIGHBOUR: 'it returns false'. Refute it at one input. -/
def numsHalvesWrong : ChangeSpec := { name := "numsHalves", fn := fun _ => fun
  | [d1, d2, d3, d4] => { results := [.lit (.bool false)], args := [d1, d2, d3, d4] }
  | _ => none }
def NumsHalvesWrongFalsely : Prop := numsHalvesRow.holds Tryd.pinned (OpenSpec.ofChange numsHalvesWrong)

/-- 'postriderlaw01.NumsFits': WHATEVER THE INPUT: true; the input reads as it did. -/
def numsFitsSpec : ChangeSpec := { name := "numsFits", fn := fun _ => fun
  | [d1, d2] => { results := [.lit (.bool true)], args := [d1, d2] }
  | _ => none }
def numsFitsRow : OpenClaim := { program := "ytfnejgmgdhoanaadoor", sum := "107c45a8b34fc0ca2203c7fd93864c6340aa0e1c8ead0df6fe4e34feb919aaa0", func := "postrider/postriderlaw01.NumsFits", spec := "numsFits", inPlace := ["internal/reflectlite.TypeOf"], unfollowed := true, recurses := true, named := ["postrider/nums.errNum", "postrider/nums.errWidth", "postrider/nums.errShort"], apart := false, laid := [("postrider/nums.errWidth", laid_postrider_nums_errWidth), ("postrider/nums.errNum", laid_postrider_nums_errNum), ("postrider/nums.errShort", laid_postrider_nums_errShort)] }
def NumsFitsSaid : Prop := numsFitsRow.holds Tryd.pinned (OpenSpec.ofChange numsFitsSpec)

/-- ITS FALSE NEIGHBOUR: 'it returns false'. Refute it at one input. -/
def numsFitsWrong : ChangeSpec := { name := "numsFits", fn := fun _ => fun
  | [d1, d2] => { results := [.lit (.bool false)], args := [d1, d2] }
  | _ => none }
def NumsFitsWrongFalsely : Prop := numsFitsRow.holds Tryd.pinned (OpenSpec.ofChange numsFitsWrong)

/-- 'postriderlaw01.NumsCuts': WHATEVER THE INPUT: true; the input reads as it did. -/
def numsCutsSpec : ChangeSpec := { name := "numsCuts", fn := fun _ => fun
  | [d1, d2, d3] => { results := [.lit (.bool true)], args := [d1, d2, d3] }
  | _ => none }
def numsCutsRow : OpenClaim := { program := "ytfnejgmgdhoanaadoor", sum := "107c45a8b34fc0ca2203c7fd93864c6340aa0e1c8ead0df6fe4e34feb919aaa0", func := "postrider/postriderlaw01.NumsCuts", spec := "numsCuts", inPlace := ["internal/reflectlite.TypeOf"], unfollowed := true, recurses := true, named := ["postrider/nums.errNum", "postrider/nums.errWidth", "postrider/nums.errShort"], apart := false, laid := [("postrider/nums.errWidth", laid_postrider_nums_errWidth), ("postrider/nums.errNum", laid_postrider_nums_errNum), ("postrider/nums.errShort", laid_postrider_nums_errShort)] }
def NumsCutsSaid : Prop := numsCutsRow.holds Tryd.pinned (OpenSpec.ofChange numsCutsSpec)

/-- ITS FALSE NEIGHBOUR: 'it returns false'. Refute it at one input. -/
def numsCutsWrong : ChangeSpec := { name := "numsCuts", fn := fun _ => fun
  | [d1, d2, d3] => { results := [.lit (.bool false)], args := [d1, d2, d3] }
  | _ => none }
def NumsCutsWrongFalsely : Prop := numsCutsRow.holds Tryd.pinned (OpenSpec.ofChange numsCutsWrong)

/-- 'postriderlaw01.NumsParts': WHATEVER THE INPUT: true; the input reads as it did. -/
def numsPartsSpec : ChangeSpec := { name := "numsParts", fn := fun _ => fun
  | [d1, d2] => { results := [.lit (.bool true)], args := [d1, d2] }
  | _ => none }
def numsPartsRow : OpenClaim := { program := "ytfnejgmgdhoanaadoor", sum := "107c45a8b34fc0ca2203c7fd93864c6340aa0e1c8ead0df6fe4e34feb919aaa0", func := "postrider/postriderlaw01.NumsParts", spec := "numsParts", inPlace := ["internal/reflectlite.TypeOf"], unfollowed := true, recurses := true, named := ["postrider/nums.errNum", "postrider/nums.errWidth", "postrider/nums.errShort"], apart := false, laid := [("postrider/nums.errWidth", laid_postrider_nums_errWidth), ("postrider/nums.errNum", laid_postrider_nums_errNum), ("postrider/nums.errShort", laid_postrider_nums_errShort)] }
def NumsPartsSaid : Prop := numsPartsRow.holds Tryd.pinned (OpenSpec.ofChange numsPartsSpec)

/-- ITS FALSE NEIGHBOUR: 'it returns false'. Refute it at one input. -/
def numsPartsWrong : ChangeSpec := { name := "numsParts", fn := fun _ => fun
  | [d1, d2] => { results := [.lit (.bool false)], args := [d1, d2] }
  | _ => none }
def NumsPartsWrongFalsely : Prop := numsPartsRow.holds Tryd.pinned (OpenSpec.ofChange numsPartsWrong)

/- THE SECOND FORM. 'bulk': how many values and letters a reading holds, each counted each time it is reached (what is shared counts as often as it is met; a slice's spare places count too). A statement '..UptoSaid' is the law's where the arguments, and the package variables that the reading takes, are together of bulk at most 1048576: NARROWER than '..Said'. Prove '..Said' where nothing that the law and all that it calls make is longer than what came in: it says more and counts as full. Else prove '..UptoSaid'. A law counts once. -/
mutual
def uptoBulk {H : Type} : DataW H → Nat
  | .lit (.string bytes) => bytes.length + 1
  | .lit _ => 1
  | .nil => 1
  | .ptr d => uptoBulk d + 1
  | .slice elems spare => uptoBulkAll elems + uptoBulkAll spare + 1
  | .agg parts => uptoBulkAll parts + 1
  | .iface _ d => uptoBulk d + 1
  | .map entries => uptoBulkEntries entries + 1
  | .held _ => 1
def uptoBulkAll {H : Type} : List (DataW H) → Nat
  | [] => 0
  | d :: r => uptoBulk d + uptoBulkAll r
def uptoBulkEntries {H : Type} : List (Lit × DataW H) → Nat
  | [] => 0
  | x :: r => uptoBulkEntry x + uptoBulkEntries r
def uptoBulkEntry {H : Type} : Lit × DataW H → Nat
  | (.string bytes, d) => bytes.length + uptoBulk d + 1
  | (_, d) => uptoBulk d + 1
 end
def uptoSmall : (H : Type) → List (DataW H) → Bool := fun _ ds => decide (uptoBulkAll ds ≤ 1048576)
def OpenSpec.upto (s : _root_.Go.ChangeSpec) : _root_.Go.OpenSpec := { _root_.Go.OpenSpec.ofChange s with cond := some uptoSmall }

/-- 'postriderlaw01.NumsTells', WHERE WHAT IT READS IS OF BULK AT MOST 1048576: true; the input reads as it did. -/
def numsTellsUptoRow : OpenClaim := { program := "ytfnejgmgdhoanaadoor", sum := "107c45a8b34fc0ca2203c7fd93864c6340aa0e1c8ead0df6fe4e34feb919aaa0", func := "postrider/postriderlaw01.NumsTells", spec := "numsTells", inPlace := ["internal/reflectlite.TypeOf"], unfollowed := true, recurses := true, named := ["postrider/nums.errNum", "postrider/nums.errWidth", "postrider/nums.errShort"], apart := false, laid := [("postrider/nums.errWidth", laid_postrider_nums_errWidth), ("postrider/nums.errNum", laid_postrider_nums_errNum), ("postrider/nums.errShort", laid_postrider_nums_errShort)], narrowed := true }
def NumsTellsUptoSaid : Prop := numsTellsUptoRow.holds Tryd.pinned (OpenSpec.upto numsTellsSpec)

/-- 'postriderlaw01.NumsBack', WHERE WHAT IT READS IS OF BULK AT MOST 1048576: true; the input reads as it did. -/
def numsBackUptoRow : OpenClaim := { program := "ytfnejgmgdhoanaadoor", sum := "107c45a8b34fc0ca2203c7fd93864c6340aa0e1c8ead0df6fe4e34feb919aaa0", func := "postrider/postriderlaw01.NumsBack", spec := "numsBack", inPlace := ["internal/reflectlite.TypeOf"], unfollowed := true, recurses := true, named := ["postrider/nums.errNum", "postrider/nums.errWidth", "postrider/nums.errShort"], apart := false, laid := [("postrider/nums.errWidth", laid_postrider_nums_errWidth), ("postrider/nums.errNum", laid_postrider_nums_errNum), ("postrider/nums.errShort", laid_postrider_nums_errShort)], narrowed := true }
def NumsBackUptoSaid : Prop := numsBackUptoRow.holds Tryd.pinned (OpenSpec.upto numsBackSpec)

/-- 'postriderlaw01.NumsOrder', WHERE WHAT IT READS IS OF BULK AT MOST 1048576: true; the input reads as it did. -/
def numsOrderUptoRow : OpenClaim := { program := "ytfnejgmgdhoanaadoor", sum := "107c45a8b34fc0ca2203c7fd93864c6340aa0e1c8ead0df6fe4e34feb919aaa0", func := "postrider/postriderlaw01.NumsOrder", spec := "numsOrder", inPlace := ["internal/reflectlite.TypeOf"], unfollowed := true, recurses := true, named := ["postrider/nums.errNum", "postrider/nums.errWidth", "postrider/nums.errShort"], apart := false, laid := [("postrider/nums.errWidth", laid_postrider_nums_errWidth), ("postrider/nums.errNum", laid_postrider_nums_errNum), ("postrider/nums.errShort", laid_postrider_nums_errShort)], narrowed := true }
def NumsOrderUptoSaid : Prop := numsOrderUptoRow.holds Tryd.pinned (OpenSpec.upto numsOrderSpec)

/-- 'postriderlaw01.NumsWider', WHERE WHAT IT READS IS OF BULK AT MOST 1048576: true; the input reads as it did. -/
def numsWiderUptoRow : OpenClaim := { program := "ytfnejgmgdhoanaadoor", sum := "107c45a8b34fc0ca2203c7fd93864c6340aa0e1c8ead0df6fe4e34feb919aaa0", func := "postrider/postriderlaw01.NumsWider", spec := "numsWider", inPlace := ["internal/reflectlite.TypeOf"], unfollowed := true, recurses := true, named := ["postrider/nums.errNum", "postrider/nums.errWidth", "postrider/nums.errShort"], apart := false, laid := [("postrider/nums.errWidth", laid_postrider_nums_errWidth), ("postrider/nums.errNum", laid_postrider_nums_errNum), ("postrider/nums.errShort", laid_postrider_nums_errShort)], narrowed := true }
def NumsWiderUptoSaid : Prop := numsWiderUptoRow.holds Tryd.pinned (OpenSpec.upto numsWiderSpec)

/-- 'postriderlaw01.NumsHalves', WHERE WHAT IT READS IS OF BULK AT MOST 1048576: true; the input reads as it did. -/
def numsHalvesUptoRow : OpenClaim := { program := "ytfnejgmgdhoanaadoor", sum := "107c45a8b34fc0ca2203c7fd93864c6340aa0e1c8ead0df6fe4e34feb919aaa0", func := "postrider/postriderlaw01.NumsHalves", spec := "numsHalves", inPlace := ["internal/reflectlite.TypeOf"], unfollowed := true, recurses := true, named := ["postrider/nums.errNum", "postrider/nums.errWidth", "postrider/nums.errShort"], apart := false, laid := [("postrider/nums.errWidth", laid_postrider_nums_errWidth), ("postrider/nums.errNum", laid_postrider_nums_errNum), ("postrider/nums.errShort", laid_postrider_nums_errShort)], narrowed := true }
def NumsHalvesUptoSaid : Prop := numsHalvesUptoRow.holds Tryd.pinned (OpenSpec.upto numsHalvesSpec)

/-- 'postriderlaw01.NumsFits', WHERE WHAT IT READS IS OF BULK AT MOST 1048576: true; the input reads as it did. -/
def numsFitsUptoRow : OpenClaim := { program := "ytfnejgmgdhoanaadoor", sum := "107c45a8b34fc0ca2203c7fd93864c6340aa0e1c8ead0df6fe4e34feb919aaa0", func := "postrider/postriderlaw01.NumsFits", spec := "numsFits", inPlace := ["internal/reflectlite.TypeOf"], unfollowed := true, recurses := true, named := ["postrider/nums.errNum", "postrider/nums.errWidth", "postrider/nums.errShort"], apart := false, laid := [("postrider/nums.errWidth", laid_postrider_nums_errWidth), ("postrider/nums.errNum", laid_postrider_nums_errNum), ("postrider/nums.errShort", laid_postrider_nums_errShort)], narrowed := true }
def NumsFitsUptoSaid : Prop := numsFitsUptoRow.holds Tryd.pinned (OpenSpec.upto numsFitsSpec)

/-- 'postriderlaw01.NumsCuts', WHERE WHAT IT READS IS OF BULK AT MOST 1048576: true; the input reads as it did. -/
def numsCutsUptoRow : OpenClaim := { program := "ytfnejgmgdhoanaadoor", sum := "107c45a8b34fc0ca2203c7fd93864c6340aa0e1c8ead0df6fe4e34feb919aaa0", func := "postrider/postriderlaw01.NumsCuts", spec := "numsCuts", inPlace := ["internal/reflectlite.TypeOf"], unfollowed := true, recurses := true, named := ["postrider/nums.errNum", "postrider/nums.errWidth", "postrider/nums.errShort"], apart := false, laid := [("postrider/nums.errWidth", laid_postrider_nums_errWidth), ("postrider/nums.errNum", laid_postrider_nums_errNum), ("postrider/nums.errShort", laid_postrider_nums_errShort)], narrowed := true }
def NumsCutsUptoSaid : Prop := numsCutsUptoRow.holds Tryd.pinned (OpenSpec.upto numsCutsSpec)

/-- 'postriderlaw01.NumsParts', WHERE WHAT IT READS IS OF BULK AT MOST 1048576: true; the input reads as it did. -/
def numsPartsUptoRow : OpenClaim := { program := "ytfnejgmgdhoanaadoor", sum := "107c45a8b34fc0ca2203c7fd93864c6340aa0e1c8ead0df6fe4e34feb919aaa0", func := "postrider/postriderlaw01.NumsParts", spec := "numsParts", inPlace := ["internal/reflectlite.TypeOf"], unfollowed := true, recurses := true, named := ["postrider/nums.errNum", "postrider/nums.errWidth", "postrider/nums.errShort"], apart := false, laid := [("postrider/nums.errWidth", laid_postrider_nums_errWidth), ("postrider/nums.errNum", laid_postrider_nums_errNum), ("postrider/nums.errShort", laid_postrider_nums_errShort)], narrowed := true }
def NumsPartsUptoSaid : Prop := numsPartsUptoRow.holds Tryd.pinned (OpenSpec.upto numsPartsSpec)

end Rows
end Go.Proofs.YtfnejgmgdhoanaaDoor
