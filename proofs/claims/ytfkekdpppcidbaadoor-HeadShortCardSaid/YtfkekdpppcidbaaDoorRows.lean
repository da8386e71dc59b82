/-
  NARROWER THAN 'FOR EVERY INPUT', by the rows' own cells (each row's printed sentence says how): HeadBack: laid · HeadApart: laid · HeadOrder: laid · HeadShort: laid · HeadCodes: laid · HeadSizes: laid · HeadReads: laid.
  DERIVED. THE GIVEN ROWS OF THIS SEAT. 7 by the template 'for every input the law returns true; each argument reads behind the call as it read before'; 0 by the template 'total and deterministic' (their statements: YtfkekdpppcidbaaDoorTotals.lean).
  GIVEN WITH THE SEED: the statements are not yours to turn. If you find one false, say at which input.
  Laid BY PROGRAM, IN A SANDBOX (cutbox-rows.mjs): the forced cells as the released guide's own fill.sh prints them over the translation 609395d64161d2ea… (all of the seat's roots in one cut). By AI agents, Wed Nov 11 2026. No macro, syntax, notation, axiom, sorry.
-/
import Derived.Test.YtfkekdpppcidbaaDoorChecked
import GoSem.Claim
import GoSem.ClaimJoined
import GoSem.ClaimMapViews
import Derived.JoinedTies
import Derived.KernelRfl
namespace Go.Proofs.YtfkekdpppcidbaaDoor
/- THE CELL 'sum', in the pinned program and in every row, IS THE sha256 OF THE DUMP (.gsa) THAT YtfkekdpppcidbaaDoorProg.lean LOADS. Nothing in Lean hashes anything: it is a label: what it is worth is what the hold of that sum in a sandbox is worth. -/
noncomputable def Tryd.pinned : Pinned := { name := "ytfkekdpppcidbaadoor", sum := "609395d64161d2eae130b4ab741ee139ced0e0c3a3e3927d182c1491bd62bae5", checked := Tryd.checked }
namespace Rows
def none {H : Type} : Left H := { results := [], args := [] }

/- WHAT THE LISTED PACKAGE-LEVEL VARIABLES READ AS WHEN THE CALL BEGINS. Each datum BY PROGRAM (the guide's laid-datum.mjs) off the statement by which the dump's own 'gosem.cut.vars' lays the variable. In a bare row this is a premise. The card (YtfkekdpppcidbaaDoorCards.lean) ties it to the program's text. -/
def laid_postrider_nums_errWidth {H : Type} : DataW H := .iface "*errors.errorString" (.ptr (.agg [.lit (.string [110, 111, 32, 119, 105, 100, 116, 104])]))
def laid_postrider_nums_errNum {H : Type} : DataW H := .iface "*errors.errorString" (.ptr (.agg [.lit (.string [110, 111, 32, 110, 117, 109, 98, 101, 114])]))
def laid_postrider_nums_errShort {H : Type} : DataW H := .iface "*errors.errorString" (.ptr (.agg [.lit (.string [116, 111, 111, 32, 115, 104, 111, 114, 116])]))
def laid_postrider_head_errMajor {H : Type} : DataW H := .iface "*errors.errorString" (.ptr (.agg [.lit (.string [110, 111, 32, 109, 97, 106, 111, 114])]))
def laid_postrider_head_errNum {H : Type} : DataW H := .iface "*errors.errorString" (.ptr (.agg [.lit (.string [110, 111, 32, 110, 117, 109, 98, 101, 114])]))
def laid_postrider_head_errShort {H : Type} : DataW H := .iface "*errors.errorString" (.ptr (.agg [.lit (.string [116, 111, 111, 32, 115, 104, 111, 114, 116])]))
def laid_postrider_head_errForm {H : Type} : DataW H := .iface "*errors.errorString" (.ptr (.agg [.lit (.string [110, 111, 32, 104, 101, 97, 100])]))
def laid_postrider_head_rooms {H : Type} : DataW H := .agg [.agg [.lit (.int .i64 0), .lit (.int .i64 24), .lit (.int .i64 0)], .agg [.lit (.int .i64 1), .lit (.int .i64 256), .lit (.int .i64 24)], .agg [.lit (.int .i64 2), .lit (.int .i64 65536), .lit (.int .i64 25)], .agg [.lit (.int .i64 4), .lit (.int .i64 4294967296), .lit (.int .i64 26)], .agg [.lit (.int .i64 8), .lit (.int .i64 281474976710656), .lit (.int .i64 27)]]

/-- 'postriderlaw03.HeadBack': WHATEVER THE INPUT: true; the input reads as it did. -/
def headBackSpec : ChangeSpec := { name := "headBack", fn := fun _ => fun
  | [d1, d2, d3, d4] => { results := [.lit (.bool true)], args := [d1, d2, d3, d4] }
  | _ => none }
def headBackRow : OpenClaim := { program := "ytfkekdpppcidbaadoor", sum := "609395d64161d2eae130b4ab741ee139ced0e0c3a3e3927d182c1491bd62bae5", func := "postrider/postriderlaw03.HeadBack", spec := "headBack", inPlace := ["internal/reflectlite.TypeOf"], unfollowed := true, recurses := true, named := ["postrider/head.errMajor", "postrider/head.errNum", "postrider/head.rooms", "postrider/nums.errNum", "postrider/nums.errWidth", "postrider/nums.errShort", "postrider/head.errShort", "postrider/head.errForm"], apart := false, laid := [("postrider/nums.errWidth", laid_postrider_nums_errWidth), ("postrider/nums.errNum", laid_postrider_nums_errNum), ("postrider/nums.errShort", laid_postrider_nums_errShort), ("postrider/head.errMajor", laid_postrider_head_errMajor), ("postrider/head.errNum", laid_postrider_head_errNum), ("postrider/head.errShort", laid_postrider_head_errShort), ("postrider/head.errForm", laid_postrider_head_errForm), ("postrider/head.rooms", laid_postrider_head_rooms)] }
def HeadBackSaid : Prop := headBackRow.holds Tryd.pinned (OpenSpec.ofChange headBackSpec)

/-- ITS FALSE NEIGHBOUR: 'it returns false'. Refute it at one input. -/
def headBackWrong : ChangeSpec := { name := "headBack", fn := fun _ => fun
  | [d1, d2, d3, d4] => { results := [.lit (.bool false)], args := [d1, d2, d3, d4] }
  | _ => none }
def HeadBackWrongFalsely : Prop := headBackRow.holds Tryd.pinned (OpenSpec.ofChange headBackWrong)

/-- 'postriderlaw03.HeadApart': WHATEVER THE INPUT: true; the input reads as it did. -/
def headApartSpec : ChangeSpec := { name := "headApart", fn := fun _ => fun
  | [d1, d2, d3, d4] => { results := [.lit (.bool true)], args := [d1, d2, d3, d4] }
  | _ => none }
def headApartRow : OpenClaim := { program := "ytfkekdpppcidbaadoor", sum := "609395d64161d2eae130b4ab741ee139ced0e0c3a3e3927d182c1491bd62bae5", func := "postrider/postriderlaw03.HeadApart", spec := "headApart", inPlace := ["internal/reflectlite.TypeOf"], unfollowed := true, recurses := true, named := ["postrider/head.errMajor", "postrider/head.errNum", "postrider/head.rooms", "postrider/nums.errNum", "postrider/nums.errWidth", "postrider/nums.errShort", "postrider/head.errShort", "postrider/head.errForm"], apart := false, laid := [("postrider/nums.errWidth", laid_postrider_nums_errWidth), ("postrider/nums.errNum", laid_postrider_nums_errNum), ("postrider/nums.errShort", laid_postrider_nums_errShort), ("postrider/head.errMajor", laid_postrider_head_errMajor), ("postrider/head.errNum", laid_postrider_head_errNum), ("postrider/head.errShort", laid_postrider_head_errShort), ("postrider/head.errForm", laid_postrider_head_errForm), ("postrider/head.rooms", laid_postrider_head_rooms)] }
def HeadApartSaid : Prop := headApartRow.holds Tryd.pinned (OpenSpec.ofChange headApartSpec)

/-- ITS FALSE NEIGHBOUR: 'it returns false'. Refute it at one input. -/
def headApartWrong : ChangeSpec := { name := "headApart", fn := fun _ => fun
  | [d1, d2, d3, d4] => { results := [.lit (.bool false)], args := [d1, d2, d3, d4] }
  | _ => none }
def HeadApartWrongFalsely : Prop := headApartRow.holds Tryd.pinned (OpenSpec.ofChange headApartWrong)

/-- 'postriderlaw03.HeadOrder': WHATEVER THE INPUT: true; the input reads as it did. -/
def headOrderSpec : ChangeSpec := { name := "headOrder", fn := fun _ => fun
  | [d1, d2, d3] => { results := [.lit (.bool true)], args := [d1, d2, d3] }
  | _ => none }
def headOrderRow : OpenClaim := { program := "ytfkekdpppcidbaadoor", sum := "609395d64161d2eae130b4ab741ee139ced0e0c3a3e3927d182c1491bd62bae5", func := "postrider/postriderlaw03.HeadOrder", spec := "headOrder", inPlace := ["internal/reflectlite.TypeOf"], unfollowed := true, recurses := true, named := ["postrider/head.errMajor", "postrider/head.errNum", "postrider/head.rooms", "postrider/nums.errNum", "postrider/nums.errWidth", "postrider/nums.errShort", "postrider/head.errShort", "postrider/head.errForm"], apart := false, laid := [("postrider/nums.errWidth", laid_postrider_nums_errWidth), ("postrider/nums.errNum", laid_postrider_nums_errNum), ("postrider/nums.errShort", laid_postrider_nums_errShort), ("postrider/head.errMajor", laid_postrider_head_errMajor), ("postrider/head.errNum", laid_postrider_head_errNum), ("postrider/head.errShort", laid_postrider_head_errShort), ("postrider/head.errForm", laid_postrider_head_errForm), ("postrider/head.rooms", laid_postrider_head_rooms)] }
def HeadOrderSaid : Prop := headOrderRow.holds Tryd.pinned (OpenSpec.ofChange headOrderSpec)

/-- ITS FALSE NEIGHBOUR: 'it returns false'. Refute it at one input. -/
def headOrderWrong : ChangeSpec := { name := "headOrder", fn := fun _ => fun
  | [d1, d2, d3] => { results := [.lit (.bool false)], args := [d1, d2, d3] }
  | _ => none }
def HeadOrderWrongFalsely : Prop := headOrderRow.holds Tryd.pinned (OpenSpec.ofChange headOrderWrong)

/-- 'postriderlaw03.HeadShort': WHATEVER THE INPUT: true; the input reads as it did. -/
def headShortSpec : ChangeSpec := { name := "headShort", fn := fun _ => fun
  | [d1, d2, d3] => { results := [.lit (.bool true)], args := [d1, d2, d3] }
  | _ => none }
def headShortRow : OpenClaim := { program := "ytfkekdpppcidbaadoor", sum := "609395d64161d2eae130b4ab741ee139ced0e0c3a3e3927d182c1491bd62bae5", func := "postrider/postriderlaw03.HeadShort", spec := "headShort", inPlace := ["internal/reflectlite.TypeOf"], unfollowed := true, recurses := true, named := ["postrider/head.errMajor", "postrider/head.errNum", "postrider/head.rooms", "postrider/nums.errNum", "postrider/nums.errWidth", "postrider/nums.errShort", "postrider/head.errShort", "postrider/head.errForm"], apart := false, laid := [("postrider/nums.errWidth", laid_postrider_nums_errWidth), ("postrider/nums.errNum", laid_postrider_nums_errNum), ("postrider/nums.errShort", laid_postrider_nums_errShort), ("postrider/head.errMajor", laid_postrider_head_errMajor), ("postrider/head.errNum", laid_postrider_head_errNum), ("postrider/head.errShort", laid_postrider_head_errShort), ("postrider/head.errForm", laid_postrider_head_errForm), ("postrider/head.rooms", laid_postrider_head_rooms)] }
def HeadShortSaid : Prop := headShortRow.holds Tryd.pinned (OpenSpec.ofChange headShortSpec)

/-- ITS FALSE NEIGHBOUR: 'it returns false'. Refute it at one input. -/
def headShortWrong : ChangeSpec := { name := "headShort", fn := fun _ => fun
  | [d1, d2, d3] => { results := [.lit (.bool false)], args := [d1, d2, d3] }
  | _ => none }
def HeadShortWrongFalsely : Prop := headShortRow.holds Tryd.pinned (OpenSpec.ofChange headShortWrong)

/-- 'postriderlaw03.HeadCodes': WHATEVER THE INPUT: true; the input reads as it did. -/
def headCodesSpec : ChangeSpec := { name := "headCodes", fn := fun _ => fun
  | [d1, d2, d3, d4] => { results := [.lit (.bool true)], args := [d1, d2, d3, d4] }
  | _ => none }
def headCodesRow : OpenClaim := { program := "ytfkekdpppcidbaadoor", sum := "609395d64161d2eae130b4ab741ee139ced0e0c3a3e3927d182c1491bd62bae5", func := "postrider/postriderlaw03.HeadCodes", spec := "headCodes", inPlace := ["internal/reflectlite.TypeOf"], unfollowed := true, recurses := true, named := ["postrider/head.errMajor", "postrider/head.errNum", "postrider/head.rooms", "postrider/nums.errNum", "postrider/nums.errWidth", "postrider/nums.errShort", "postrider/head.errShort", "postrider/head.errForm"], apart := false, laid := [("postrider/nums.errWidth", laid_postrider_nums_errWidth), ("postrider/nums.errNum", laid_postrider_nums_errNum), ("postrider/nums.errShort", laid_postrider_nums_errShort), ("postrider/head.errMajor", laid_postrider_head_errMajor), ("postrider/head.errNum", laid_postrider_head_errNum), ("postrider/head.errShort", laid_postrider_head_errShort), ("postrider/head.errForm", laid_postrider_head_errForm), ("postrider/head.rooms", laid_postrider_head_rooms)] }
def HeadCodesSaid : Prop := headCodesRow.holds Tryd.pinned (OpenSpec.ofChange headCodesSpec)

/-- ITS FALSE NEIGHBOUR: 'it returns false'. Refute it at one input. -/
def headCodesWrong : ChangeSpec := { name := "headCodes", fn := fun _ => fun
  | [d1, d2, d3, d4] => { results := [.lit (.bool false)], args := [d1, d2, d3, d4] }
  | _ => none }
def HeadCodesWrongFalsely : Prop := headCodesRow.holds Tryd.pinned (OpenSpec.ofChange headCodesWrong)

/-- 'postriderlaw03.HeadSizes': WHATEVER THE INPUT: true; the input reads as it did. -/
def headSizesSpec : ChangeSpec := { name := "headSizes", fn := fun _ => fun
  | [d1, d2, d3] => { results := [.lit (.bool true)], args := [d1, d2, d3] }
  | _ => none }
def headSizesRow : OpenClaim := { program := "ytfkekdpppcidbaadoor", sum := "609395d64161d2eae130b4ab741ee139ced0e0c3a3e3927d182c1491bd62bae5", func := "postrider/postriderlaw03.HeadSizes", spec := "headSizes", inPlace := ["internal/reflectlite.TypeOf"], unfollowed := true, recurses := true, named := ["postrider/head.errMajor", "postrider/head.errNum", "postrider/head.rooms", "postrider/nums.errNum", "postrider/nums.errWidth", "postrider/nums.errShort", "postrider/head.errShort", "postrider/head.errForm"], apart := false, laid := [("postrider/nums.errWidth", laid_postrider_nums_errWidth), ("postrider/nums.errNum", laid_postrider_nums_errNum), ("postrider/nums.errShort", laid_postrider_nums_errShort), ("postrider/head.errMajor", laid_postrider_head_errMajor), ("postrider/head.errNum", laid_postrider_head_errNum), ("postrider/head.errShort", laid_postrider_head_errShort), ("postrider/head.errForm", laid_postrider_head_errForm), ("postrider/head.rooms", laid_postrider_head_rooms)] }
def HeadSizesSaid : Prop := headSizesRow.holds Tryd.pinned (OpenSpec.ofChange headSizesSpec)

/-- ITS FALSE NEIGHBOUR: 'it returns false'. Refute it at one input. -/
def headSizesWrong : ChangeSpec := { name := "headSizes", fn := fun _ => fun
  | [d1, d2, d3] => { results := [.lit (.bool false)], args := [d1, d2, d3] }
  | _ => none }
def HeadSizesWrongFalsely : Prop := headSizesRow.holds Tryd.pinned (OpenSpec.ofChange headSizesWrong)

/-- 'postriderlaw03.HeadReads': WHATEVER THE INPUT: true; the input reads as it did. -/
def headReadsSpec : ChangeSpec := { name := "headReads", fn := fun _ => fun
  | [d1, d2] => { results := [.lit (.bool true)], args := [d1, d2] }
  | _ => none }
def headReadsRow : OpenClaim := { program := "ytfkekdpppcidbaadoor", sum := "609395d64161d2eae130b4ab741ee139ced0e0c3a3e3927d182c1491bd62bae5", func := "postrider/postriderlaw03.HeadReads", spec := "headReads", inPlace := ["internal/reflectlite.TypeOf"], unfollowed := true, recurses := true, named := ["postrider/head.errMajor", "postrider/head.errNum", "postrider/head.rooms", "postrider/nums.errNum", "postrider/nums.errWidth", "postrider/nums.errShort", "postrider/head.errShort", "postrider/head.errForm"], apart := false, laid := [("postrider/nums.errWidth", laid_postrider_nums_errWidth), ("postrider/nums.errNum", laid_postrider_nums_errNum), ("postrider/nums.errShort", laid_postrider_nums_errShort), ("postrider/head.errMajor", laid_postrider_head_errMajor), ("postrider/head.errNum", laid_postrider_head_errNum), ("postrider/head.errShort", laid_postrider_head_errShort), ("postrider/head.errForm", laid_postrider_head_errForm), ("postrider/head.rooms", laid_postrider_head_rooms)] }
def HeadReadsSaid : Prop := headReadsRow.holds Tryd.pinned (OpenSpec.ofChange headReadsSpec)

/-- ITS FALSE NEIGHBOUR: 'it returns false'. Refute it at one input. -/
def headReadsWrong : ChangeSpec := { name := "headReads", fn := fun _ => fun
  | [d1, d2] => { results := [.lit (.bool false)], args := [d1, d2] }
  | _ => none }
def HeadReadsWrongFalsely : Prop := headReadsRow.holds Tryd.pinned (OpenSpec.ofChange headReadsWrong)

/- THE SECOND FORM. 'bulk': how many values and letters a reading holds, each counted each time it is reached (what is shared counts as often as it is met; a slice's spare places count too). A statement '..UptoSaid' is the law's where the arguments, and the package variables that the reading takes, are together of bulk at most 1048576: NARROWER than '..Said'. Prove '..Said' where nothing that the law and all that it calls make is longer than what came in: it says more and counts as full. Else prove '..UptoSaid'. A law counts once. -/
mutual
def uptoBulk {H : Type} : DataW H → Nat
  | .lit (.string bytes) => bytes.length + 1
  | .lit _ => 1
  | .nil => 1
  | .ptr d => uptoBulk d + 1
  | .slice elems spare => uptoBulkAll elems + uptoBulkAll spare + 1
  | .agg parts => uptoBulkAll parts + 1
  | .iface _ d => uptoBulk d + 1
  | .map entries => uptoBulkEntries entries + 1
  | .held _ => 1
def uptoBulkAll {H : Type} : List (DataW H) → Nat
  | [] => 0
  | d :: r => uptoBulk d + uptoBulkAll r
def uptoBulkEntries {H : Type} : List (Lit × DataW H) → Nat
  | [] => 0
  | x :: r => uptoBulkEntry x + uptoBulkEntries r
def uptoBulkEntry {H : Type} : Lit × DataW H → Nat
  | (.string bytes, d) => bytes.length + uptoBulk d + 1
  | (_, d) => uptoBulk d + 1
 end
def uptoSmall : (H : Type) → List (DataW H) → Bool := fun _ ds => decide (uptoBulkAll ds ≤ 1048576)
def OpenSpec.upto (s : _root_.Go.ChangeSpec) : _root_.Go.OpenSpec := { _root_.Go.OpenSpec.ofChange s with cond := some uptoSmall }

/-- 'postriderlaw03.HeadBack', WHERE WHAT IT READS IS OF BULK AT MOST 1048576: true; the input reads as it did. -/
def headBackUptoRow : OpenClaim := { program := "ytfkekdpppcidbaadoor", sum := "609395d64161d2eae130b4ab741ee139ced0e0c3a3e3927d182c1491bd62bae5", func := "postrider/postriderlaw03.HeadBack", spec := "headBack", inPlace := ["internal/reflectlite.TypeOf"], unfollowed := true, recurses := true, named := ["postrider/head.errMajor", "postrider/head.errNum", "postrider/head.rooms", "postrider/nums.errNum", "postrider/nums.errWidth", "postrider/nums.errShort", "postrider/head.errShort", "postrider/head.errForm"], apart := false, laid := [("postrider/nums.errWidth", laid_postrider_nums_errWidth), ("postrider/nums.errNum", laid_postrider_nums_errNum), ("postrider/nums.errShort", laid_postrider_nums_errShort), ("postrider/head.errMajor", laid_postrider_head_errMajor), ("postrider/head.errNum", laid_postrider_head_errNum), ("postrider/head.errShort", laid_postrider_head_errShort), ("postrider/head.errForm", laid_postrider_head_errForm), ("postrider/head.rooms", laid_postrider_head_rooms)], narrowed := true }
def HeadBackUptoSaid : Prop := headBackUptoRow.holds Tryd.pinned (OpenSpec.upto headBackSpec)

/-- 'postriderlaw03.HeadApart', WHERE WHAT IT READS IS OF BULK AT MOST 1048576: true; the input reads as it did. -/
def headApartUptoRow : OpenClaim := { program := "ytfkekdpppcidbaadoor", sum := "609395d64161d2eae130b4ab741ee139ced0e0c3a3e3927d182c1491bd62bae5", func := "postrider/postriderlaw03.HeadApart", spec := "headApart", inPlace := ["internal/reflectlite.TypeOf"], unfollowed := true, recurses := true, named := ["postrider/head.errMajor", "postrider/head.errNum", "postrider/head.rooms", "postrider/nums.errNum", "postrider/nums.errWidth", "postrider/nums.errShort", "postrider/head.errShort", "postrider/head.errForm"], apart := false, laid := [("postrider/nums.errWidth", laid_postrider_nums_errWidth), ("postrider/nums.errNum", laid_postrider_nums_errNum), ("postrider/nums.errShort", laid_postrider_nums_errShort), ("postrider/head.errMajor", laid_postrider_head_errMajor), ("postrider/head.errNum", laid_postrider_head_errNum), ("postrider/head.errShort", laid_postrider_head_errShort), ("postrider/head.errForm", laid_postrider_head_errForm), ("postrider/head.rooms", laid_postrider_head_rooms)], narrowed := true }
def HeadApartUptoSaid : Prop := headApartUptoRow.holds Tryd.pinned (OpenSpec.upto headApartSpec)

/-- 'postriderlaw03.HeadOrder', WHERE WHAT IT READS IS OF BULK AT MOST 1048576: true; the input reads as it did. -/
def headOrderUptoRow : OpenClaim := { program := "ytfkekdpppcidbaadoor", sum := "609395d64161d2eae130b4ab741ee139ced0e0c3a3e3927d182c1491bd62bae5", func := "postrider/postriderlaw03.HeadOrder", spec := "headOrder", inPlace := ["internal/reflectlite.TypeOf"], unfollowed := true, recurses := true, named := ["postrider/head.errMajor", "postrider/head.errNum", "postrider/head.rooms", "postrider/nums.errNum", "postrider/nums.errWidth", "postrider/nums.errShort", "postrider/head.errShort", "postrider/head.errForm"], apart := false, laid := [("postrider/nums.errWidth", laid_postrider_nums_errWidth), ("postrider/nums.errNum", laid_postrider_nums_errNum), ("postrider/nums.errShort", laid_postrider_nums_errShort), ("postrider/head.errMajor", laid_postrider_head_errMajor), ("postrider/head.errNum", laid_postrider_head_errNum), ("postrider/head.errShort", laid_postrider_head_errShort), ("postrider/head.errForm", laid_postrider_head_errForm), ("postrider/head.rooms", laid_postrider_head_rooms)], narrowed := true }
def HeadOrderUptoSaid : Prop := headOrderUptoRow.holds Tryd.pinned (OpenSpec.upto headOrderSpec)

/-- 'postriderlaw03.HeadShort', WHERE WHAT IT READS IS OF BULK AT MOST 1048576: true; the input reads as it did. -/
def headShortUptoRow : OpenClaim := { program := "ytfkekdpppcidbaadoor", sum := "609395d64161d2eae130b4ab741ee139ced0e0c3a3e3927d182c1491bd62bae5", func := "postrider/postriderlaw03.HeadShort", spec := "headShort", inPlace := ["internal/reflectlite.TypeOf"], unfollowed := true, recurses := true, named := ["postrider/head.errMajor", "postrider/head.errNum", "postrider/head.rooms", "postrider/nums.errNum", "postrider/nums.errWidth", "postrider/nums.errShort", "postrider/head.errShort", "postrider/head.errForm"], apart := false, laid := [("postrider/nums.errWidth", laid_postrider_nums_errWidth), ("postrider/nums.errNum", laid_postrider_nums_errNum), ("postrider/nums.errShort", laid_postrider_nums_errShort), ("postrider/head.errMajor", laid_postrider_head_errMajor), ("postrider/head.errNum", laid_postrider_head_errNum), ("postrider/head.errShort", laid_postrider_head_errShort), ("postrider/head.errForm", laid_postrider_head_errForm), ("postrider/head.rooms", laid_postrider_head_rooms)], narrowed := true }
def HeadShortUptoSaid : Prop := headShortUptoRow.holds Tryd.pinned (OpenSpec.upto headShortSpec)

/-- 'postriderlaw03.HeadCodes', WHERE WHAT IT READS IS OF BULK AT MOST 1048576: true; the input reads as it did. -/
def headCodesUptoRow : OpenClaim := { program := "ytfkekdpppcidbaadoor", sum := "609395d64161d2eae130b4ab741ee139ced0e0c3a3e3927d182c1491bd62bae5", func := "postrider/postriderlaw03.HeadCodes", spec := "headCodes", inPlace := ["internal/reflectlite.TypeOf"], unfollowed := true, recurses := true, named := ["postrider/head.errMajor", "postrider/head.errNum", "postrider/head.rooms", "postrider/nums.errNum", "postrider/nums.errWidth", "postrider/nums.errShort", "postrider/head.errShort", "postrider/head.errForm"], apart := false, laid := [("postrider/nums.errWidth", laid_postrider_nums_errWidth), ("postrider/nums.errNum", laid_postrider_nums_errNum), ("postrider/nums.errShort", laid_postrider_nums_errShort), ("postrider/head.errMajor", laid_postrider_head_errMajor), ("postrider/head.errNum", laid_postrider_head_errNum), ("postrider/head.errShort", laid_postrider_head_errShort), ("postrider/head.errForm", laid_postrider_head_errForm), ("postrider/head.rooms", laid_postrider_head_rooms)], narrowed := true }
def HeadCodesUptoSaid : Prop := headCodesUptoRow.holds Tryd.pinned (OpenSpec.upto headCodesSpec)

/-- 'postriderlaw03.HeadSizes', WHERE WHAT IT READS IS OF BULK AT MOST 1048576: true; the input reads as it did. -/
def headSizesUptoRow : OpenClaim := { program := "ytfkekdpppcidbaadoor", sum := "609395d64161d2eae130b4ab741ee139ced0e0c3a3e3927d182c1491bd62bae5", func := "postrider/postriderlaw03.HeadSizes", spec := "headSizes", inPlace := ["internal/reflectlite.TypeOf"], unfollowed := true, recurses := true, named := ["postrider/head.errMajor", "postrider/head.errNum", "postrider/head.rooms", "postrider/nums.errNum", "postrider/nums.errWidth", "postrider/nums.errShort", "postrider/head.errShort", "postrider/head.errForm"], apart := false, laid := [("postrider/nums.errWidth", laid_postrider_nums_errWidth), ("postrider/nums.errNum", laid_postrider_nums_errNum), ("postrider/nums.errShort", laid_postrider_nums_errShort), ("postrider/head.errMajor", laid_postrider_head_errMajor), ("postrider/head.errNum", laid_postrider_head_errNum), ("postrider/head.errShort", laid_postrider_head_errShort), ("postrider/head.errForm", laid_postrider_head_errForm), ("postrider/head.rooms", laid_postrider_head_rooms)], narrowed := true }
def HeadSizesUptoSaid : Prop := headSizesUptoRow.holds Tryd.pinned (OpenSpec.upto headSizesSpec)

/-- 'postriderlaw03.HeadReads', WHERE WHAT IT READS IS OF BULK AT MOST 1048576: true; the input reads as it did. -/
def headReadsUptoRow : OpenClaim := { program := "ytfkekdpppcidbaadoor", sum := "609395d64161d2eae130b4ab741ee139ced0e0c3a3e3927d182c1491bd62bae5", func := "postrider/postriderlaw03.HeadReads", spec := "headReads", inPlace := ["internal/reflectlite.TypeOf"], unfollowed := true, recurses := true, named := ["postrider/head.errMajor", "postrider/head.errNum", "postrider/head.rooms", "postrider/nums.errNum", "postrider/nums.errWidth", "postrider/nums.errShort", "postrider/head.errShort", "postrider/head.errForm"], apart := false, laid := [("postrider/nums.errWidth", laid_postrider_nums_errWidth), ("postrider/nums.errNum", laid_postrider_nums_errNum), ("postrider/nums.errShort", laid_postrider_nums_errShort), ("postrider/head.errMajor", laid_postrider_head_errMajor), ("postrider/head.errNum", laid_postrider_head_errNum), ("postrider/head.errShort", laid_postrider_head_errShort), ("postrider/head.errForm", laid_postrider_head_errForm), ("postrider/head.rooms", laid_postrider_head_rooms)], narrowed := true }
def HeadReadsUptoSaid : Prop := headReadsUptoRow.holds Tryd.pinned (OpenSpec.upto headReadsSpec)

end Rows
end Go.Proofs.YtfkekdpppcidbaaDoor
