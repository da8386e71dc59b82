/-
  NARROWER THAN 'FOR EVERY INPUT', by the rows' own cells (each row's printed sentence says how): ItemLists: loops, laid · ItemCuts: loops, laid · ItemParts: loops, laid · ItemBack: loops, laid · ItemApart: loops, laid · ItemWhole: laid.
  DERIVED. THE GIVEN ROWS OF THIS SEAT. 6 by the template 'for every input the law returns true; each argument reads behind the call as it read before'; 0 by the template 'total and deterministic' (their statements: YtmoghgmbpkpcfaaDoorTotals.lean).
  GIVEN WITH THE SEED: the statements are not yours to turn. If you find one false, say at which input.
  Laid BY PROGRAM, IN A SANDBOX (cutbox-rows.mjs): the forced cells as the released guide's own fill.sh prints them over the translation 3df7bf27d70fcd73… (all of the seat's roots in one cut). By AI agents, Wed Nov 11 2026. No macro, syntax, notation, axiom, sorry.
-/
import Derived.Test.YtmoghgmbpkpcfaaDoorChecked
import GoSem.Claim
import GoSem.ClaimJoined
import GoSem.ClaimMapViews
import Derived.JoinedTies
import Derived.KernelRfl
namespace Go.Proofs.YtmoghgmbpkpcfaaDoor
/- THE CELL 'sum', in the pinned program and in every row, IS THE sha256 OF THE DUMP (.gsa) THAT YtmoghgmbpkpcfaaDoorProg.lean LOADS. Nothing in Lean hashes anything: it is a label: what it is worth is what the hold of that sum in a sandbox is worth. -/
noncomputable def Tryd.pinned : Pinned := { name := "ytmoghgmbpkpcfaadoor", sum := "3df7bf27d70fcd732f45879c35df33cc4d4bc401e42c82f0b93d2464a4f03bb7", checked := Tryd.checked }
namespace Rows
def none {H : Type} : Left H := { results := [], args := [] }

/- WHAT THE LISTED PACKAGE-LEVEL VARIABLES READ AS WHEN THE CALL BEGINS. Each datum BY PROGRAM (the guide's laid-datum.mjs) off the statement by which the dump's own 'gosem.cut.vars' lays the variable. In a bare row this is a premise. The card (YtmoghgmbpkpcfaaDoorCards.lean) ties it to the program's text. -/
def laid_errors_errorType {H : Type} : DataW H := .iface "internal/reflectlite.rtype" (.agg [.ptr (.lit (.string [101, 114, 114, 111, 114]))])
def laid_postrider_nums_errWidth {H : Type} : DataW H := .iface "*errors.errorString" (.ptr (.agg [.lit (.string [110, 111, 32, 119, 105, 100, 116, 104])]))
def laid_postrider_nums_errNum {H : Type} : DataW H := .iface "*errors.errorString" (.ptr (.agg [.lit (.string [110, 111, 32, 110, 117, 109, 98, 101, 114])]))
def laid_postrider_nums_errShort {H : Type} : DataW H := .iface "*errors.errorString" (.ptr (.agg [.lit (.string [116, 111, 111, 32, 115, 104, 111, 114, 116])]))
def laid_postrider_head_errMajor {H : Type} : DataW H := .iface "*errors.errorString" (.ptr (.agg [.lit (.string [110, 111, 32, 109, 97, 106, 111, 114])]))
def laid_postrider_head_errNum {H : Type} : DataW H := .iface "*errors.errorString" (.ptr (.agg [.lit (.string [110, 111, 32, 110, 117, 109, 98, 101, 114])]))
def laid_postrider_head_errShort {H : Type} : DataW H := .iface "*errors.errorString" (.ptr (.agg [.lit (.string [116, 111, 111, 32, 115, 104, 111, 114, 116])]))
def laid_postrider_head_errForm {H : Type} : DataW H := .iface "*errors.errorString" (.ptr (.agg [.lit (.string [110, 111, 32, 104, 101, 97, 100])]))
def laid_postrider_head_rooms {H : Type} : DataW H := .agg [.agg [.lit (.int .i64 0), .lit (.int .i64 24), .lit (.int .i64 0)], .agg [.lit (.int .i64 1), .lit (.int .i64 256), .lit (.int .i64 24)], .agg [.lit (.int .i64 2), .lit (.int .i64 65536), .lit (.int .i64 25)], .agg [.lit (.int .i64 4), .lit (.int .i64 4294967296), .lit (.int .i64 26)], .agg [.lit (.int .i64 8), .lit (.int .i64 281474976710656), .lit (.int .i64 27)]]

/-- 'postriderlaw04.ItemLists': WHATEVER THE INPUT: true; the input reads as it did. -/
def itemListsSpec : ChangeSpec := { name := "itemLists", fn := fun _ => fun
  | [d] => { results := [.lit (.bool true)], args := [d] }
  | _ => none }
def itemListsRow : OpenClaim := { program := "ytmoghgmbpkpcfaadoor", sum := "3df7bf27d70fcd732f45879c35df33cc4d4bc401e42c82f0b93d2464a4f03bb7", func := "postrider/postriderlaw04.ItemLists", spec := "itemLists", inPlace := ["internal/reflectlite.TypeOf", "internal/reflectlite.ValueOf", "(internal/reflectlite.Value).Type", "(internal/reflectlite.Value).IsNil", "(internal/reflectlite.Value).Elem", "(internal/reflectlite.Value).Set", "internal/abi.NoEscape"], unfollowed := true, recurses := true, named := ["postrider/head.errShort", "postrider/head.errForm", "postrider/head.rooms", "postrider/head.errNum", "postrider/nums.errNum", "postrider/nums.errWidth", "postrider/nums.errShort", "postrider/head.errMajor", "errors.errorType"], loops := true, apart := false, laid := [("errors.errorType", laid_errors_errorType), ("postrider/nums.errWidth", laid_postrider_nums_errWidth), ("postrider/nums.errNum", laid_postrider_nums_errNum), ("postrider/nums.errShort", laid_postrider_nums_errShort), ("postrider/head.errMajor", laid_postrider_head_errMajor), ("postrider/head.errNum", laid_postrider_head_errNum), ("postrider/head.errShort", laid_postrider_head_errShort), ("postrider/head.errForm", laid_postrider_head_errForm), ("postrider/head.rooms", laid_postrider_head_rooms)] }
def ItemListsSaid : Prop := itemListsRow.holds Tryd.pinned (OpenSpec.ofChange itemListsSpec)

/-- ITS FALSE NEIGHBOUR: 'it returns false'. Refute it at one input. -/
def itemListsWrong : ChangeSpec := { name := "itemLists", fn := fun _ => fun
  | [d] => { results := [.lit (.bool false)], args := [d] }
  | _ => none }
def ItemListsWrongFalsely : Prop := itemListsRow.holds Tryd.pinned (OpenSpec.ofChange itemListsWrong)

/-- 'postriderlaw04.ItemCuts': WHATEVER THE INPUT: true; the input reads as it did. -/
def itemCutsSpec : ChangeSpec := { name := "itemCuts", fn := fun _ => fun
  | [d1, d2] => { results := [.lit (.bool true)], args := [d1, d2] }
  | _ => none }
def itemCutsRow : OpenClaim := { program := "ytmoghgmbpkpcfaadoor", sum := "3df7bf27d70fcd732f45879c35df33cc4d4bc401e42c82f0b93d2464a4f03bb7", func := "postrider/postriderlaw04.ItemCuts", spec := "itemCuts", inPlace := ["internal/reflectlite.TypeOf", "internal/reflectlite.ValueOf", "(internal/reflectlite.Value).Type", "(internal/reflectlite.Value).IsNil", "(internal/reflectlite.Value).Elem", "(internal/reflectlite.Value).Set", "internal/abi.NoEscape"], unfollowed := true, recurses := true, named := ["postrider/head.errShort", "postrider/head.errForm", "postrider/head.rooms", "postrider/head.errNum", "postrider/nums.errNum", "postrider/nums.errWidth", "postrider/nums.errShort", "postrider/head.errMajor", "errors.errorType"], loops := true, apart := false, laid := [("errors.errorType", laid_errors_errorType), ("postrider/nums.errWidth", laid_postrider_nums_errWidth), ("postrider/nums.errNum", laid_postrider_nums_errNum), ("postrider/nums.errShort", laid_postrider_nums_errShort), ("postrider/head.errMajor", laid_postrider_head_errMajor), ("postrider/head.errNum", laid_postrider_head_errNum), ("postrider/head.errShort", laid_postrider_head_errShort), ("postrider/head.errForm", laid_postrider_head_errForm), ("postrider/head.rooms", laid_postrider_head_rooms)] }
def ItemCutsSaid : Prop := itemCutsRow.holds Tryd.pinned (OpenSpec.ofChange itemCutsSpec)

/-- ITS FALSE NEIGHBOUR: 'it returns false'. Refute it at one input. -/
def itemCutsWrong : ChangeSpec := { name := "itemCuts", fn := fun _ => fun
  | [d1, d2] => { results := [.lit (.bool false)], args := [d1, d2] }
  | _ => none }
def ItemCutsWrongFalsely : Prop := itemCutsRow.holds Tryd.pinned (OpenSpec.ofChange itemCutsWrong)

/-- 'postriderlaw04.ItemParts': WHATEVER THE INPUT: true; the input reads as it did. -/
def itemPartsSpec : ChangeSpec := { name := "itemParts", fn := fun _ => fun
  | [d1, d2] => { results := [.lit (.bool true)], args := [d1, d2] }
  | _ => none }
def itemPartsRow : OpenClaim := { program := "ytmoghgmbpkpcfaadoor", sum := "3df7bf27d70fcd732f45879c35df33cc4d4bc401e42c82f0b93d2464a4f03bb7", func := "postrider/postriderlaw04.ItemParts", spec := "itemParts", inPlace := ["internal/reflectlite.TypeOf", "internal/reflectlite.ValueOf", "(internal/reflectlite.Value).Type", "(internal/reflectlite.Value).IsNil", "(internal/reflectlite.Value).Elem", "(internal/reflectlite.Value).Set", "internal/abi.NoEscape"], unfollowed := true, recurses := true, named := ["postrider/head.errShort", "postrider/head.errForm", "postrider/head.rooms", "postrider/head.errNum", "postrider/nums.errNum", "postrider/nums.errWidth", "postrider/nums.errShort", "postrider/head.errMajor", "errors.errorType"], loops := true, apart := false, laid := [("errors.errorType", laid_errors_errorType), ("postrider/nums.errWidth", laid_postrider_nums_errWidth), ("postrider/nums.errNum", laid_postrider_nums_errNum), ("postrider/nums.errShort", laid_postrider_nums_errShort), ("postrider/head.errMajor", laid_postrider_head_errMajor), ("postrider/head.errNum", laid_postrider_head_errNum), ("postrider/head.errShort", laid_postrider_head_errShort), ("postrider/head.errForm", laid_postrider_head_errForm), ("postrider/head.rooms", laid_postrider_head_rooms)] }
def ItemPartsSaid : Prop := itemPartsRow.holds Tryd.pinned (OpenSpec.ofChange itemPartsSpec)

/-- ITS FALSE NEIGHBOUR: 'it returns false'. Refute it at one input. -/
def itemPartsWrong : ChangeSpec := { name := "itemParts", fn := fun _ => fun
  | [d1, d2] => { results := [.lit (.bool false)], args := [d1, d2] }
  | _ => none }
def ItemPartsWrongFalsely : Prop := itemPartsRow.holds Tryd.pinned (OpenSpec.ofChange itemPartsWrong)

/-- 'postriderlaw04.ItemBack': WHATEVER THE INPUT: true; the input reads as it did. -/
def itemBackSpec : ChangeSpec := { name := "itemBack", fn := fun _ => fun
  | [d1, d2, d3] => { results := [.lit (.bool true)], args := [d1, d2, d3] }
  | _ => none }
def itemBackRow : OpenClaim := { program := "ytmoghgmbpkpcfaadoor", sum := "3df7bf27d70fcd732f45879c35df33cc4d4bc401e42c82f0b93d2464a4f03bb7", func := "postrider/postriderlaw04.ItemBack", spec := "itemBack", inPlace := ["internal/reflectlite.TypeOf", "internal/reflectlite.ValueOf", "(internal/reflectlite.Value).Type", "(internal/reflectlite.Value).IsNil", "(internal/reflectlite.Value).Elem", "(internal/reflectlite.Value).Set", "internal/abi.NoEscape"], unfollowed := true, recurses := true, named := ["postrider/head.errShort", "postrider/head.errForm", "postrider/head.rooms", "postrider/head.errNum", "postrider/nums.errNum", "postrider/nums.errWidth", "postrider/nums.errShort", "postrider/head.errMajor", "errors.errorType"], loops := true, apart := false, laid := [("errors.errorType", laid_errors_errorType), ("postrider/nums.errWidth", laid_postrider_nums_errWidth), ("postrider/nums.errNum", laid_postrider_nums_errNum), ("postrider/nums.errShort", laid_postrider_nums_errShort), ("postrider/head.errMajor", laid_postrider_head_errMajor), ("postrider/head.errNum", laid_postrider_head_errNum), ("postrider/head.errShort", laid_postrider_head_errShort), ("postrider/head.errForm", laid_postrider_head_errForm), ("postrider/head.rooms", laid_postrider_head_rooms)] }
def ItemBackSaid : Prop := itemBackRow.holds Tryd.pinned (OpenSpec.ofChange itemBackSpec)

/-- ITS FALSE NEIGHBOUR: 'it returns false'. Refute it at one input. -/
def itemBackWrong : ChangeSpec := { name := "itemBack", fn := fun _ => fun
  | [d1, d2, d3] => { results := [.lit (.bool false)], args := [d1, d2, d3] }
  | _ => none }
def ItemBackWrongFalsely : Prop := itemBackRow.holds Tryd.pinned (OpenSpec.ofChange itemBackWrong)

/-- 'postriderlaw04.ItemApart': WHATEVER THE INPUT: true; the input reads as it did. -/
def itemApartSpec : ChangeSpec := { name := "itemApart", fn := fun _ => fun
  | [d1, d2] => { results := [.lit (.bool true)], args := [d1, d2] }
  | _ => none }
def itemApartRow : OpenClaim := { program := "ytmoghgmbpkpcfaadoor", sum := "3df7bf27d70fcd732f45879c35df33cc4d4bc401e42c82f0b93d2464a4f03bb7", func := "postrider/postriderlaw04.ItemApart", spec := "itemApart", inPlace := ["internal/reflectlite.TypeOf", "internal/reflectlite.ValueOf", "(internal/reflectlite.Value).Type", "(internal/reflectlite.Value).IsNil", "(internal/reflectlite.Value).Elem", "(internal/reflectlite.Value).Set", "internal/abi.NoEscape"], unfollowed := true, recurses := true, named := ["postrider/head.errShort", "postrider/head.errForm", "postrider/head.rooms", "postrider/head.errNum", "postrider/nums.errNum", "postrider/nums.errWidth", "postrider/nums.errShort", "postrider/head.errMajor", "errors.errorType"], loops := true, apart := false, laid := [("errors.errorType", laid_errors_errorType), ("postrider/nums.errWidth", laid_postrider_nums_errWidth), ("postrider/nums.errNum", laid_postrider_nums_errNum), ("postrider/nums.errShort", laid_postrider_nums_errShort), ("postrider/head.errMajor", laid_postrider_head_errMajor), ("postrider/head.errNum", laid_postrider_head_errNum), ("postrider/head.errShort", laid_postrider_head_errShort), ("postrider/head.errForm", laid_postrider_head_errForm), ("postrider/head.rooms", laid_postrider_head_rooms)] }
def ItemApartSaid : Prop := itemApartRow.holds Tryd.pinned (OpenSpec.ofChange itemApartSpec)

/-- ITS FALSE NEIGHBOUR: 'it returns false'. Refute it at one input. -/
def itemApartWrong : ChangeSpec := { name := "itemApart", fn := fun _ => fun
  | [d1, d2] => { results := [.lit (.bool false)], args := [d1, d2] }
  | _ => none }
def ItemApartWrongFalsely : Prop := itemApartRow.holds Tryd.pinned (OpenSpec.ofChange itemApartWrong)

/-- 'postriderlaw04.ItemWhole': WHATEVER THE INPUT: true; the input reads as it did. -/
def itemWholeSpec : ChangeSpec := { name := "itemWhole", fn := fun _ => fun
  | [d] => { results := [.lit (.bool true)], args := [d] }
  | _ => none }
def itemWholeRow : OpenClaim := { program := "ytmoghgmbpkpcfaadoor", sum := "3df7bf27d70fcd732f45879c35df33cc4d4bc401e42c82f0b93d2464a4f03bb7", func := "postrider/postriderlaw04.ItemWhole", spec := "itemWhole", inPlace := ["internal/reflectlite.TypeOf", "internal/reflectlite.ValueOf", "(internal/reflectlite.Value).Type", "(internal/reflectlite.Value).IsNil", "(internal/reflectlite.Value).Elem", "(internal/reflectlite.Value).Set", "internal/abi.NoEscape"], unfollowed := true, recurses := true, named := ["postrider/head.errShort", "postrider/head.errForm", "postrider/head.rooms", "postrider/head.errNum", "postrider/nums.errNum", "postrider/nums.errWidth", "postrider/nums.errShort", "postrider/head.errMajor", "errors.errorType"], apart := false, laid := [("errors.errorType", laid_errors_errorType), ("postrider/nums.errWidth", laid_postrider_nums_errWidth), ("postrider/nums.errNum", laid_postrider_nums_errNum), ("postrider/nums.errShort", laid_postrider_nums_errShort), ("postrider/head.errMajor", laid_postrider_head_errMajor), ("postrider/head.errNum", laid_postrider_head_errNum), ("postrider/head.errShort", laid_postrider_head_errShort), ("postrider/head.errForm", laid_postrider_head_errForm), ("postrider/head.rooms", laid_postrider_head_rooms)] }
def ItemWholeSaid : Prop := itemWholeRow.holds Tryd.pinned (OpenSpec.ofChange itemWholeSpec)

/-- ITS FALSE NEIGHBOUR: 'it returns false'. Refute it at one input. -/
def itemWholeWrong : ChangeSpec := { name := "itemWhole", fn := fun _ => fun
  | [d] => { results := [.lit (.bool false)], args := [d] }
  | _ => none }
def ItemWholeWrongFalsely : Prop := itemWholeRow.holds Tryd.pinned (OpenSpec.ofChange itemWholeWrong)

/- THE SECOND FORM. 'bulk': how many values and letters a reading holds, each counted each time it is reached (what is shared counts as often as it is met; a slice's spare places count too). A statement '..UptoSaid' is the law's where the arguments, and the package variables that the reading takes, are together of bulk at most 1048576: NARROWER than '..Said'. Prove '..Said' where nothing that the law and all that it calls make is longer than what came in: it says more and counts as full. Else prove '..UptoSaid'. A law counts once. -/
mutual
def uptoBulk {H : Type} : DataW H → Nat
  | .lit (.string bytes) => bytes.length + 1
  | .lit _ => 1
  | .nil => 1
  | .ptr d => uptoBulk d + 1
  | .slice elems spare => uptoBulkAll elems + uptoBulkAll spare + 1
  | .agg parts => uptoBulkAll parts + 1
  | .iface _ d => uptoBulk d + 1
  | .map entries => uptoBulkEntries entries + 1
  | .held _ => 1
def uptoBulkAll {H : Type} : List (DataW H) → Nat
  | [] => 0
  | d :: r => uptoBulk d + uptoBulkAll r
def uptoBulkEntries {H : Type} : List (Lit × DataW H) → Nat
  | [] => 0
  | x :: r => uptoBulkEntry x + uptoBulkEntries r
def uptoBulkEntry {H : Type} : Lit × DataW H → Nat
  | (.string bytes, d) => bytes.length + uptoBulk d + 1
  | (_, d) => uptoBulk d + 1
 end
def uptoSmall : (H : Type) → List (DataW H) → Bool := fun _ ds => decide (uptoBulkAll ds ≤ 1048576)
def OpenSpec.upto (s : _root_.Go.ChangeSpec) : _root_.Go.OpenSpec := { _root_.Go.OpenSpec.ofChange s with cond := some uptoSmall }

/-- 'postriderlaw04.ItemLists', WHERE WHAT IT READS IS OF BULK AT MOST 1048576: true; the input reads as it did. -/
def itemListsUptoRow : OpenClaim := { program := "ytmoghgmbpkpcfaadoor", sum := "3df7bf27d70fcd732f45879c35df33cc4d4bc401e42c82f0b93d2464a4f03bb7", func := "postrider/postriderlaw04.ItemLists", spec := "itemLists", inPlace := ["internal/reflectlite.TypeOf", "internal/reflectlite.ValueOf", "(internal/reflectlite.Value).Type", "(internal/reflectlite.Value).IsNil", "(internal/reflectlite.Value).Elem", "(internal/reflectlite.Value).Set", "internal/abi.NoEscape"], unfollowed := true, recurses := true, named := ["postrider/head.errShort", "postrider/head.errForm", "postrider/head.rooms", "postrider/head.errNum", "postrider/nums.errNum", "postrider/nums.errWidth", "postrider/nums.errShort", "postrider/head.errMajor", "errors.errorType"], loops := true, apart := false, laid := [("errors.errorType", laid_errors_errorType), ("postrider/nums.errWidth", laid_postrider_nums_errWidth), ("postrider/nums.errNum", laid_postrider_nums_errNum), ("postrider/nums.errShort", laid_postrider_nums_errShort), ("postrider/head.errMajor", laid_postrider_head_errMajor), ("postrider/head.errNum", laid_postrider_head_errNum), ("postrider/head.errShort", laid_postrider_head_errShort), ("postrider/head.errForm", laid_postrider_head_errForm), ("postrider/head.rooms", laid_postrider_head_rooms)], narrowed := true }
def ItemListsUptoSaid : Prop := itemListsUptoRow.holds Tryd.pinned (OpenSpec.upto itemListsSpec)

/-- 'postriderlaw04.ItemCuts', WHERE WHAT IT READS IS OF BULK AT MOST 1048576: true; the input reads as it did. -/
def itemCutsUptoRow : OpenClaim := { program := "ytmoghgmbpkpcfaadoor", sum := "3df7bf27d70fcd732f45879c35df33cc4d4bc401e42c82f0b93d2464a4f03bb7", func := "postrider/postriderlaw04.ItemCuts", spec := "itemCuts", inPlace := ["internal/reflectlite.TypeOf", "internal/reflectlite.ValueOf", "(internal/reflectlite.Value).Type", "(internal/reflectlite.Value).IsNil", "(internal/reflectlite.Value).Elem", "(internal/reflectlite.Value).Set", "internal/abi.NoEscape"], unfollowed := true, recurses := true, named := ["postrider/head.errShort", "postrider/head.errForm", "postrider/head.rooms", "postrider/head.errNum", "postrider/nums.errNum", "postrider/nums.errWidth", "postrider/nums.errShort", "postrider/head.errMajor", "errors.errorType"], loops := true, apart := false, laid := [("errors.errorType", laid_errors_errorType), ("postrider/nums.errWidth", laid_postrider_nums_errWidth), ("postrider/nums.errNum", laid_postrider_nums_errNum), ("postrider/nums.errShort", laid_postrider_nums_errShort), ("postrider/head.errMajor", laid_postrider_head_errMajor), ("postrider/head.errNum", laid_postrider_head_errNum), ("postrider/head.errShort", laid_postrider_head_errShort), ("postrider/head.errForm", laid_postrider_head_errForm), ("postrider/head.rooms", laid_postrider_head_rooms)], narrowed := true }
def ItemCutsUptoSaid : Prop := itemCutsUptoRow.holds Tryd.pinned (OpenSpec.upto itemCutsSpec)

/-- 'postriderlaw04.ItemParts', WHERE WHAT IT READS IS OF BULK AT MOST 1048576: true; the input reads as it did. -/
def itemPartsUptoRow : OpenClaim := { program := "ytmoghgmbpkpcfaadoor", sum := "3df7bf27d70fcd732f45879c35df33cc4d4bc401e42c82f0b93d2464a4f03bb7", func := "postrider/postriderlaw04.ItemParts", spec := "itemParts", inPlace := ["internal/reflectlite.TypeOf", "internal/reflectlite.ValueOf", "(internal/reflectlite.Value).Type", "(internal/reflectlite.Value).IsNil", "(internal/reflectlite.Value).Elem", "(internal/reflectlite.Value).Set", "internal/abi.NoEscape"], unfollowed := true, recurses := true, named := ["postrider/head.errShort", "postrider/head.errForm", "postrider/head.rooms", "postrider/head.errNum", "postrider/nums.errNum", "postrider/nums.errWidth", "postrider/nums.errShort", "postrider/head.errMajor", "errors.errorType"], loops := true, apart := false, laid := [("errors.errorType", laid_errors_errorType), ("postrider/nums.errWidth", laid_postrider_nums_errWidth), ("postrider/nums.errNum", laid_postrider_nums_errNum), ("postrider/nums.errShort", laid_postrider_nums_errShort), ("postrider/head.errMajor", laid_postrider_head_errMajor), ("postrider/head.errNum", laid_postrider_head_errNum), ("postrider/head.errShort", laid_postrider_head_errShort), ("postrider/head.errForm", laid_postrider_head_errForm), ("postrider/head.rooms", laid_postrider_head_rooms)], narrowed := true }
def ItemPartsUptoSaid : Prop := itemPartsUptoRow.holds Tryd.pinned (OpenSpec.upto itemPartsSpec)

/-- 'postriderlaw04.ItemBack', WHERE WHAT IT READS IS OF BULK AT MOST 1048576: true; the input reads as it did. -/
def itemBackUptoRow : OpenClaim := { program := "ytmoghgmbpkpcfaadoor", sum := "3df7bf27d70fcd732f45879c35df33cc4d4bc401e42c82f0b93d2464a4f03bb7", func := "postrider/postriderlaw04.ItemBack", spec := "itemBack", inPlace := ["internal/reflectlite.TypeOf", "internal/reflectlite.ValueOf", "(internal/reflectlite.Value).Type", "(internal/reflectlite.Value).IsNil", "(internal/reflectlite.Value).Elem", "(internal/reflectlite.Value).Set", "internal/abi.NoEscape"], unfollowed := true, recurses := true, named := ["postrider/head.errShort", "postrider/head.errForm", "postrider/head.rooms", "postrider/head.errNum", "postrider/nums.errNum", "postrider/nums.errWidth", "postrider/nums.errShort", "postrider/head.errMajor", "errors.errorType"], loops := true, apart := false, laid := [("errors.errorType", laid_errors_errorType), ("postrider/nums.errWidth", laid_postrider_nums_errWidth), ("postrider/nums.errNum", laid_postrider_nums_errNum), ("postrider/nums.errShort", laid_postrider_nums_errShort), ("postrider/head.errMajor", laid_postrider_head_errMajor), ("postrider/head.errNum", laid_postrider_head_errNum), ("postrider/head.errShort", laid_postrider_head_errShort), ("postrider/head.errForm", laid_postrider_head_errForm), ("postrider/head.rooms", laid_postrider_head_rooms)], narrowed := true }
def ItemBackUptoSaid : Prop := itemBackUptoRow.holds Tryd.pinned (OpenSpec.upto itemBackSpec)

/-- 'postriderlaw04.ItemApart', WHERE WHAT IT READS IS OF BULK AT MOST 1048576: true; the input reads as it did. -/
def itemApartUptoRow : OpenClaim := { program := "ytmoghgmbpkpcfaadoor", sum := "3df7bf27d70fcd732f45879c35df33cc4d4bc401e42c82f0b93d2464a4f03bb7", func := "postrider/postriderlaw04.ItemApart", spec := "itemApart", inPlace := ["internal/reflectlite.TypeOf", "internal/reflectlite.ValueOf", "(internal/reflectlite.Value).Type", "(internal/reflectlite.Value).IsNil", "(internal/reflectlite.Value).Elem", "(internal/reflectlite.Value).Set", "internal/abi.NoEscape"], unfollowed := true, recurses := true, named := ["postrider/head.errShort", "postrider/head.errForm", "postrider/head.rooms", "postrider/head.errNum", "postrider/nums.errNum", "postrider/nums.errWidth", "postrider/nums.errShort", "postrider/head.errMajor", "errors.errorType"], loops := true, apart := false, laid := [("errors.errorType", laid_errors_errorType), ("postrider/nums.errWidth", laid_postrider_nums_errWidth), ("postrider/nums.errNum", laid_postrider_nums_errNum), ("postrider/nums.errShort", laid_postrider_nums_errShort), ("postrider/head.errMajor", laid_postrider_head_errMajor), ("postrider/head.errNum", laid_postrider_head_errNum), ("postrider/head.errShort", laid_postrider_head_errShort), ("postrider/head.errForm", laid_postrider_head_errForm), ("postrider/head.rooms", laid_postrider_head_rooms)], narrowed := true }
def ItemApartUptoSaid : Prop := itemApartUptoRow.holds Tryd.pinned (OpenSpec.upto itemApartSpec)

/-- 'postriderlaw04.ItemWhole', WHERE WHAT IT READS IS OF BULK AT MOST 1048576: true; the input reads as it did. -/
def itemWholeUptoRow : OpenClaim := { program := "ytmoghgmbpkpcfaadoor", sum := "3df7bf27d70fcd732f45879c35df33cc4d4bc401e42c82f0b93d2464a4f03bb7", func := "postrider/postriderlaw04.ItemWhole", spec := "itemWhole", inPlace := ["internal/reflectlite.TypeOf", "internal/reflectlite.ValueOf", "(internal/reflectlite.Value).Type", "(internal/reflectlite.Value).IsNil", "(internal/reflectlite.Value).Elem", "(internal/reflectlite.Value).Set", "internal/abi.NoEscape"], unfollowed := true, recurses := true, named := ["postrider/head.errShort", "postrider/head.errForm", "postrider/head.rooms", "postrider/head.errNum", "postrider/nums.errNum", "postrider/nums.errWidth", "postrider/nums.errShort", "postrider/head.errMajor", "errors.errorType"], apart := false, laid := [("errors.errorType", laid_errors_errorType), ("postrider/nums.errWidth", laid_postrider_nums_errWidth), ("postrider/nums.errNum", laid_postrider_nums_errNum), ("postrider/nums.errShort", laid_postrider_nums_errShort), ("postrider/head.errMajor", laid_postrider_head_errMajor), ("postrider/head.errNum", laid_postrider_head_errNum), ("postrider/head.errShort", laid_postrider_head_errShort), ("postrider/head.errForm", laid_postrider_head_errForm), ("postrider/head.rooms", laid_postrider_head_rooms)], narrowed := true }
def ItemWholeUptoSaid : Prop := itemWholeUptoRow.holds Tryd.pinned (OpenSpec.upto itemWholeSpec)

end Rows
end Go.Proofs.YtmoghgmbpkpcfaaDoor
