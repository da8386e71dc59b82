/-
  NARROWER THAN 'FOR EVERY INPUT', by the rows' own cells (each row's printed sentence says how): ItemCodes: loops, laid.
  DERIVED. THE GIVEN ROWS OF THIS SEAT. 1 by the template 'for every input the law returns true; each argument reads behind the call as it read before'; 0 by the template 'total and deterministic' (their statements: YtmoghgmbpkpcfaaGreatDoorTotals.lean).
  GIVEN WITH THE SEED: the statements are not yours to turn. If you find one false, say at which input.
  Laid BY PROGRAM, IN A SANDBOX (cutbox-rows.mjs): the forced cells as the released guide's own fill.sh prints them over the translation 4f53104a3f7afea4… (all of the seat's roots in one cut). By AI agents, Wed Nov 11 2026. No macro, syntax, notation, axiom, sorry.
-/
import Derived.Test.YtmoghgmbpkpcfaaGreatDoorChecked
import GoSem.Claim
import GoSem.ClaimJoined
import GoSem.ClaimMapViews
import Derived.JoinedTies
import Derived.KernelRfl
namespace Go.Proofs.YtmoghgmbpkpcfaaGreatDoor
/- THE CELL 'sum', in the pinned program and in every row, IS THE sha256 OF THE DUMP (.gsa) THAT YtmoghgmbpkpcfaaGreatDoorProg.lean LOADS. Nothing in Lean hashes anything: it is a label: what it is worth is what the hold of that sum in a sandbox is worth. -/
noncomputable def Tryz.pinned : Pinned := { name := "ytmoghgmbpkpcfaagreatdoor", sum := "4f53104a3f7afea444db7106fbd2ba3561ce197472c558b0facb17c3db81f083", checked := Tryz.checked }
namespace Rows
def none {H : Type} : Left H := { results := [], args := [] }

/- WHAT THE LISTED PACKAGE-LEVEL VARIABLES READ AS WHEN THE CALL BEGINS. Each datum BY PROGRAM (the guide's laid-datum.mjs) off the statement by which the dump's own 'gosem.cut.vars' lays the variable. In a bare row this is a premise. The card (YtmoghgmbpkpcfaaGreatDoorCards.lean) ties it to the program's text. -/
def laid_errors_errorType {H : Type} : DataW H := .iface "internal/reflectlite.rtype" (.agg [.ptr (.lit (.string [101, 114, 114, 111, 114]))])
def laid_postrider_nums_errWidth {H : Type} : DataW H := .iface "*errors.errorString" (.ptr (.agg [.lit (.string [110, 111, 32, 119, 105, 100, 116, 104])]))
def laid_postrider_nums_errNum {H : Type} : DataW H := .iface "*errors.errorString" (.ptr (.agg [.lit (.string [110, 111, 32, 110, 117, 109, 98, 101, 114])]))
def laid_postrider_nums_errShort {H : Type} : DataW H := .iface "*errors.errorString" (.ptr (.agg [.lit (.string [116, 111, 111, 32, 115, 104, 111, 114, 116])]))
def laid_postrider_head_errMajor {H : Type} : DataW H := .iface "*errors.errorString" (.ptr (.agg [.lit (.string [110, 111, 32, 109, 97, 106, 111, 114])]))
def laid_postrider_head_errNum {H : Type} : DataW H := .iface "*errors.errorString" (.ptr (.agg [.lit (.string [110, 111, 32, 110, 117, 109, 98, 101, 114])]))
def laid_postrider_head_errShort {H : Type} : DataW H := .iface "*errors.errorString" (.ptr (.agg [.lit (.string [116, 111, 111, 32, 115, 104, 111, 114, 116])]))
def laid_postrider_head_errForm {H : Type} : DataW H := .iface "*errors.errorString" (.ptr (.agg [.lit (.string [110, 111, 32, 104, 101, 97, 100])]))
def laid_postrider_head_rooms {H : Type} : DataW H := .agg [.agg [.lit (.int .i64 0), .lit (.int .i64 24), .lit (.int .i64 0)], .agg [.lit (.int .i64 1), .lit (.int .i64 256), .lit (.int .i64 24)], .agg [.lit (.int .i64 2), .lit (.int .i64 65536), .lit (.int .i64 25)], .agg [.lit (.int .i64 4), .lit (.int .i64 4294967296), .lit (.int .i64 26)], .agg [.lit (.int .i64 8), .lit (.int .i64 281474976710656), .lit (.int .i64 27)]]

/-- 'postriderlaw04.ItemCodes': WHATEVER THE INPUT: true; the input reads as it did. -/
def itemCodesSpec : ChangeSpec := { name := "itemCodes", fn := fun _ => fun
  | [d1, d2, d3, d4] => { results := [.lit (.bool true)], args := [d1, d2, d3, d4] }
  | _ => none }
def itemCodesRow : OpenClaim := { program := "ytmoghgmbpkpcfaagreatdoor", sum := "4f53104a3f7afea444db7106fbd2ba3561ce197472c558b0facb17c3db81f083", func := "postrider/postriderlaw04.ItemCodes", spec := "itemCodes", inPlace := ["internal/reflectlite.TypeOf", "internal/reflectlite.ValueOf", "(internal/reflectlite.Value).Type", "(internal/reflectlite.Value).IsNil", "(internal/reflectlite.Value).Elem", "(internal/reflectlite.Value).Set", "internal/abi.NoEscape"], unfollowed := true, recurses := true, named := ["postrider/head.errShort", "postrider/head.errForm", "postrider/head.rooms", "postrider/head.errNum", "postrider/nums.errNum", "postrider/nums.errWidth", "postrider/nums.errShort", "postrider/head.errMajor", "errors.errorType"], loops := true, apart := false, laid := [("errors.errorType", laid_errors_errorType), ("postrider/nums.errWidth", laid_postrider_nums_errWidth), ("postrider/nums.errNum", laid_postrider_nums_errNum), ("postrider/nums.errShort", laid_postrider_nums_errShort), ("postrider/head.errMajor", laid_postrider_head_errMajor), ("postrider/head.errNum", laid_postrider_head_errNum), ("postrider/head.errShort", laid_postrider_head_errShort), ("postrider/head.errForm", laid_postrider_head_errForm), ("postrider/head.rooms", laid_postrider_head_rooms)] }
def ItemCodesSaid : Prop := itemCodesRow.holds Tryz.pinned (OpenSpec.ofChange itemCodesSpec)

/-- ITS FALSE NEIGHBOUR: 'it returns false'. Refute it at one input. -/
def itemCodesWrong : ChangeSpec := { name := "itemCodes", fn := fun _ => fun
  | [d1, d2, d3, d4] => { results := [.lit (.bool false)], args := [d1, d2, d3, d4] }
  | _ => none }
def ItemCodesWrongFalsely : Prop := itemCodesRow.holds Tryz.pinned (OpenSpec.ofChange itemCodesWrong)

/- THE SECOND FORM. 'bulk': how many values and letters a reading holds, each counted each time it is reached (what is shared counts as often as it is met; a slice's spare places count too). A statement '..UptoSaid' is the law's where the arguments, and the package variables that the reading takes, are together of bulk at most 1048576: NARROWER than '..Said'. Prove '..Said' where nothing that the law and all that it calls make is longer than what came in: it says more and counts as full. Else prove '..UptoSaid'. A law counts once. -/
mutual
def uptoBulk {H : Type} : DataW H → Nat
  | .lit (.string bytes) => bytes.length + 1
  | .lit _ => 1
  | .nil => 1
  | .ptr d => uptoBulk d + 1
  | .slice elems spare => uptoBulkAll elems + uptoBulkAll spare + 1
  | .agg parts => uptoBulkAll parts + 1
  | .iface _ d => uptoBulk d + 1
  | .map entries => uptoBulkEntries entries + 1
  | .held _ => 1
def uptoBulkAll {H : Type} : List (DataW H) → Nat
  | [] => 0
  | d :: r => uptoBulk d + uptoBulkAll r
def uptoBulkEntries {H : Type} : List (Lit × DataW H) → Nat
  | [] => 0
  | x :: r => uptoBulkEntry x + uptoBulkEntries r
def uptoBulkEntry {H : Type} : Lit × DataW H → Nat
  | (.string bytes, d) => bytes.length + uptoBulk d + 1
  | (_, d) => uptoBulk d + 1
 end
def uptoSmall : (H : Type) → List (DataW H) → Bool := fun _ ds => decide (uptoBulkAll ds ≤ 1048576)
def OpenSpec.upto (s : _root_.Go.ChangeSpec) : _root_.Go.OpenSpec := { _root_.Go.OpenSpec.ofChange s with cond := some uptoSmall }

/-- 'postriderlaw04.ItemCodes', WHERE WHAT IT READS IS OF BULK AT MOST 1048576: true; the input reads as it did. -/
def itemCodesUptoRow : OpenClaim := { program := "ytmoghgmbpkpcfaagreatdoor", sum := "4f53104a3f7afea444db7106fbd2ba3561ce197472c558b0facb17c3db81f083", func := "postrider/postriderlaw04.ItemCodes", spec := "itemCodes", inPlace := ["internal/reflectlite.TypeOf", "internal/reflectlite.ValueOf", "(internal/reflectlite.Value).Type", "(internal/reflectlite.Value).IsNil", "(internal/reflectlite.Value).Elem", "(internal/reflectlite.Value).Set", "internal/abi.NoEscape"], unfollowed := true, recurses := true, named := ["postrider/head.errShort", "postrider/head.errForm", "postrider/head.rooms", "postrider/head.errNum", "postrider/nums.errNum", "postrider/nums.errWidth", "postrider/nums.errShort", "postrider/head.errMajor", "errors.errorType"], loops := true, apart := false, laid := [("errors.errorType", laid_errors_errorType), ("postrider/nums.errWidth", laid_postrider_nums_errWidth), ("postrider/nums.errNum", laid_postrider_nums_errNum), ("postrider/nums.errShort", laid_postrider_nums_errShort), ("postrider/head.errMajor", laid_postrider_head_errMajor), ("postrider/head.errNum", laid_postrider_head_errNum), ("postrider/head.errShort", laid_postrider_head_errShort), ("postrider/head.errForm", laid_postrider_head_errForm), ("postrider/head.rooms", laid_postrider_head_rooms)], narrowed := true }
def ItemCodesUptoSaid : Prop := itemCodesUptoRow.holds Tryz.pinned (OpenSpec.upto itemCodesSpec)

end Rows
end Go.Proofs.YtmoghgmbpkpcfaaGreatDoor
