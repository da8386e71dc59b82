/-
  NARROWER THAN 'FOR EVERY INPUT', by the rows' own cells (each row's printed sentence says how): SdnvBack: laid · SdnvApart: laid · SdnvJoins: laid · SdnvShort: laid · SdnvOne: laid · SdnvLists: laid · SdnvAll: laid · SdnvCodes: laid.
  DERIVED. THE GIVEN ROWS OF THIS SEAT. 8 by the template 'for every input the law returns true; each argument reads behind the call as it read before'; 0 by the template 'total and deterministic' (their statements: YtcahfdhfdigjaaaDoorTotals.lean).
  GIVEN WITH THE SEED: the statements are not yours to turn. If you find one false, say at which input.
  Laid BY PROGRAM, IN A SANDBOX (cutbox-rows.mjs): the forced cells as the released guide's own fill.sh prints them over the translation 104f75727779004e… (all of the seat's roots in one cut). By AI agents, Wed Nov 11 2026. No macro, syntax, notation, axiom, sorry.
-/
import Derived.Test.YtcahfdhfdigjaaaDoorChecked
import GoSem.Claim
import GoSem.ClaimJoined
import GoSem.ClaimMapViews
import Derived.JoinedTies
import Derived.KernelRfl
namespace Go.Proofs.YtcahfdhfdigjaaaDoor
/- THE CELL 'sum', in the pinned program and in every row, IS THE sha256 OF THE DUMP (.gsa) THAT YtcahfdhfdigjaaaDoorProg.lean LOADS. Nothing in Lean hashes anything: it is a label: what it is worth is what the hold of that sum in a sandbox is worth. -/
noncomputable def Tryd.pinned : Pinned := { name := "ytcahfdhfdigjaaadoor", sum := "104f75727779004ed7b8f2bea0821cfcce9d3e0140de2730a260d39ac3375663", checked := Tryd.checked }
namespace Rows
def none {H : Type} : Left H := { results := [], args := [] }

/- WHAT THE LISTED PACKAGE-LEVEL VARIABLES READ AS WHEN THE CALL BEGINS. Each datum BY PROGRAM (the guide's laid-datum.mjs) off the statement by which the dump's own 'gosem.cut.vars' lays the variable. In a bare row this is a premise. The card (YtcahfdhfdigjaaaDoorCards.lean) ties it to the program's text. -/
def laid_errors_errorType {H : Type} : DataW H := .iface "internal/reflectlite.rtype" (.agg [.ptr (.lit (.string [101, 114, 114, 111, 114]))])

/-- 'postriderlaw02.SdnvBack': WHATEVER THE INPUT: true; the input reads as it did. -/
def sdnvBackSpec : ChangeSpec := { name := "sdnvBack", fn := fun _ => fun
  | [d1, d2, d3] => { results := [.lit (.bool true)], args := [d1, d2, d3] }
  | _ => none }
def sdnvBackRow : OpenClaim := { program := "ytcahfdhfdigjaaadoor", sum := "104f75727779004ed7b8f2bea0821cfcce9d3e0140de2730a260d39ac3375663", func := "postrider/postriderlaw02.SdnvBack", spec := "sdnvBack", inPlace := ["internal/reflectlite.ValueOf", "(internal/reflectlite.Value).Type", "(internal/reflectlite.Value).IsNil", "internal/reflectlite.TypeOf", "(internal/reflectlite.Value).Elem", "(internal/reflectlite.Value).Set"], unfollowed := true, recurses := true, named := ["errors.errorType"], apart := false, laid := [("errors.errorType", laid_errors_errorType)] }
def SdnvBackSaid : Prop := sdnvBackRow.holds Tryd.pinned (OpenSpec.ofChange sdnvBackSpec)

/-- ITS FALSE NEIGHBOUR: 'it returns false'. Refute it at one input. -/
def sdnvBackWrong : ChangeSpec := { name := "sdnvBack", fn := fun _ => fun
  | [d1, d2, d3] => { results := [.lit (.bool false)], args := [d1, d2, d3] }
  | _ => none }
def SdnvBackWrongFalsely : Prop := sdnvBackRow.holds Tryd.pinned (OpenSpec.ofChange sdnvBackWrong)

/-- 'postriderlaw02.SdnvApart': WHATEVER THE INPUT: true; the input reads as it did. -/
def sdnvApartSpec : ChangeSpec := { name := "sdnvApart", fn := fun _ => fun
  | [d1, d2] => { results := [.lit (.bool true)], args := [d1, d2] }
  | _ => none }
def sdnvApartRow : OpenClaim := { program := "ytcahfdhfdigjaaadoor", sum := "104f75727779004ed7b8f2bea0821cfcce9d3e0140de2730a260d39ac3375663", func := "postrider/postriderlaw02.SdnvApart", spec := "sdnvApart", inPlace := ["internal/reflectlite.ValueOf", "(internal/reflectlite.Value).Type", "(internal/reflectlite.Value).IsNil", "internal/reflectlite.TypeOf", "(internal/reflectlite.Value).Elem", "(internal/reflectlite.Value).Set"], unfollowed := true, recurses := true, named := ["errors.errorType"], apart := false, laid := [("errors.errorType", laid_errors_errorType)] }
def SdnvApartSaid : Prop := sdnvApartRow.holds Tryd.pinned (OpenSpec.ofChange sdnvApartSpec)

/-- ITS FALSE NEIGHBOUR: 'it returns false'. Refute it at one input. -/
def sdnvApartWrong : ChangeSpec := { name := "sdnvApart", fn := fun _ => fun
  | [d1, d2] => { results := [.lit (.bool false)], args := [d1, d2] }
  | _ => none }
def SdnvApartWrongFalsely : Prop := sdnvApartRow.holds Tryd.pinned (OpenSpec.ofChange sdnvApartWrong)

/-- 'postriderlaw02.SdnvJoins': WHATEVER THE INPUT: true; the input reads as it did. -/
def sdnvJoinsSpec : ChangeSpec := { name := "sdnvJoins", fn := fun _ => fun
  | [d1, d2] => { results := [.lit (.bool true)], args := [d1, d2] }
  | _ => none }
def sdnvJoinsRow : OpenClaim := { program := "ytcahfdhfdigjaaadoor", sum := "104f75727779004ed7b8f2bea0821cfcce9d3e0140de2730a260d39ac3375663", func := "postrider/postriderlaw02.SdnvJoins", spec := "sdnvJoins", inPlace := ["internal/reflectlite.ValueOf", "(internal/reflectlite.Value).Type", "(internal/reflectlite.Value).IsNil", "internal/reflectlite.TypeOf", "(internal/reflectlite.Value).Elem", "(internal/reflectlite.Value).Set"], unfollowed := true, recurses := true, named := ["errors.errorType"], apart := false, laid := [("errors.errorType", laid_errors_errorType)] }
def SdnvJoinsSaid : Prop := sdnvJoinsRow.holds Tryd.pinned (OpenSpec.ofChange sdnvJoinsSpec)

/-- ITS FALSE NEIGHBOUR: 'it returns false'. Refute it at one input. -/
def sdnvJoinsWrong : ChangeSpec := { name := "sdnvJoins", fn := fun _ => fun
  | [d1, d2] => { results := [.lit (.bool false)], args := [d1, d2] }
  | _ => none }
def SdnvJoinsWrongFalsely : Prop := sdnvJoinsRow.holds Tryd.pinned (OpenSpec.ofChange sdnvJoinsWrong)

/-- 'postriderlaw02.SdnvShort': WHATEVER THE INPUT: true; the input reads as it did. -/
def sdnvShortSpec : ChangeSpec := { name := "sdnvShort", fn := fun _ => fun
  | [d1, d2] => { results := [.lit (.bool true)], args := [d1, d2] }
  | _ => none }
def sdnvShortRow : OpenClaim := { program := "ytcahfdhfdigjaaadoor", sum := "104f75727779004ed7b8f2bea0821cfcce9d3e0140de2730a260d39ac3375663", func := "postrider/postriderlaw02.SdnvShort", spec := "sdnvShort", inPlace := ["internal/reflectlite.ValueOf", "(internal/reflectlite.Value).Type", "(internal/reflectlite.Value).IsNil", "internal/reflectlite.TypeOf", "(internal/reflectlite.Value).Elem", "(internal/reflectlite.Value).Set"], unfollowed := true, recurses := true, named := ["errors.errorType"], apart := false, laid := [("errors.errorType", laid_errors_errorType)] }
def SdnvShortSaid : Prop := sdnvShortRow.holds Tryd.pinned (OpenSpec.ofChange sdnvShortSpec)

/-- ITS FALSE NEIGHBOUR: 'it returns false'. Refute it at one input. -/
def sdnvShortWrong : ChangeSpec := { name := "sdnvShort", fn := fun _ => fun
  | [d1, d2] => { results := [.lit (.bool false)], args := [d1, d2] }
  | _ => none }
def SdnvShortWrongFalsely : Prop := sdnvShortRow.holds Tryd.pinned (OpenSpec.ofChange sdnvShortWrong)

/-- 'postriderlaw02.SdnvOne': WHATEVER THE INPUT: true; the input reads as it did. -/
def sdnvOneSpec : ChangeSpec := { name := "sdnvOne", fn := fun _ => fun
  | [d] => { results := [.lit (.bool true)], args := [d] }
  | _ => none }
def sdnvOneRow : OpenClaim := { program := "ytcahfdhfdigjaaadoor", sum := "104f75727779004ed7b8f2bea0821cfcce9d3e0140de2730a260d39ac3375663", func := "postrider/postriderlaw02.SdnvOne", spec := "sdnvOne", inPlace := ["internal/reflectlite.ValueOf", "(internal/reflectlite.Value).Type", "(internal/reflectlite.Value).IsNil", "internal/reflectlite.TypeOf", "(internal/reflectlite.Value).Elem", "(internal/reflectlite.Value).Set"], unfollowed := true, recurses := true, named := ["errors.errorType"], apart := false, laid := [("errors.errorType", laid_errors_errorType)] }
def SdnvOneSaid : Prop := sdnvOneRow.holds Tryd.pinned (OpenSpec.ofChange sdnvOneSpec)

/-- ITS FALSE NEIGHBOUR: 'it returns false'. Refute it at one input. -/
def sdnvOneWrong : ChangeSpec := { name := "sdnvOne", fn := fun _ => fun
  | [d] => { results := [.lit (.bool false)], args := [d] }
  | _ => none }
def SdnvOneWrongFalsely : Prop := sdnvOneRow.holds Tryd.pinned (OpenSpec.ofChange sdnvOneWrong)

/-- 'postriderlaw02.SdnvLists': WHATEVER THE INPUT: true; the input reads as it did. -/
def sdnvListsSpec : ChangeSpec := { name := "sdnvLists", fn := fun _ => fun
  | [d1, d2] => { results := [.lit (.bool true)], args := [d1, d2] }
  | _ => none }
def sdnvListsRow : OpenClaim := { program := "ytcahfdhfdigjaaadoor", sum := "104f75727779004ed7b8f2bea0821cfcce9d3e0140de2730a260d39ac3375663", func := "postrider/postriderlaw02.SdnvLists", spec := "sdnvLists", inPlace := ["internal/reflectlite.ValueOf", "(internal/reflectlite.Value).Type", "(internal/reflectlite.Value).IsNil", "internal/reflectlite.TypeOf", "(internal/reflectlite.Value).Elem", "(internal/reflectlite.Value).Set"], unfollowed := true, recurses := true, named := ["errors.errorType"], apart := false, laid := [("errors.errorType", laid_errors_errorType)] }
def SdnvListsSaid : Prop := sdnvListsRow.holds Tryd.pinned (OpenSpec.ofChange sdnvListsSpec)

/-- ITS FALSE NEIGHBOUR: 'it returns false'. Refute it at one input. -/
def sdnvListsWrong : ChangeSpec := { name := "sdnvLists", fn := fun _ => fun
  | [d1, d2] => { results := [.lit (.bool false)], args := [d1, d2] }
  | _ => none }
def SdnvListsWrongFalsely : Prop := sdnvListsRow.holds Tryd.pinned (OpenSpec.ofChange sdnvListsWrong)

/-- 'postriderlaw02.SdnvAll': WHATEVER THE INPUT: true; the input reads as it did. -/
def sdnvAllSpec : ChangeSpec := { name := "sdnvAll", fn := fun _ => fun
  | [d1, d2] => { results := [.lit (.bool true)], args := [d1, d2] }
  | _ => none }
def sdnvAllRow : OpenClaim := { program := "ytcahfdhfdigjaaadoor", sum := "104f75727779004ed7b8f2bea0821cfcce9d3e0140de2730a260d39ac3375663", func := "postrider/postriderlaw02.SdnvAll", spec := "sdnvAll", inPlace := ["internal/reflectlite.ValueOf", "(internal/reflectlite.Value).Type", "(internal/reflectlite.Value).IsNil", "internal/reflectlite.TypeOf", "(internal/reflectlite.Value).Elem", "(internal/reflectlite.Value).Set"], unfollowed := true, recurses := true, named := ["errors.errorType"], apart := false, laid := [("errors.errorType", laid_errors_errorType)] }
def SdnvAllSaid : Prop := sdnvAllRow.holds Tryd.pinned (OpenSpec.ofChange sdnvAllSpec)

/-- ITS FALSE NEIGHBOUR: 'it returns false'. Refute it at one input. -/
def sdnvAllWrong : ChangeSpec := { name := "sdnvAll", fn := fun _ => fun
  | [d1, d2] => { results := [.lit (.bool false)], args := [d1, d2] }
  | _ => none }
def SdnvAllWrongFalsely : Prop := sdnvAllRow.holds Tryd.pinned (OpenSpec.ofChange sdnvAllWrong)

/-- 'postriderlaw02.SdnvCodes': WHATEVER THE INPUT: true; the input reads as it did. -/
def sdnvCodesSpec : ChangeSpec := { name := "sdnvCodes", fn := fun _ => fun
  | [d1, d2, d3] => { results := [.lit (.bool true)], args := [d1, d2, d3] }
  | _ => none }
def sdnvCodesRow : OpenClaim := { program := "ytcahfdhfdigjaaadoor", sum := "104f75727779004ed7b8f2bea0821cfcce9d3e0140de2730a260d39ac3375663", func := "postrider/postriderlaw02.SdnvCodes", spec := "sdnvCodes", inPlace := ["internal/reflectlite.ValueOf", "(internal/reflectlite.Value).Type", "(internal/reflectlite.Value).IsNil", "internal/reflectlite.TypeOf", "(internal/reflectlite.Value).Elem", "(internal/reflectlite.Value).Set"], unfollowed := true, recurses := true, named := ["errors.errorType"], apart := false, laid := [("errors.errorType", laid_errors_errorType)] }
def SdnvCodesSaid : Prop := sdnvCodesRow.holds Tryd.pinned (OpenSpec.ofChange sdnvCodesSpec)

/-- ITS FALSE NEIGHBOUR: 'it returns false'. Refute it at one input. -/
def sdnvCodesWrong : ChangeSpec := { name := "sdnvCodes", fn := fun _ => fun
  | [d1, d2, d3] => { results := [.lit (.bool false)], args := [d1, d2, d3] }
  | _ => none }
def SdnvCodesWrongFalsely : Prop := sdnvCodesRow.holds Tryd.pinned (OpenSpec.ofChange sdnvCodesWrong)

/- THE SECOND FORM. 'bulk': how many values and letters a reading holds, each counted each time it is reached (what is shared counts as often as it is met; a slice's spare places count too). A statement '..UptoSaid' is the law's where the arguments, and the package variables that the reading takes, are together of bulk at most 1048576: NARROWER than '..Said'. Prove '..Said' where nothing that the law and all that it calls make is longer than what came in: it says more and counts as full. Else prove '..UptoSaid'. A law counts once. -/
mutual
def uptoBulk {H : Type} : DataW H → Nat
  | .lit (.string bytes) => bytes.length + 1
  | .lit _ => 1
  | .nil => 1
  | .ptr d => uptoBulk d + 1
  | .slice elems spare => uptoBulkAll elems + uptoBulkAll spare + 1
  | .agg parts => uptoBulkAll parts + 1
  | .iface _ d => uptoBulk d + 1
  | .map entries => uptoBulkEntries entries + 1
  | .held _ => 1
def uptoBulkAll {H : Type} : List (DataW H) → Nat
  | [] => 0
  | d :: r => uptoBulk d + uptoBulkAll r
def uptoBulkEntries {H : Type} : List (Lit × DataW H) → Nat
  | [] => 0
  | x :: r => uptoBulkEntry x + uptoBulkEntries r
def uptoBulkEntry {H : Type} : Lit × DataW H → Nat
  | (.string bytes, d) => bytes.length + uptoBulk d + 1
  | (_, d) => uptoBulk d + 1
 end
def uptoSmall : (H : Type) → List (DataW H) → Bool := fun _ ds => decide (uptoBulkAll ds ≤ 1048576)
def OpenSpec.upto (s : _root_.Go.ChangeSpec) : _root_.Go.OpenSpec := { _root_.Go.OpenSpec.ofChange s with cond := some uptoSmall }

/-- 'postriderlaw02.SdnvBack', WHERE WHAT IT READS IS OF BULK AT MOST 1048576: true; the input reads as it did. -/
def sdnvBackUptoRow : OpenClaim := { program := "ytcahfdhfdigjaaadoor", sum := "104f75727779004ed7b8f2bea0821cfcce9d3e0140de2730a260d39ac3375663", func := "postrider/postriderlaw02.SdnvBack", spec := "sdnvBack", inPlace := ["internal/reflectlite.ValueOf", "(internal/reflectlite.Value).Type", "(internal/reflectlite.Value).IsNil", "internal/reflectlite.TypeOf", "(internal/reflectlite.Value).Elem", "(internal/reflectlite.Value).Set"], unfollowed := true, recurses := true, named := ["errors.errorType"], apart := false, laid := [("errors.errorType", laid_errors_errorType)], narrowed := true }
def SdnvBackUptoSaid : Prop := sdnvBackUptoRow.holds Tryd.pinned (OpenSpec.upto sdnvBackSpec)

/-- 'postriderlaw02.SdnvApart', WHERE WHAT IT READS IS OF BULK AT MOST 1048576: true; the input reads as it did. -/
def sdnvApartUptoRow : OpenClaim := { program := "ytcahfdhfdigjaaadoor", sum := "104f75727779004ed7b8f2bea0821cfcce9d3e0140de2730a260d39ac3375663", func := "postrider/postriderlaw02.SdnvApart", spec := "sdnvApart", inPlace := ["internal/reflectlite.ValueOf", "(internal/reflectlite.Value).Type", "(internal/reflectlite.Value).IsNil", "internal/reflectlite.TypeOf", "(internal/reflectlite.Value).Elem", "(internal/reflectlite.Value).Set"], unfollowed := true, recurses := true, named := ["errors.errorType"], apart := false, laid := [("errors.errorType", laid_errors_errorType)], narrowed := true }
def SdnvApartUptoSaid : Prop := sdnvApartUptoRow.holds Tryd.pinned (OpenSpec.upto sdnvApartSpec)

/-- 'postriderlaw02.SdnvJoins', WHERE WHAT IT READS IS OF BULK AT MOST 1048576: true; the input reads as it did. -/
def sdnvJoinsUptoRow : OpenClaim := { program := "ytcahfdhfdigjaaadoor", sum := "104f75727779004ed7b8f2bea0821cfcce9d3e0140de2730a260d39ac3375663", func := "postrider/postriderlaw02.SdnvJoins", spec := "sdnvJoins", inPlace := ["internal/reflectlite.ValueOf", "(internal/reflectlite.Value).Type", "(internal/reflectlite.Value).IsNil", "internal/reflectlite.TypeOf", "(internal/reflectlite.Value).Elem", "(internal/reflectlite.Value).Set"], unfollowed := true, recurses := true, named := ["errors.errorType"], apart := false, laid := [("errors.errorType", laid_errors_errorType)], narrowed := true }
def SdnvJoinsUptoSaid : Prop := sdnvJoinsUptoRow.holds Tryd.pinned (OpenSpec.upto sdnvJoinsSpec)

/-- 'postriderlaw02.SdnvShort', WHERE WHAT IT READS IS OF BULK AT MOST 1048576: true; the input reads as it did. -/
def sdnvShortUptoRow : OpenClaim := { program := "ytcahfdhfdigjaaadoor", sum := "104f75727779004ed7b8f2bea0821cfcce9d3e0140de2730a260d39ac3375663", func := "postrider/postriderlaw02.SdnvShort", spec := "sdnvShort", inPlace := ["internal/reflectlite.ValueOf", "(internal/reflectlite.Value).Type", "(internal/reflectlite.Value).IsNil", "internal/reflectlite.TypeOf", "(internal/reflectlite.Value).Elem", "(internal/reflectlite.Value).Set"], unfollowed := true, recurses := true, named := ["errors.errorType"], apart := false, laid := [("errors.errorType", laid_errors_errorType)], narrowed := true }
def SdnvShortUptoSaid : Prop := sdnvShortUptoRow.holds Tryd.pinned (OpenSpec.upto sdnvShortSpec)

/-- 'postriderlaw02.SdnvOne', WHERE WHAT IT READS IS OF BULK AT MOST 1048576: true; the input reads as it did. -/
def sdnvOneUptoRow : OpenClaim := { program := "ytcahfdhfdigjaaadoor", sum := "104f75727779004ed7b8f2bea0821cfcce9d3e0140de2730a260d39ac3375663", func := "postrider/postriderlaw02.SdnvOne", spec := "sdnvOne", inPlace := ["internal/reflectlite.ValueOf", "(internal/reflectlite.Value).Type", "(internal/reflectlite.Value).IsNil", "internal/reflectlite.TypeOf", "(internal/reflectlite.Value).Elem", "(internal/reflectlite.Value).Set"], unfollowed := true, recurses := true, named := ["errors.errorType"], apart := false, laid := [("errors.errorType", laid_errors_errorType)], narrowed := true }
def SdnvOneUptoSaid : Prop := sdnvOneUptoRow.holds Tryd.pinned (OpenSpec.upto sdnvOneSpec)

/-- 'postriderlaw02.SdnvLists', WHERE WHAT IT READS IS OF BULK AT MOST 1048576: true; the input reads as it did. -/
def sdnvListsUptoRow : OpenClaim := { program := "ytcahfdhfdigjaaadoor", sum := "104f75727779004ed7b8f2bea0821cfcce9d3e0140de2730a260d39ac3375663", func := "postrider/postriderlaw02.SdnvLists", spec := "sdnvLists", inPlace := ["internal/reflectlite.ValueOf", "(internal/reflectlite.Value).Type", "(internal/reflectlite.Value).IsNil", "internal/reflectlite.TypeOf", "(internal/reflectlite.Value).Elem", "(internal/reflectlite.Value).Set"], unfollowed := true, recurses := true, named := ["errors.errorType"], apart := false, laid := [("errors.errorType", laid_errors_errorType)], narrowed := true }
def SdnvListsUptoSaid : Prop := sdnvListsUptoRow.holds Tryd.pinned (OpenSpec.upto sdnvListsSpec)

/-- 'postriderlaw02.SdnvAll', WHERE WHAT IT READS IS OF BULK AT MOST 1048576: true; the input reads as it did. -/
def sdnvAllUptoRow : OpenClaim := { program := "ytcahfdhfdigjaaadoor", sum := "104f75727779004ed7b8f2bea0821cfcce9d3e0140de2730a260d39ac3375663", func := "postrider/postriderlaw02.SdnvAll", spec := "sdnvAll", inPlace := ["internal/reflectlite.ValueOf", "(internal/reflectlite.Value).Type", "(internal/reflectlite.Value).IsNil", "internal/reflectlite.TypeOf", "(internal/reflectlite.Value).Elem", "(internal/reflectlite.Value).Set"], unfollowed := true, recurses := true, named := ["errors.errorType"], apart := false, laid := [("errors.errorType", laid_errors_errorType)], narrowed := true }
def SdnvAllUptoSaid : Prop := sdnvAllUptoRow.holds Tryd.pinned (OpenSpec.upto sdnvAllSpec)

/-- 'postriderlaw02.SdnvCodes', WHERE WHAT IT READS IS OF BULK AT MOST 1048576: true; the input reads as it did. -/
def sdnvCodesUptoRow : OpenClaim := { program := "ytcahfdhfdigjaaadoor", sum := "104f75727779004ed7b8f2bea0821cfcce9d3e0140de2730a260d39ac3375663", func := "postrider/postriderlaw02.SdnvCodes", spec := "sdnvCodes", inPlace := ["internal/reflectlite.ValueOf", "(internal/reflectlite.Value).Type", "(internal/reflectlite.Value).IsNil", "internal/reflectlite.TypeOf", "(internal/reflectlite.Value).Elem", "(internal/reflectlite.Value).Set"], unfollowed := true, recurses := true, named := ["errors.errorType"], apart := false, laid := [("errors.errorType", laid_errors_errorType)], narrowed := true }
def SdnvCodesUptoSaid : Prop := sdnvCodesUptoRow.holds Tryd.pinned (OpenSpec.upto sdnvCodesSpec)

end Rows
end Go.Proofs.YtcahfdhfdigjaaaDoor
