/-
  NARROWER THAN 'FOR EVERY INPUT', by the rows' own cells (each row's printed sentence says how): QueueOpens: laid · QueueFinds: laid · QueueNew: laid · QueueEnds: laid · QueueSafe: laid · QueueAgain: laid · QueueMends: laid · QueueRoom: laid · QueueOnce: laid · QueuePlays: laid.
  DERIVED. THE GIVEN ROWS OF THIS SEAT. 10 by the template 'for every input the law returns true; each argument reads behind the call as it read before'; 0 by the template 'total and deterministic' (their statements: YtmebjdbkngehiaaGreatDoorTotals.lean).
  GIVEN WITH THE SEED: the statements are not yours to turn. If you find one false, say at which input.
  Laid BY PROGRAM, IN A SANDBOX (cutbox-rows.mjs): the forced cells as the released guide's own fill.sh prints them over the translation 72e1d5a20d7c7404… (all of the seat's roots in one cut). By AI agents, Wed Nov 11 2026. No macro, syntax, notation, axiom, sorry.
-/
import Derived.Test.YtmebjdbkngehiaaGreatDoorChecked
import GoSem.Claim
import GoSem.ClaimJoined
import GoSem.ClaimMapViews
import Derived.JoinedTies
import Derived.KernelRfl
namespace Go.Proofs.YtmebjdbkngehiaaGreatDoor
/- THE CELL 'sum', in the pinned program and in every row, IS THE sha256 OF THE DUMP (.gsa) THAT YtmebjdbkngehiaaGreatDoorProg.lean LOADS. Nothing in Lean hashes anything: it is a label: what it is worth is what the hold of that sum in a sandbox is worth. -/
noncomputable def Tryz.pinned : Pinned := { name := "ytmebjdbkngehiaagreatdoor", sum := "72e1d5a20d7c7404de6ad63fd44abb9c1443fc9d29e4f58847c40463d34e61f6", checked := Tryz.checked }
namespace Rows
def none {H : Type} : Left H := { results := [], args := [] }

/- WHAT THE LISTED PACKAGE-LEVEL VARIABLES READ AS WHEN THE CALL BEGINS. Each datum BY PROGRAM (the guide's laid-datum.mjs) off the statement by which the dump's own 'gosem.cut.vars' lays the variable. In a bare row this is a premise. The card (YtmebjdbkngehiaaGreatDoorCards.lean) ties it to the program's text. -/
def laid_errors_errorType {H : Type} : DataW H := .iface "internal/reflectlite.rtype" (.agg [.ptr (.lit (.string [101, 114, 114, 111, 114]))])
def laid_postrider_nums_errWidth {H : Type} : DataW H := .iface "*errors.errorString" (.ptr (.agg [.lit (.string [110, 111, 32, 119, 105, 100, 116, 104])]))
def laid_postrider_nums_errNum {H : Type} : DataW H := .iface "*errors.errorString" (.ptr (.agg [.lit (.string [110, 111, 32, 110, 117, 109, 98, 101, 114])]))
def laid_postrider_nums_errShort {H : Type} : DataW H := .iface "*errors.errorString" (.ptr (.agg [.lit (.string [116, 111, 111, 32, 115, 104, 111, 114, 116])]))
def laid_postrider_crc_errArg {H : Type} : DataW H := .iface "*errors.errorString" (.ptr (.agg [.lit (.string [110, 111, 32, 107, 105, 110, 100])]))
def laid_postrider_crc_errTable {H : Type} : DataW H := .iface "*errors.errorString" (.ptr (.agg [.lit (.string [110, 111, 32, 116, 97, 98, 108, 101])]))
def laid_postrider_crc_kinds {H : Type} : DataW H := .agg [.agg [.lit (.int .i64 0), .lit (.int .i64 0)], .agg [.lit (.int .i64 1), .lit (.int .i64 2)], .agg [.lit (.int .i64 2), .lit (.int .i64 4)]]

/-- 'postriderlaw19.QueueOpens': WHATEVER THE INPUT: true; the input reads as it did. -/
def queueOpensSpec : ChangeSpec := { name := "queueOpens", fn := fun _ => fun
  | [d1, d2, d3, d4] => { results := [.lit (.bool true)], args := [d1, d2, d3, d4] }
  | _ => none }
def queueOpensRow : OpenClaim := { program := "ytmebjdbkngehiaagreatdoor", sum := "72e1d5a20d7c7404de6ad63fd44abb9c1443fc9d29e4f58847c40463d34e61f6", func := "postrider/postriderlaw19.QueueOpens", spec := "queueOpens", inPlace := ["internal/reflectlite.ValueOf", "(internal/reflectlite.Value).Type", "(internal/reflectlite.Value).IsNil", "internal/reflectlite.TypeOf", "(internal/reflectlite.Value).Elem", "(internal/reflectlite.Value).Set", "internal/abi.NoEscape"], unfollowed := true, recurses := true, named := ["errors.errorType", "postrider/nums.errShort", "postrider/nums.errWidth", "postrider/nums.errNum", "postrider/crc.errArg", "postrider/crc.errTable", "postrider/crc.kinds"], apart := false, laid := [("errors.errorType", laid_errors_errorType), ("postrider/nums.errWidth", laid_postrider_nums_errWidth), ("postrider/nums.errNum", laid_postrider_nums_errNum), ("postrider/nums.errShort", laid_postrider_nums_errShort), ("postrider/crc.errArg", laid_postrider_crc_errArg), ("postrider/crc.errTable", laid_postrider_crc_errTable), ("postrider/crc.kinds", laid_postrider_crc_kinds)] }
def QueueOpensSaid : Prop := queueOpensRow.holds Tryz.pinned (OpenSpec.ofChange queueOpensSpec)

/-- ITS FALSE NEIGHBOUR: 'it returns false'. Refute it at one input. -/
def queueOpensWrong : ChangeSpec := { name := "queueOpens", fn := fun _ => fun
  | [d1, d2, d3, d4] => { results := [.lit (.bool false)], args := [d1, d2, d3, d4] }
  | _ => none }
def QueueOpensWrongFalsely : Prop := queueOpensRow.holds Tryz.pinned (OpenSpec.ofChange queueOpensWrong)

/-- 'postriderlaw19.QueueFinds': WHATEVER THE INPUT: true; the input reads as it did. -/
def queueFindsSpec : ChangeSpec := { name := "queueFinds", fn := fun _ => fun
  | [d1, d2, d3] => { results := [.lit (.bool true)], args := [d1, d2, d3] }
  | _ => none }
def queueFindsRow : OpenClaim := { program := "ytmebjdbkngehiaagreatdoor", sum := "72e1d5a20d7c7404de6ad63fd44abb9c1443fc9d29e4f58847c40463d34e61f6", func := "postrider/postriderlaw19.QueueFinds", spec := "queueFinds", inPlace := ["internal/reflectlite.ValueOf", "(internal/reflectlite.Value).Type", "(internal/reflectlite.Value).IsNil", "internal/reflectlite.TypeOf", "(internal/reflectlite.Value).Elem", "(internal/reflectlite.Value).Set", "internal/abi.NoEscape"], unfollowed := true, recurses := true, named := ["errors.errorType", "postrider/nums.errShort", "postrider/nums.errWidth", "postrider/nums.errNum", "postrider/crc.errArg", "postrider/crc.errTable", "postrider/crc.kinds"], apart := false, laid := [("errors.errorType", laid_errors_errorType), ("postrider/nums.errWidth", laid_postrider_nums_errWidth), ("postrider/nums.errNum", laid_postrider_nums_errNum), ("postrider/nums.errShort", laid_postrider_nums_errShort), ("postrider/crc.errArg", laid_postrider_crc_errArg), ("postrider/crc.errTable", laid_postrider_crc_errTable), ("postrider/crc.kinds", laid_postrider_crc_kinds)] }
def QueueFindsSaid : Prop := queueFindsRow.holds Tryz.pinned (OpenSpec.ofChange queueFindsSpec)

/-- ITS FALSE NEIGHBOUR: 'it returns false'. Refute it at one input. -/
def queueFindsWrong : ChangeSpec := { name := "queueFinds", fn := fun _ => fun
  | [d1, d2, d3] => { results := [.lit (.bool false)], args := [d1, d2, d3] }
  | _ => none }
def QueueFindsWrongFalsely : Prop := queueFindsRow.holds Tryz.pinned (OpenSpec.ofChange queueFindsWrong)

/-- 'postriderlaw19.QueueNew': WHATEVER THE INPUT: true; the input reads as it did. -/
def queueNewSpec : ChangeSpec := { name := "queueNew", fn := fun _ => fun
  | [d] => { results := [.lit (.bool true)], args := [d] }
  | _ => none }
def queueNewRow : OpenClaim := { program := "ytmebjdbkngehiaagreatdoor", sum := "72e1d5a20d7c7404de6ad63fd44abb9c1443fc9d29e4f58847c40463d34e61f6", func := "postrider/postriderlaw19.QueueNew", spec := "queueNew", inPlace := ["internal/reflectlite.ValueOf", "(internal/reflectlite.Value).Type", "(internal/reflectlite.Value).IsNil", "internal/reflectlite.TypeOf", "(internal/reflectlite.Value).Elem", "(internal/reflectlite.Value).Set", "internal/abi.NoEscape"], unfollowed := true, recurses := true, named := ["errors.errorType", "postrider/nums.errShort", "postrider/nums.errWidth", "postrider/nums.errNum", "postrider/crc.errArg", "postrider/crc.errTable", "postrider/crc.kinds"], apart := false, laid := [("errors.errorType", laid_errors_errorType), ("postrider/nums.errWidth", laid_postrider_nums_errWidth), ("postrider/nums.errNum", laid_postrider_nums_errNum), ("postrider/nums.errShort", laid_postrider_nums_errShort), ("postrider/crc.errArg", laid_postrider_crc_errArg), ("postrider/crc.errTable", laid_postrider_crc_errTable), ("postrider/crc.kinds", laid_postrider_crc_kinds)] }
def QueueNewSaid : Prop := queueNewRow.holds Tryz.pinned (OpenSpec.ofChange queueNewSpec)

/-- ITS FALSE NEIGHBOUR: 'it returns false'. Refute it at one input. -/
def queueNewWrong : ChangeSpec := { name := "queueNew", fn := fun _ => fun
  | [d] => { results := [.lit (.bool false)], args := [d] }
  | _ => none }
def QueueNewWrongFalsely : Prop := queueNewRow.holds Tryz.pinned (OpenSpec.ofChange queueNewWrong)

/-- 'postriderlaw19.QueueEnds': WHATEVER THE INPUT: true; the input reads as it did. -/
def queueEndsSpec : ChangeSpec := { name := "queueEnds", fn := fun _ => fun
  | [d1, d2, d3, d4] => { results := [.lit (.bool true)], args := [d1, d2, d3, d4] }
  | _ => none }
def queueEndsRow : OpenClaim := { program := "ytmebjdbkngehiaagreatdoor", sum := "72e1d5a20d7c7404de6ad63fd44abb9c1443fc9d29e4f58847c40463d34e61f6", func := "postrider/postriderlaw19.QueueEnds", spec := "queueEnds", inPlace := ["internal/reflectlite.ValueOf", "(internal/reflectlite.Value).Type", "(internal/reflectlite.Value).IsNil", "internal/reflectlite.TypeOf", "(internal/reflectlite.Value).Elem", "(internal/reflectlite.Value).Set", "internal/abi.NoEscape"], unfollowed := true, recurses := true, named := ["errors.errorType", "postrider/nums.errShort", "postrider/nums.errWidth", "postrider/nums.errNum", "postrider/crc.errArg", "postrider/crc.errTable", "postrider/crc.kinds"], apart := false, laid := [("errors.errorType", laid_errors_errorType), ("postrider/nums.errWidth", laid_postrider_nums_errWidth), ("postrider/nums.errNum", laid_postrider_nums_errNum), ("postrider/nums.errShort", laid_postrider_nums_errShort), ("postrider/crc.errArg", laid_postrider_crc_errArg), ("postrider/crc.errTable", laid_postrider_crc_errTable), ("postrider/crc.kinds", laid_postrider_crc_kinds)] }
def QueueEndsSaid : Prop := queueEndsRow.holds Tryz.pinned (OpenSpec.ofChange queueEndsSpec)

/-- ITS FALSE NEIGHBOUR: 'it returns false'. Refute it at one input. -/
def queueEndsWrong : ChangeSpec := { name := "queueEnds", fn := fun _ => fun
  | [d1, d2, d3, d4] => { results := [.lit (.bool false)], args := [d1, d2, d3, d4] }
  | _ => none }
def QueueEndsWrongFalsely : Prop := queueEndsRow.holds Tryz.pinned (OpenSpec.ofChange queueEndsWrong)

/-- 'postriderlaw19.QueueSafe': WHATEVER THE INPUT: true; the input reads as it did. -/
def queueSafeSpec : ChangeSpec := { name := "queueSafe", fn := fun _ => fun
  | [d1, d2, d3, d4, d5] => { results := [.lit (.bool true)], args := [d1, d2, d3, d4, d5] }
  | _ => none }
def queueSafeRow : OpenClaim := { program := "ytmebjdbkngehiaagreatdoor", sum := "72e1d5a20d7c7404de6ad63fd44abb9c1443fc9d29e4f58847c40463d34e61f6", func := "postrider/postriderlaw19.QueueSafe", spec := "queueSafe", inPlace := ["internal/reflectlite.ValueOf", "(internal/reflectlite.Value).Type", "(internal/reflectlite.Value).IsNil", "internal/reflectlite.TypeOf", "(internal/reflectlite.Value).Elem", "(internal/reflectlite.Value).Set", "internal/abi.NoEscape"], unfollowed := true, recurses := true, named := ["errors.errorType", "postrider/nums.errShort", "postrider/nums.errWidth", "postrider/nums.errNum", "postrider/crc.errArg", "postrider/crc.errTable", "postrider/crc.kinds"], apart := false, laid := [("errors.errorType", laid_errors_errorType), ("postrider/nums.errWidth", laid_postrider_nums_errWidth), ("postrider/nums.errNum", laid_postrider_nums_errNum), ("postrider/nums.errShort", laid_postrider_nums_errShort), ("postrider/crc.errArg", laid_postrider_crc_errArg), ("postrider/crc.errTable", laid_postrider_crc_errTable), ("postrider/crc.kinds", laid_postrider_crc_kinds)] }
def QueueSafeSaid : Prop := queueSafeRow.holds Tryz.pinned (OpenSpec.ofChange queueSafeSpec)

/-- ITS FALSE NEIGHBOUR: 'it returns false'. Refute it at one input. -/
def queueSafeWrong : ChangeSpec := { name := "queueSafe", fn := fun _ => fun
  | [d1, d2, d3, d4, d5] => { results := [.lit (.bool false)], args := [d1, d2, d3, d4, d5] }
  | _ => none }
def QueueSafeWrongFalsely : Prop := queueSafeRow.holds Tryz.pinned (OpenSpec.ofChange queueSafeWrong)

/-- 'postriderlaw19.QueueAgain': WHATEVER THE INPUT: true; the input reads as it did. -/
def queueAgainSpec : ChangeSpec := { name := "queueAgain", fn := fun _ => fun
  | [d1, d2, d3] => { results := [.lit (.bool true)], args := [d1, d2, d3] }
  | _ => none }
def queueAgainRow : OpenClaim := { program := "ytmebjdbkngehiaagreatdoor", sum := "72e1d5a20d7c7404de6ad63fd44abb9c1443fc9d29e4f58847c40463d34e61f6", func := "postrider/postriderlaw19.QueueAgain", spec := "queueAgain", inPlace := ["internal/reflectlite.ValueOf", "(internal/reflectlite.Value).Type", "(internal/reflectlite.Value).IsNil", "internal/reflectlite.TypeOf", "(internal/reflectlite.Value).Elem", "(internal/reflectlite.Value).Set", "internal/abi.NoEscape"], unfollowed := true, recurses := true, named := ["errors.errorType", "postrider/nums.errShort", "postrider/nums.errWidth", "postrider/nums.errNum", "postrider/crc.errArg", "postrider/crc.errTable", "postrider/crc.kinds"], apart := false, laid := [("errors.errorType", laid_errors_errorType), ("postrider/nums.errWidth", laid_postrider_nums_errWidth), ("postrider/nums.errNum", laid_postrider_nums_errNum), ("postrider/nums.errShort", laid_postrider_nums_errShort), ("postrider/crc.errArg", laid_postrider_crc_errArg), ("postrider/crc.errTable", laid_postrider_crc_errTable), ("postrider/crc.kinds", laid_postrider_crc_kinds)] }
def QueueAgainSaid : Prop := queueAgainRow.holds Tryz.pinned (OpenSpec.ofChange queueAgainSpec)

/-- ITS FALSE NEIGHBOUR: 'it returns false'. Refute it at one input. -/
def queueAgainWrong : ChangeSpec := { name := "queueAgain", fn := fun _ => fun
  | [d1, d2, d3] => { results := [.lit (.bool false)], args := [d1, d2, d3] }
  | _ => none }
def QueueAgainWrongFalsely : Prop := queueAgainRow.holds Tryz.pinned (OpenSpec.ofChange queueAgainWrong)

/-- 'postriderlaw19.QueueMends': WHATEVER THE INPUT: true; the input reads as it did. -/
def queueMendsSpec : ChangeSpec := { name := "queueMends", fn := fun _ => fun
  | [d1, d2, d3, d4, d5, d6] => { results := [.lit (.bool true)], args := [d1, d2, d3, d4, d5, d6] }
  | _ => none }
def queueMendsRow : OpenClaim := { program := "ytmebjdbkngehiaagreatdoor", sum := "72e1d5a20d7c7404de6ad63fd44abb9c1443fc9d29e4f58847c40463d34e61f6", func := "postrider/postriderlaw19.QueueMends", spec := "queueMends", inPlace := ["internal/reflectlite.ValueOf", "(internal/reflectlite.Value).Type", "(internal/reflectlite.Value).IsNil", "internal/reflectlite.TypeOf", "(internal/reflectlite.Value).Elem", "(internal/reflectlite.Value).Set", "internal/abi.NoEscape"], unfollowed := true, recurses := true, named := ["errors.errorType", "postrider/nums.errShort", "postrider/nums.errWidth", "postrider/nums.errNum", "postrider/crc.errArg", "postrider/crc.errTable", "postrider/crc.kinds"], apart := false, laid := [("errors.errorType", laid_errors_errorType), ("postrider/nums.errWidth", laid_postrider_nums_errWidth), ("postrider/nums.errNum", laid_postrider_nums_errNum), ("postrider/nums.errShort", laid_postrider_nums_errShort), ("postrider/crc.errArg", laid_postrider_crc_errArg), ("postrider/crc.errTable", laid_postrider_crc_errTable), ("postrider/crc.kinds", laid_postrider_crc_kinds)] }
def QueueMendsSaid : Prop := queueMendsRow.holds Tryz.pinned (OpenSpec.ofChange queueMendsSpec)

/-- ITS FALSE NEIGHBOUR: 'it returns false'. Refute it at one input. -/
def queueMendsWrong : ChangeSpec := { name := "queueMends", fn := fun _ => fun
  | [d1, d2, d3, d4, d5, d6] => { results := [.lit (.bool false)], args := [d1, d2, d3, d4, d5, d6] }
  | _ => none }
def QueueMendsWrongFalsely : Prop := queueMendsRow.holds Tryz.pinned (OpenSpec.ofChange queueMendsWrong)

/-- 'postriderlaw19.QueueRoom': WHATEVER THE INPUT: true; the input reads as it did. -/
def queueRoomSpec : ChangeSpec := { name := "queueRoom", fn := fun _ => fun
  | [d1, d2, d3, d4] => { results := [.lit (.bool true)], args := [d1, d2, d3, d4] }
  | _ => none }
def queueRoomRow : OpenClaim := { program := "ytmebjdbkngehiaagreatdoor", sum := "72e1d5a20d7c7404de6ad63fd44abb9c1443fc9d29e4f58847c40463d34e61f6", func := "postrider/postriderlaw19.QueueRoom", spec := "queueRoom", inPlace := ["internal/reflectlite.ValueOf", "(internal/reflectlite.Value).Type", "(internal/reflectlite.Value).IsNil", "internal/reflectlite.TypeOf", "(internal/reflectlite.Value).Elem", "(internal/reflectlite.Value).Set", "internal/abi.NoEscape"], unfollowed := true, recurses := true, named := ["errors.errorType", "postrider/nums.errShort", "postrider/nums.errWidth", "postrider/nums.errNum", "postrider/crc.errArg", "postrider/crc.errTable", "postrider/crc.kinds"], apart := false, laid := [("errors.errorType", laid_errors_errorType), ("postrider/nums.errWidth", laid_postrider_nums_errWidth), ("postrider/nums.errNum", laid_postrider_nums_errNum), ("postrider/nums.errShort", laid_postrider_nums_errShort), ("postrider/crc.errArg", laid_postrider_crc_errArg), ("postrider/crc.errTable", laid_postrider_crc_errTable), ("postrider/crc.kinds", laid_postrider_crc_kinds)] }
def QueueRoomSaid : Prop := queueRoomRow.holds Tryz.pinned (OpenSpec.ofChange queueRoomSpec)

/-- ITS FALSE NEIGHBOUR: 'it returns false'. Refute it at one input. -/
def queueRoomWrong : ChangeSpec := { name := "queueRoom", fn := fun _ => fun
  | [d1, d2, d3, d4] => { results := [.lit (.bool false)], args := [d1, d2, d3, d4] }
  | _ => none }
def QueueRoomWrongFalsely : Prop := queueRoomRow.holds Tryz.pinned (OpenSpec.ofChange queueRoomWrong)

/-- 'postriderlaw19.QueueOnce': WHATEVER THE INPUT: true; the input reads as it did. -/
def queueOnceSpec : ChangeSpec := { name := "queueOnce", fn := fun _ => fun
  | [d1, d2, d3, d4] => { results := [.lit (.bool true)], args := [d1, d2, d3, d4] }
  | _ => none }
def queueOnceRow : OpenClaim := { program := "ytmebjdbkngehiaagreatdoor", sum := "72e1d5a20d7c7404de6ad63fd44abb9c1443fc9d29e4f58847c40463d34e61f6", func := "postrider/postriderlaw19.QueueOnce", spec := "queueOnce", inPlace := ["internal/reflectlite.ValueOf", "(internal/reflectlite.Value).Type", "(internal/reflectlite.Value).IsNil", "internal/reflectlite.TypeOf", "(internal/reflectlite.Value).Elem", "(internal/reflectlite.Value).Set", "internal/abi.NoEscape"], unfollowed := true, recurses := true, named := ["errors.errorType", "postrider/nums.errShort", "postrider/nums.errWidth", "postrider/nums.errNum", "postrider/crc.errArg", "postrider/crc.errTable", "postrider/crc.kinds"], apart := false, laid := [("errors.errorType", laid_errors_errorType), ("postrider/nums.errWidth", laid_postrider_nums_errWidth), ("postrider/nums.errNum", laid_postrider_nums_errNum), ("postrider/nums.errShort", laid_postrider_nums_errShort), ("postrider/crc.errArg", laid_postrider_crc_errArg), ("postrider/crc.errTable", laid_postrider_crc_errTable), ("postrider/crc.kinds", laid_postrider_crc_kinds)] }
def QueueOnceSaid : Prop := queueOnceRow.holds Tryz.pinned (OpenSpec.ofChange queueOnceSpec)

/-- ITS FALSE NEIGHBOUR: 'it returns false'. Refute it at one input. -/
def queueOnceWrong : ChangeSpec := { name := "queueOnce", fn := fun _ => fun
  | [d1, d2, d3, d4] => { results := [.lit (.bool false)], args := [d1, d2, d3, d4] }
  | _ => none }
def QueueOnceWrongFalsely : Prop := queueOnceRow.holds Tryz.pinned (OpenSpec.ofChange queueOnceWrong)

/-- 'postriderlaw19.QueuePlays': WHATEVER THE INPUT: true; the input reads as it did. -/
def queuePlaysSpec : ChangeSpec := { name := "queuePlays", fn := fun _ => fun
  | [d1, d2] => { results := [.lit (.bool true)], args := [d1, d2] }
  | _ => none }
def queuePlaysRow : OpenClaim := { program := "ytmebjdbkngehiaagreatdoor", sum := "72e1d5a20d7c7404de6ad63fd44abb9c1443fc9d29e4f58847c40463d34e61f6", func := "postrider/postriderlaw19.QueuePlays", spec := "queuePlays", inPlace := ["internal/reflectlite.ValueOf", "(internal/reflectlite.Value).Type", "(internal/reflectlite.Value).IsNil", "internal/reflectlite.TypeOf", "(internal/reflectlite.Value).Elem", "(internal/reflectlite.Value).Set", "internal/abi.NoEscape"], unfollowed := true, recurses := true, named := ["errors.errorType", "postrider/nums.errShort", "postrider/nums.errWidth", "postrider/nums.errNum", "postrider/crc.errArg", "postrider/crc.errTable", "postrider/crc.kinds"], apart := false, laid := [("errors.errorType", laid_errors_errorType), ("postrider/nums.errWidth", laid_postrider_nums_errWidth), ("postrider/nums.errNum", laid_postrider_nums_errNum), ("postrider/nums.errShort", laid_postrider_nums_errShort), ("postrider/crc.errArg", laid_postrider_crc_errArg), ("postrider/crc.errTable", laid_postrider_crc_errTable), ("postrider/crc.kinds", laid_postrider_crc_kinds)] }
def QueuePlaysSaid : Prop := queuePlaysRow.holds Tryz.pinned (OpenSpec.ofChange queuePlaysSpec)

/-- ITS FALSE NEIGHBOUR: 'it returns false'. Refute it at one input. -/
def queuePlaysWrong : ChangeSpec := { name := "queuePlays", fn := fun _ => fun
  | [d1, d2] => { results := [.lit (.bool false)], args := [d1, d2] }
  | _ => none }
def QueuePlaysWrongFalsely : Prop := queuePlaysRow.holds Tryz.pinned (OpenSpec.ofChange queuePlaysWrong)

/- THE SECOND FORM. 'bulk': how many values and letters a reading holds, each counted each time it is reached (what is shared counts as often as it is met; a slice's spare places count too). A statement '..UptoSaid' is the law's where the arguments, and the package variables that the reading takes, are together of bulk at most 1048576: NARROWER than '..Said'. Prove '..Said' where nothing that the law and all that it calls make is longer than what came in: it says more and counts as full. Else prove '..UptoSaid'. A law counts once. -/
mutual
def uptoBulk {H : Type} : DataW H → Nat
  | .lit (.string bytes) => bytes.length + 1
  | .lit _ => 1
  | .nil => 1
  | .ptr d => uptoBulk d + 1
  | .slice elems spare => uptoBulkAll elems + uptoBulkAll spare + 1
  | .agg parts => uptoBulkAll parts + 1
  | .iface _ d => uptoBulk d + 1
  | .map entries => uptoBulkEntries entries + 1
  | .held _ => 1
def uptoBulkAll {H : Type} : List (DataW H) → Nat
  | [] => 0
  | d :: r => uptoBulk d + uptoBulkAll r
def uptoBulkEntries {H : Type} : List (Lit × DataW H) → Nat
  | [] => 0
  | x :: r => uptoBulkEntry x + uptoBulkEntries r
def uptoBulkEntry {H : Type} : Lit × DataW H → Nat
  | (.string bytes, d) => bytes.length + uptoBulk d + 1
  | (_, d) => uptoBulk d + 1
 end
def uptoSmall : (H : Type) → List (DataW H) → Bool := fun _ ds => decide (uptoBulkAll ds ≤ 1048576)
def OpenSpec.upto (s : _root_.Go.ChangeSpec) : _root_.Go.OpenSpec := { _root_.Go.OpenSpec.ofChange s with cond := some uptoSmall }

/-- 'postriderlaw19.QueueOpens', WHERE WHAT IT READS IS OF BULK AT MOST 1048576: true; the input reads as it did. -/
def queueOpensUptoRow : OpenClaim := { program := "ytmebjdbkngehiaagreatdoor", sum := "72e1d5a20d7c7404de6ad63fd44abb9c1443fc9d29e4f58847c40463d34e61f6", func := "postrider/postriderlaw19.QueueOpens", spec := "queueOpens", inPlace := ["internal/reflectlite.ValueOf", "(internal/reflectlite.Value).Type", "(internal/reflectlite.Value).IsNil", "internal/reflectlite.TypeOf", "(internal/reflectlite.Value).Elem", "(internal/reflectlite.Value).Set", "internal/abi.NoEscape"], unfollowed := true, recurses := true, named := ["errors.errorType", "postrider/nums.errShort", "postrider/nums.errWidth", "postrider/nums.errNum", "postrider/crc.errArg", "postrider/crc.errTable", "postrider/crc.kinds"], apart := false, laid := [("errors.errorType", laid_errors_errorType), ("postrider/nums.errWidth", laid_postrider_nums_errWidth), ("postrider/nums.errNum", laid_postrider_nums_errNum), ("postrider/nums.errShort", laid_postrider_nums_errShort), ("postrider/crc.errArg", laid_postrider_crc_errArg), ("postrider/crc.errTable", laid_postrider_crc_errTable), ("postrider/crc.kinds", laid_postrider_crc_kinds)], narrowed := true }
def QueueOpensUptoSaid : Prop := queueOpensUptoRow.holds Tryz.pinned (OpenSpec.upto queueOpensSpec)

/-- 'postriderlaw19.QueueFinds', WHERE WHAT IT READS IS OF BULK AT MOST 1048576: true; the input reads as it did. -/
def queueFindsUptoRow : OpenClaim := { program := "ytmebjdbkngehiaagreatdoor", sum := "72e1d5a20d7c7404de6ad63fd44abb9c1443fc9d29e4f58847c40463d34e61f6", func := "postrider/postriderlaw19.QueueFinds", spec := "queueFinds", inPlace := ["internal/reflectlite.ValueOf", "(internal/reflectlite.Value).Type", "(internal/reflectlite.Value).IsNil", "internal/reflectlite.TypeOf", "(internal/reflectlite.Value).Elem", "(internal/reflectlite.Value).Set", "internal/abi.NoEscape"], unfollowed := true, recurses := true, named := ["errors.errorType", "postrider/nums.errShort", "postrider/nums.errWidth", "postrider/nums.errNum", "postrider/crc.errArg", "postrider/crc.errTable", "postrider/crc.kinds"], apart := false, laid := [("errors.errorType", laid_errors_errorType), ("postrider/nums.errWidth", laid_postrider_nums_errWidth), ("postrider/nums.errNum", laid_postrider_nums_errNum), ("postrider/nums.errShort", laid_postrider_nums_errShort), ("postrider/crc.errArg", laid_postrider_crc_errArg), ("postrider/crc.errTable", laid_postrider_crc_errTable), ("postrider/crc.kinds", laid_postrider_crc_kinds)], narrowed := true }
def QueueFindsUptoSaid : Prop := queueFindsUptoRow.holds Tryz.pinned (OpenSpec.upto queueFindsSpec)

/-- 'postriderlaw19.QueueNew', WHERE WHAT IT READS IS OF BULK AT MOST 1048576: true; the input reads as it did. -/
def queueNewUptoRow : OpenClaim := { program := "ytmebjdbkngehiaagreatdoor", sum := "72e1d5a20d7c7404de6ad63fd44abb9c1443fc9d29e4f58847c40463d34e61f6", func := "postrider/postriderlaw19.QueueNew", spec := "queueNew", inPlace := ["internal/reflectlite.ValueOf", "(internal/reflectlite.Value).Type", "(internal/reflectlite.Value).IsNil", "internal/reflectlite.TypeOf", "(internal/reflectlite.Value).Elem", "(internal/reflectlite.Value).Set", "internal/abi.NoEscape"], unfollowed := true, recurses := true, named := ["errors.errorType", "postrider/nums.errShort", "postrider/nums.errWidth", "postrider/nums.errNum", "postrider/crc.errArg", "postrider/crc.errTable", "postrider/crc.kinds"], apart := false, laid := [("errors.errorType", laid_errors_errorType), ("postrider/nums.errWidth", laid_postrider_nums_errWidth), ("postrider/nums.errNum", laid_postrider_nums_errNum), ("postrider/nums.errShort", laid_postrider_nums_errShort), ("postrider/crc.errArg", laid_postrider_crc_errArg), ("postrider/crc.errTable", laid_postrider_crc_errTable), ("postrider/crc.kinds", laid_postrider_crc_kinds)], narrowed := true }
def QueueNewUptoSaid : Prop := queueNewUptoRow.holds Tryz.pinned (OpenSpec.upto queueNewSpec)

/-- 'postriderlaw19.QueueEnds', WHERE WHAT IT READS IS OF BULK AT MOST 1048576: true; the input reads as it did. -/
def queueEndsUptoRow : OpenClaim := { program := "ytmebjdbkngehiaagreatdoor", sum := "72e1d5a20d7c7404de6ad63fd44abb9c1443fc9d29e4f58847c40463d34e61f6", func := "postrider/postriderlaw19.QueueEnds", spec := "queueEnds", inPlace := ["internal/reflectlite.ValueOf", "(internal/reflectlite.Value).Type", "(internal/reflectlite.Value).IsNil", "internal/reflectlite.TypeOf", "(internal/reflectlite.Value).Elem", "(internal/reflectlite.Value).Set", "internal/abi.NoEscape"], unfollowed := true, recurses := true, named := ["errors.errorType", "postrider/nums.errShort", "postrider/nums.errWidth", "postrider/nums.errNum", "postrider/crc.errArg", "postrider/crc.errTable", "postrider/crc.kinds"], apart := false, laid := [("errors.errorType", laid_errors_errorType), ("postrider/nums.errWidth", laid_postrider_nums_errWidth), ("postrider/nums.errNum", laid_postrider_nums_errNum), ("postrider/nums.errShort", laid_postrider_nums_errShort), ("postrider/crc.errArg", laid_postrider_crc_errArg), ("postrider/crc.errTable", laid_postrider_crc_errTable), ("postrider/crc.kinds", laid_postrider_crc_kinds)], narrowed := true }
def QueueEndsUptoSaid : Prop := queueEndsUptoRow.holds Tryz.pinned (OpenSpec.upto queueEndsSpec)

/-- 'postriderlaw19.QueueSafe', WHERE WHAT IT READS IS OF BULK AT MOST 1048576: true; the input reads as it did. -/
def queueSafeUptoRow : OpenClaim := { program := "ytmebjdbkngehiaagreatdoor", sum := "72e1d5a20d7c7404de6ad63fd44abb9c1443fc9d29e4f58847c40463d34e61f6", func := "postrider/postriderlaw19.QueueSafe", spec := "queueSafe", inPlace := ["internal/reflectlite.ValueOf", "(internal/reflectlite.Value).Type", "(internal/reflectlite.Value).IsNil", "internal/reflectlite.TypeOf", "(internal/reflectlite.Value).Elem", "(internal/reflectlite.Value).Set", "internal/abi.NoEscape"], unfollowed := true, recurses := true, named := ["errors.errorType", "postrider/nums.errShort", "postrider/nums.errWidth", "postrider/nums.errNum", "postrider/crc.errArg", "postrider/crc.errTable", "postrider/crc.kinds"], apart := false, laid := [("errors.errorType", laid_errors_errorType), ("postrider/nums.errWidth", laid_postrider_nums_errWidth), ("postrider/nums.errNum", laid_postrider_nums_errNum), ("postrider/nums.errShort", laid_postrider_nums_errShort), ("postrider/crc.errArg", laid_postrider_crc_errArg), ("postrider/crc.errTable", laid_postrider_crc_errTable), ("postrider/crc.kinds", laid_postrider_crc_kinds)], narrowed := true }
def QueueSafeUptoSaid : Prop := queueSafeUptoRow.holds Tryz.pinned (OpenSpec.upto queueSafeSpec)

/-- 'postriderlaw19.QueueAgain', WHERE WHAT IT READS IS OF BULK AT MOST 1048576: true; the input reads as it did. -/
def queueAgainUptoRow : OpenClaim := { program := "ytmebjdbkngehiaagreatdoor", sum := "72e1d5a20d7c7404de6ad63fd44abb9c1443fc9d29e4f58847c40463d34e61f6", func := "postrider/postriderlaw19.QueueAgain", spec := "queueAgain", inPlace := ["internal/reflectlite.ValueOf", "(internal/reflectlite.Value).Type", "(internal/reflectlite.Value).IsNil", "internal/reflectlite.TypeOf", "(internal/reflectlite.Value).Elem", "(internal/reflectlite.Value).Set", "internal/abi.NoEscape"], unfollowed := true, recurses := true, named := ["errors.errorType", "postrider/nums.errShort", "postrider/nums.errWidth", "postrider/nums.errNum", "postrider/crc.errArg", "postrider/crc.errTable", "postrider/crc.kinds"], apart := false, laid := [("errors.errorType", laid_errors_errorType), ("postrider/nums.errWidth", laid_postrider_nums_errWidth), ("postrider/nums.errNum", laid_postrider_nums_errNum), ("postrider/nums.errShort", laid_postrider_nums_errShort), ("postrider/crc.errArg", laid_postrider_crc_errArg), ("postrider/crc.errTable", laid_postrider_crc_errTable), ("postrider/crc.kinds", laid_postrider_crc_kinds)], narrowed := true }
def QueueAgainUptoSaid : Prop := queueAgainUptoRow.holds Tryz.pinned (OpenSpec.upto queueAgainSpec)

/-- 'postriderlaw19.QueueMends', WHERE WHAT IT READS IS OF BULK AT MOST 1048576: true; the input reads as it did. -/
def queueMendsUptoRow : OpenClaim := { program := "ytmebjdbkngehiaagreatdoor", sum := "72e1d5a20d7c7404de6ad63fd44abb9c1443fc9d29e4f58847c40463d34e61f6", func := "postrider/postriderlaw19.QueueMends", spec := "queueMends", inPlace := ["internal/reflectlite.ValueOf", "(internal/reflectlite.Value).Type", "(internal/reflectlite.Value).IsNil", "internal/reflectlite.TypeOf", "(internal/reflectlite.Value).Elem", "(internal/reflectlite.Value).Set", "internal/abi.NoEscape"], unfollowed := true, recurses := true, named := ["errors.errorType", "postrider/nums.errShort", "postrider/nums.errWidth", "postrider/nums.errNum", "postrider/crc.errArg", "postrider/crc.errTable", "postrider/crc.kinds"], apart := false, laid := [("errors.errorType", laid_errors_errorType), ("postrider/nums.errWidth", laid_postrider_nums_errWidth), ("postrider/nums.errNum", laid_postrider_nums_errNum), ("postrider/nums.errShort", laid_postrider_nums_errShort), ("postrider/crc.errArg", laid_postrider_crc_errArg), ("postrider/crc.errTable", laid_postrider_crc_errTable), ("postrider/crc.kinds", laid_postrider_crc_kinds)], narrowed := true }
def QueueMendsUptoSaid : Prop := queueMendsUptoRow.holds Tryz.pinned (OpenSpec.upto queueMendsSpec)

/-- 'postriderlaw19.QueueRoom', WHERE WHAT IT READS IS OF BULK AT MOST 1048576: true; the input reads as it did. -/
def queueRoomUptoRow : OpenClaim := { program := "ytmebjdbkngehiaagreatdoor", sum := "72e1d5a20d7c7404de6ad63fd44abb9c1443fc9d29e4f58847c40463d34e61f6", func := "postrider/postriderlaw19.QueueRoom", spec := "queueRoom", inPlace := ["internal/reflectlite.ValueOf", "(internal/reflectlite.Value).Type", "(internal/reflectlite.Value).IsNil", "internal/reflectlite.TypeOf", "(internal/reflectlite.Value).Elem", "(internal/reflectlite.Value).Set", "internal/abi.NoEscape"], unfollowed := true, recurses := true, named := ["errors.errorType", "postrider/nums.errShort", "postrider/nums.errWidth", "postrider/nums.errNum", "postrider/crc.errArg", "postrider/crc.errTable", "postrider/crc.kinds"], apart := false, laid := [("errors.errorType", laid_errors_errorType), ("postrider/nums.errWidth", laid_postrider_nums_errWidth), ("postrider/nums.errNum", laid_postrider_nums_errNum), ("postrider/nums.errShort", laid_postrider_nums_errShort), ("postrider/crc.errArg", laid_postrider_crc_errArg), ("postrider/crc.errTable", laid_postrider_crc_errTable), ("postrider/crc.kinds", laid_postrider_crc_kinds)], narrowed := true }
def QueueRoomUptoSaid : Prop := queueRoomUptoRow.holds Tryz.pinned (OpenSpec.upto queueRoomSpec)

/-- 'postriderlaw19.QueueOnce', WHERE WHAT IT READS IS OF BULK AT MOST 1048576: true; the input reads as it did. -/
def queueOnceUptoRow : OpenClaim := { program := "ytmebjdbkngehiaagreatdoor", sum := "72e1d5a20d7c7404de6ad63fd44abb9c1443fc9d29e4f58847c40463d34e61f6", func := "postrider/postriderlaw19.QueueOnce", spec := "queueOnce", inPlace := ["internal/reflectlite.ValueOf", "(internal/reflectlite.Value).Type", "(internal/reflectlite.Value).IsNil", "internal/reflectlite.TypeOf", "(internal/reflectlite.Value).Elem", "(internal/reflectlite.Value).Set", "internal/abi.NoEscape"], unfollowed := true, recurses := true, named := ["errors.errorType", "postrider/nums.errShort", "postrider/nums.errWidth", "postrider/nums.errNum", "postrider/crc.errArg", "postrider/crc.errTable", "postrider/crc.kinds"], apart := false, laid := [("errors.errorType", laid_errors_errorType), ("postrider/nums.errWidth", laid_postrider_nums_errWidth), ("postrider/nums.errNum", laid_postrider_nums_errNum), ("postrider/nums.errShort", laid_postrider_nums_errShort), ("postrider/crc.errArg", laid_postrider_crc_errArg), ("postrider/crc.errTable", laid_postrider_crc_errTable), ("postrider/crc.kinds", laid_postrider_crc_kinds)], narrowed := true }
def QueueOnceUptoSaid : Prop := queueOnceUptoRow.holds Tryz.pinned (OpenSpec.upto queueOnceSpec)

/-- 'postriderlaw19.QueuePlays', WHERE WHAT IT READS IS OF BULK AT MOST 1048576: true; the input reads as it did. -/
def queuePlaysUptoRow : OpenClaim := { program := "ytmebjdbkngehiaagreatdoor", sum := "72e1d5a20d7c7404de6ad63fd44abb9c1443fc9d29e4f58847c40463d34e61f6", func := "postrider/postriderlaw19.QueuePlays", spec := "queuePlays", inPlace := ["internal/reflectlite.ValueOf", "(internal/reflectlite.Value).Type", "(internal/reflectlite.Value).IsNil", "internal/reflectlite.TypeOf", "(internal/reflectlite.Value).Elem", "(internal/reflectlite.Value).Set", "internal/abi.NoEscape"], unfollowed := true, recurses := true, named := ["errors.errorType", "postrider/nums.errShort", "postrider/nums.errWidth", "postrider/nums.errNum", "postrider/crc.errArg", "postrider/crc.errTable", "postrider/crc.kinds"], apart := false, laid := [("errors.errorType", laid_errors_errorType), ("postrider/nums.errWidth", laid_postrider_nums_errWidth), ("postrider/nums.errNum", laid_postrider_nums_errNum), ("postrider/nums.errShort", laid_postrider_nums_errShort), ("postrider/crc.errArg", laid_postrider_crc_errArg), ("postrider/crc.errTable", laid_postrider_crc_errTable), ("postrider/crc.kinds", laid_postrider_crc_kinds)], narrowed := true }
def QueuePlaysUptoSaid : Prop := queuePlaysUptoRow.holds Tryz.pinned (OpenSpec.upto queuePlaysSpec)

end Rows
end Go.Proofs.YtmebjdbkngehiaaGreatDoor
