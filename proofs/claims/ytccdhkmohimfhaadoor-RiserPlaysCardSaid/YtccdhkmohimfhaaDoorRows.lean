/-
  NARROWER THAN 'FOR EVERY INPUT', by the rows' own cells (each row's printed sentence says how): RiserMay: laid · RiserApart: laid · RiserTimes: laid · RiserPlays: laid · EpochOrder: laid · EpochSays: laid · EpochChain: laid.
  DERIVED. THE GIVEN ROWS OF THIS SEAT. 7 by the template 'for every input the law returns true; each argument reads behind the call as it read before'; 0 by the template 'total and deterministic' (their statements: YtccdhkmohimfhaaDoorTotals.lean).
  GIVEN WITH THE SEED: the statements are not yours to turn. If you find one false, say at which input.
  Laid BY PROGRAM, IN A SANDBOX (cutbox-rows.mjs): the forced cells as the released guide's own fill.sh prints them over the translation a12ae0587c8032f0… (all of the seat's roots in one cut). By AI agents, Wed Nov 11 2026. No macro, syntax, notation, axiom, sorry.
-/
import Derived.Test.YtccdhkmohimfhaaDoorChecked
import GoSem.Claim
import GoSem.ClaimJoined
import GoSem.ClaimMapViews
import Derived.JoinedTies
import Derived.KernelRfl
namespace Go.Proofs.YtccdhkmohimfhaaDoor
/- THE CELL 'sum', in the pinned program and in every row, IS THE sha256 OF THE DUMP (.gsa) THAT YtccdhkmohimfhaaDoorProg.lean LOADS. Nothing in Lean hashes anything: it is a label: what it is worth is what the hold of that sum in a sandbox is worth. -/
noncomputable def Tryd.pinned : Pinned := { name := "ytccdhkmohimfhaadoor", sum := "a12ae0587c8032f00b129dcba3f0deefefb61e44e014d15caeddd0d03cd6afa8", checked := Tryd.checked }
namespace Rows
def none {H : Type} : Left H := { results := [], args := [] }

/- WHAT THE LISTED PACKAGE-LEVEL VARIABLES READ AS WHEN THE CALL BEGINS. Each datum BY PROGRAM (the guide's laid-datum.mjs) off the statement by which the dump's own 'gosem.cut.vars' lays the variable. In a bare row this is a premise. The card (YtccdhkmohimfhaaDoorCards.lean) ties it to the program's text. -/
def laid_paternoster_api_ErrRange {H : Type} : DataW H := .iface "*errors.errorString" (.ptr (.agg [.lit (.string [97, 32, 110, 117, 109, 98, 101, 114, 32, 111, 117, 116, 32, 111, 102, 32, 105, 116, 115, 32, 114, 97, 110, 103, 101])]))
def laid_paternoster_api_ErrEnd {H : Type} : DataW H := .iface "*errors.errorString" (.ptr (.agg [.lit (.string [105, 116, 32, 101, 110, 100, 115, 32, 116, 111, 111, 32, 101, 97, 114, 108, 121])]))
def laid_paternoster_api_ErrShape {H : Type} : DataW H := .iface "*errors.errorString" (.ptr (.agg [.lit (.string [110, 111, 116, 32, 97, 115, 32, 105, 116, 32, 104, 97, 115, 32, 116, 111, 32, 98, 101])]))
def laid_paternoster_api_ErrMany {H : Type} : DataW H := .iface "*errors.errorString" (.ptr (.agg [.lit (.string [116, 111, 111, 32, 109, 97, 110, 121])]))
def laid_paternoster_api_ErrPower {H : Type} : DataW H := .iface "*errors.errorString" (.ptr (.agg [.lit (.string [116, 104, 101, 32, 112, 111, 119, 101, 114, 32, 105, 115, 32, 103, 111, 110, 101])]))
def laid_paternoster_api_ErrNone {H : Type} : DataW H := .iface "*errors.errorString" (.ptr (.agg [.lit (.string [116, 104, 101, 114, 101, 32, 105, 115, 32, 110, 111, 110, 101])]))
def laid_paternoster_api_ErrKind {H : Type} : DataW H := .iface "*errors.errorString" (.ptr (.agg [.lit (.string [110, 111, 116, 32, 111, 102, 32, 116, 104, 97, 116, 32, 107, 105, 110, 100])]))
def laid_paternoster_api_ErrOrder {H : Type} : DataW H := .iface "*errors.errorString" (.ptr (.agg [.lit (.string [110, 111, 116, 32, 105, 110, 32, 116, 104, 97, 116, 32, 111, 114, 100, 101, 114])]))
def laid_paternoster_api_ErrDoor {H : Type} : DataW H := .iface "*errors.errorString" (.ptr (.agg [.lit (.string [110, 111, 116, 32, 119, 105, 116, 104, 32, 116, 104, 101, 32, 100, 111, 111, 114, 32, 115, 111])]))
def laid_paternoster_api_ErrFloor {H : Type} : DataW H := .iface "*errors.errorString" (.ptr (.agg [.lit (.string [110, 111, 116, 32, 97, 116, 32, 116, 104, 97, 116, 32, 102, 108, 111, 111, 114])]))
def laid_paternoster_api_ErrTwice {H : Type} : DataW H := .iface "*errors.errorString" (.ptr (.agg [.lit (.string [116, 104, 101, 114, 101, 32, 105, 115, 32, 111, 110, 101])]))
def laid_paternoster_api_ErrWord {H : Type} : DataW H := .iface "*errors.errorString" (.ptr (.agg [.lit (.string [110, 111, 32, 115, 117, 99, 104, 32, 119, 111, 114, 100])]))
def laid_paternoster_api_ErrNumber {H : Type} : DataW H := .iface "*errors.errorString" (.ptr (.agg [.lit (.string [110, 111, 116, 32, 97, 32, 110, 117, 109, 98, 101, 114])]))
def laid_math_bits_deBruijn32tab {H : Type} : DataW H := .agg [.lit (.int .u8 0), .lit (.int .u8 1), .lit (.int .u8 28), .lit (.int .u8 2), .lit (.int .u8 29), .lit (.int .u8 14), .lit (.int .u8 24), .lit (.int .u8 3), .lit (.int .u8 30), .lit (.int .u8 22), .lit (.int .u8 20), .lit (.int .u8 15), .lit (.int .u8 25), .lit (.int .u8 17), .lit (.int .u8 4), .lit (.int .u8 8), .lit (.int .u8 31), .lit (.int .u8 27), .lit (.int .u8 13), .lit (.int .u8 23), .lit (.int .u8 21), .lit (.int .u8 19), .lit (.int .u8 16), .lit (.int .u8 7), .lit (.int .u8 26), .lit (.int .u8 12), .lit (.int .u8 18), .lit (.int .u8 6), .lit (.int .u8 11), .lit (.int .u8 5), .lit (.int .u8 10), .lit (.int .u8 9)]
def laid_math_bits_deBruijn64tab {H : Type} : DataW H := .agg [.lit (.int .u8 0), .lit (.int .u8 1), .lit (.int .u8 56), .lit (.int .u8 2), .lit (.int .u8 57), .lit (.int .u8 49), .lit (.int .u8 28), .lit (.int .u8 3), .lit (.int .u8 61), .lit (.int .u8 58), .lit (.int .u8 42), .lit (.int .u8 50), .lit (.int .u8 38), .lit (.int .u8 29), .lit (.int .u8 17), .lit (.int .u8 4), .lit (.int .u8 62), .lit (.int .u8 47), .lit (.int .u8 59), .lit (.int .u8 36), .lit (.int .u8 45), .lit (.int .u8 43), .lit (.int .u8 51), .lit (.int .u8 22), .lit (.int .u8 53), .lit (.int .u8 39), .lit (.int .u8 33), .lit (.int .u8 30), .lit (.int .u8 24), .lit (.int .u8 18), .lit (.int .u8 12), .lit (.int .u8 5), .lit (.int .u8 63), .lit (.int .u8 55), .lit (.int .u8 48), .lit (.int .u8 27), .lit (.int .u8 60), .lit (.int .u8 41), .lit (.int .u8 37), .lit (.int .u8 16), .lit (.int .u8 46), .lit (.int .u8 35), .lit (.int .u8 44), .lit (.int .u8 21), .lit (.int .u8 52), .lit (.int .u8 32), .lit (.int .u8 23), .lit (.int .u8 11), .lit (.int .u8 54), .lit (.int .u8 26), .lit (.int .u8 40), .lit (.int .u8 15), .lit (.int .u8 34), .lit (.int .u8 20), .lit (.int .u8 31), .lit (.int .u8 10), .lit (.int .u8 25), .lit (.int .u8 14), .lit (.int .u8 19), .lit (.int .u8 9), .lit (.int .u8 13), .lit (.int .u8 8), .lit (.int .u8 7), .lit (.int .u8 6)]
def laid_internal_strconv_uint64pow10 {H : Type} : DataW H := .agg [.lit (.int .u64 1), .lit (.int .u64 10), .lit (.int .u64 100), .lit (.int .u64 1000), .lit (.int .u64 10000), .lit (.int .u64 100000), .lit (.int .u64 1000000), .lit (.int .u64 10000000), .lit (.int .u64 100000000), .lit (.int .u64 1000000000), .lit (.int .u64 10000000000), .lit (.int .u64 100000000000), .lit (.int .u64 1000000000000), .lit (.int .u64 10000000000000), .lit (.int .u64 100000000000000), .lit (.int .u64 1000000000000000), .lit (.int .u64 10000000000000000), .lit (.int .u64 100000000000000000), .lit (.int .u64 1000000000000000000), .lit (.int .u64 10000000000000000000)]

/-- 'paternosterlaw10.RiserMay': WHATEVER THE INPUT: true; the input reads as it did. -/
def riserMaySpec : ChangeSpec := { name := "riserMay", fn := fun _ => fun
  | [d] => { results := [.lit (.bool true)], args := [d] }
  | _ => none }
def riserMayRow : OpenClaim := { program := "ytccdhkmohimfhaadoor", sum := "a12ae0587c8032f00b129dcba3f0deefefb61e44e014d15caeddd0d03cd6afa8", func := "paternoster/paternosterlaw10.RiserMay", spec := "riserMay", inPlace := ["maps.clone"], named := ["paternoster/api.ErrRange"], plainKeys := false, apart := false, laid := [("paternoster/api.ErrRange", laid_paternoster_api_ErrRange)] }
def RiserMaySaid : Prop := riserMayRow.holds Tryd.pinned (OpenSpec.ofChange riserMaySpec)

/-- ITS FALSE NEIGHBOUR: 'it returns false'. Refute it at one input. -/
def riserMayWrong : ChangeSpec := { name := "riserMay", fn := fun _ => fun
  | [d] => { results := [.lit (.bool false)], args := [d] }
  | _ => none }
def RiserMayWrongFalsely : Prop := riserMayRow.holds Tryd.pinned (OpenSpec.ofChange riserMayWrong)

/-- 'paternosterlaw10.RiserApart': WHATEVER THE INPUT: true; the input reads as it did. -/
def riserApartSpec : ChangeSpec := { name := "riserApart", fn := fun _ => fun
  | [d1, d2] => { results := [.lit (.bool true)], args := [d1, d2] }
  | _ => none }
def riserApartRow : OpenClaim := { program := "ytccdhkmohimfhaadoor", sum := "a12ae0587c8032f00b129dcba3f0deefefb61e44e014d15caeddd0d03cd6afa8", func := "paternoster/paternosterlaw10.RiserApart", spec := "riserApart", named := ["paternoster/api.ErrRange"], plainKeys := false, apart := false, laid := [("paternoster/api.ErrRange", laid_paternoster_api_ErrRange)] }
def RiserApartSaid : Prop := riserApartRow.holds Tryd.pinned (OpenSpec.ofChange riserApartSpec)

/-- ITS FALSE NEIGHBOUR: 'it returns false'. Refute it at one input. -/
def riserApartWrong : ChangeSpec := { name := "riserApart", fn := fun _ => fun
  | [d1, d2] => { results := [.lit (.bool false)], args := [d1, d2] }
  | _ => none }
def RiserApartWrongFalsely : Prop := riserApartRow.holds Tryd.pinned (OpenSpec.ofChange riserApartWrong)

/-- 'paternosterlaw10.RiserTimes': WHATEVER THE INPUT: true; the input reads as it did. -/
def riserTimesSpec : ChangeSpec := { name := "riserTimes", fn := fun _ => fun
  | [d1, d2, d3, d4] => { results := [.lit (.bool true)], args := [d1, d2, d3, d4] }
  | _ => none }
def riserTimesRow : OpenClaim := { program := "ytccdhkmohimfhaadoor", sum := "a12ae0587c8032f00b129dcba3f0deefefb61e44e014d15caeddd0d03cd6afa8", func := "paternoster/paternosterlaw10.RiserTimes", spec := "riserTimes", named := ["paternoster/api.ErrRange"], plainKeys := false, apart := false, laid := [("paternoster/api.ErrRange", laid_paternoster_api_ErrRange)] }
def RiserTimesSaid : Prop := riserTimesRow.holds Tryd.pinned (OpenSpec.ofChange riserTimesSpec)

/-- ITS FALSE NEIGHBOUR: 'it returns false'. Refute it at one input. -/
def riserTimesWrong : ChangeSpec := { name := "riserTimes", fn := fun _ => fun
  | [d1, d2, d3, d4] => { results := [.lit (.bool false)], args := [d1, d2, d3, d4] }
  | _ => none }
def RiserTimesWrongFalsely : Prop := riserTimesRow.holds Tryd.pinned (OpenSpec.ofChange riserTimesWrong)

/-- 'paternosterlaw10.RiserPlays': WHATEVER THE INPUT: true; the input reads as it did. -/
def riserPlaysSpec : ChangeSpec := { name := "riserPlays", fn := fun _ => fun
  | [d1, d2, d3] => { results := [.lit (.bool true)], args := [d1, d2, d3] }
  | _ => none }
def riserPlaysRow : OpenClaim := { program := "ytccdhkmohimfhaadoor", sum := "a12ae0587c8032f00b129dcba3f0deefefb61e44e014d15caeddd0d03cd6afa8", func := "paternoster/paternosterlaw10.RiserPlays", spec := "riserPlays", inPlace := ["maps.clone"], named := ["paternoster/api.ErrRange", "paternoster/api.ErrEnd", "paternoster/api.ErrShape", "paternoster/api.ErrMany", "paternoster/api.ErrPower", "paternoster/api.ErrNone", "paternoster/api.ErrKind", "paternoster/api.ErrOrder", "paternoster/api.ErrDoor", "paternoster/api.ErrFloor", "paternoster/api.ErrTwice", "paternoster/api.ErrWord", "paternoster/api.ErrNumber"], plainKeys := false, apart := false, laid := [("paternoster/api.ErrEnd", laid_paternoster_api_ErrEnd), ("paternoster/api.ErrShape", laid_paternoster_api_ErrShape), ("paternoster/api.ErrRange", laid_paternoster_api_ErrRange), ("paternoster/api.ErrMany", laid_paternoster_api_ErrMany), ("paternoster/api.ErrPower", laid_paternoster_api_ErrPower), ("paternoster/api.ErrNone", laid_paternoster_api_ErrNone), ("paternoster/api.ErrKind", laid_paternoster_api_ErrKind), ("paternoster/api.ErrOrder", laid_paternoster_api_ErrOrder), ("paternoster/api.ErrDoor", laid_paternoster_api_ErrDoor), ("paternoster/api.ErrFloor", laid_paternoster_api_ErrFloor), ("paternoster/api.ErrTwice", laid_paternoster_api_ErrTwice), ("paternoster/api.ErrWord", laid_paternoster_api_ErrWord), ("paternoster/api.ErrNumber", laid_paternoster_api_ErrNumber)] }
def RiserPlaysSaid : Prop := riserPlaysRow.holds Tryd.pinned (OpenSpec.ofChange riserPlaysSpec)

/-- ITS FALSE NEIGHBOUR: 'it returns false'. Refute it at one input. -/
def riserPlaysWrong : ChangeSpec := { name := "riserPlays", fn := fun _ => fun
  | [d1, d2, d3] => { results := [.lit (.bool false)], args := [d1, d2, d3] }
  | _ => none }
def RiserPlaysWrongFalsely : Prop := riserPlaysRow.holds Tryd.pinned (OpenSpec.ofChange riserPlaysWrong)

/-- 'paternosterlaw4.EpochOrder': WHATEVER THE INPUT: true; the input reads as it did. -/
def epochOrderSpec : ChangeSpec := { name := "epochOrder", fn := fun _ => fun
  | [d1, d2, d3, d4] => { results := [.lit (.bool true)], args := [d1, d2, d3, d4] }
  | _ => none }
def epochOrderRow : OpenClaim := { program := "ytccdhkmohimfhaadoor", sum := "a12ae0587c8032f00b129dcba3f0deefefb61e44e014d15caeddd0d03cd6afa8", func := "paternoster/paternosterlaw4.EpochOrder", spec := "epochOrder", named := ["internal/strconv.uint64pow10", "math/bits.deBruijn32tab", "math/bits.deBruijn64tab"], plainKeys := false, apart := false, laid := [("math/bits.deBruijn32tab", laid_math_bits_deBruijn32tab), ("math/bits.deBruijn64tab", laid_math_bits_deBruijn64tab), ("internal/strconv.uint64pow10", laid_internal_strconv_uint64pow10)] }
def EpochOrderSaid : Prop := epochOrderRow.holds Tryd.pinned (OpenSpec.ofChange epochOrderSpec)

/-- ITS FALSE NEIGHBOUR: 'it returns false'. Refute it at one input. -/
def epochOrderWrong : ChangeSpec := { name := "epochOrder", fn := fun _ => fun
  | [d1, d2, d3, d4] => { results := [.lit (.bool false)], args := [d1, d2, d3, d4] }
  | _ => none }
def EpochOrderWrongFalsely : Prop := epochOrderRow.holds Tryd.pinned (OpenSpec.ofChange epochOrderWrong)

/-- 'paternosterlaw4.EpochSays': WHATEVER THE INPUT: true; the input reads as it did. -/
def epochSaysSpec : ChangeSpec := { name := "epochSays", fn := fun _ => fun
  | [d1, d2, d3, d4] => { results := [.lit (.bool true)], args := [d1, d2, d3, d4] }
  | _ => none }
def epochSaysRow : OpenClaim := { program := "ytccdhkmohimfhaadoor", sum := "a12ae0587c8032f00b129dcba3f0deefefb61e44e014d15caeddd0d03cd6afa8", func := "paternoster/paternosterlaw4.EpochSays", spec := "epochSays", named := ["internal/strconv.uint64pow10", "math/bits.deBruijn32tab", "math/bits.deBruijn64tab"], plainKeys := false, apart := false, laid := [("math/bits.deBruijn32tab", laid_math_bits_deBruijn32tab), ("math/bits.deBruijn64tab", laid_math_bits_deBruijn64tab), ("internal/strconv.uint64pow10", laid_internal_strconv_uint64pow10)] }
def EpochSaysSaid : Prop := epochSaysRow.holds Tryd.pinned (OpenSpec.ofChange epochSaysSpec)

/-- ITS FALSE NEIGHBOUR: 'it returns false'. Refute it at one input. -/
def epochSaysWrong : ChangeSpec := { name := "epochSays", fn := fun _ => fun
  | [d1, d2, d3, d4] => { results := [.lit (.bool false)], args := [d1, d2, d3, d4] }
  | _ => none }
def EpochSaysWrongFalsely : Prop := epochSaysRow.holds Tryd.pinned (OpenSpec.ofChange epochSaysWrong)

/-- 'paternosterlaw4.EpochChain': WHATEVER THE INPUT: true; the input reads as it did. -/
def epochChainSpec : ChangeSpec := { name := "epochChain", fn := fun _ => fun
  | [d] => { results := [.lit (.bool true)], args := [d] }
  | _ => none }
def epochChainRow : OpenClaim := { program := "ytccdhkmohimfhaadoor", sum := "a12ae0587c8032f00b129dcba3f0deefefb61e44e014d15caeddd0d03cd6afa8", func := "paternoster/paternosterlaw4.EpochChain", spec := "epochChain", named := ["internal/strconv.uint64pow10", "math/bits.deBruijn32tab", "math/bits.deBruijn64tab"], plainKeys := false, apart := false, laid := [("math/bits.deBruijn32tab", laid_math_bits_deBruijn32tab), ("math/bits.deBruijn64tab", laid_math_bits_deBruijn64tab), ("internal/strconv.uint64pow10", laid_internal_strconv_uint64pow10)] }
def EpochChainSaid : Prop := epochChainRow.holds Tryd.pinned (OpenSpec.ofChange epochChainSpec)

/-- ITS FALSE NEIGHBOUR: 'it returns false'. Refute it at one input. -/
def epochChainWrong : ChangeSpec := { name := "epochChain", fn := fun _ => fun
  | [d] => { results := [.lit (.bool false)], args := [d] }
  | _ => none }
def EpochChainWrongFalsely : Prop := epochChainRow.holds Tryd.pinned (OpenSpec.ofChange epochChainWrong)

/- THE SECOND FORM. 'bulk': how many values and letters a reading holds, each counted each time it is reached (what is shared counts as often as it is met; a slice's spare places count too). A statement '..UptoSaid' is the law's where the arguments, and the package variables that the reading takes, are together of bulk at most 1048576: NARROWER than '..Said'. Prove '..Said' where nothing that the law and all that it calls make is longer than what came in: it says more and counts as full. Else prove '..UptoSaid'. A law counts once. -/
mutual
def uptoBulk {H : Type} : DataW H → Nat
  | .lit (.string bytes) => bytes.length + 1
  | .lit _ => 1
  | .nil => 1
  | .ptr d => uptoBulk d + 1
  | .slice elems spare => uptoBulkAll elems + uptoBulkAll spare + 1
  | .agg parts => uptoBulkAll parts + 1
  | .iface _ d => uptoBulk d + 1
  | .map entries => uptoBulkEntries entries + 1
  | .held _ => 1
def uptoBulkAll {H : Type} : List (DataW H) → Nat
  | [] => 0
  | d :: r => uptoBulk d + uptoBulkAll r
def uptoBulkEntries {H : Type} : List (Lit × DataW H) → Nat
  | [] => 0
  | x :: r => uptoBulkEntry x + uptoBulkEntries r
def uptoBulkEntry {H : Type} : Lit × DataW H → Nat
  | (.string bytes, d) => bytes.length + uptoBulk d + 1
  | (_, d) => uptoBulk d + 1
 end
def uptoSmall : (H : Type) → List (DataW H) → Bool := fun _ ds => decide (uptoBulkAll ds ≤ 1048576)
def OpenSpec.upto (s : _root_.Go.ChangeSpec) : _root_.Go.OpenSpec := { _root_.Go.OpenSpec.ofChange s with cond := some uptoSmall }

/-- 'paternosterlaw10.RiserMay', WHERE WHAT IT READS IS OF BULK AT MOST 1048576: true; the input reads as it did. -/
def riserMayUptoRow : OpenClaim := { program := "ytccdhkmohimfhaadoor", sum := "a12ae0587c8032f00b129dcba3f0deefefb61e44e014d15caeddd0d03cd6afa8", func := "paternoster/paternosterlaw10.RiserMay", spec := "riserMay", inPlace := ["maps.clone"], named := ["paternoster/api.ErrRange"], plainKeys := false, apart := false, laid := [("paternoster/api.ErrRange", laid_paternoster_api_ErrRange)], narrowed := true }
def RiserMayUptoSaid : Prop := riserMayUptoRow.holds Tryd.pinned (OpenSpec.upto riserMaySpec)

/-- 'paternosterlaw10.RiserApart', WHERE WHAT IT READS IS OF BULK AT MOST 1048576: true; the input reads as it did. -/
def riserApartUptoRow : OpenClaim := { program := "ytccdhkmohimfhaadoor", sum := "a12ae0587c8032f00b129dcba3f0deefefb61e44e014d15caeddd0d03cd6afa8", func := "paternoster/paternosterlaw10.RiserApart", spec := "riserApart", named := ["paternoster/api.ErrRange"], plainKeys := false, apart := false, laid := [("paternoster/api.ErrRange", laid_paternoster_api_ErrRange)], narrowed := true }
def RiserApartUptoSaid : Prop := riserApartUptoRow.holds Tryd.pinned (OpenSpec.upto riserApartSpec)

/-- 'paternosterlaw10.RiserTimes', WHERE WHAT IT READS IS OF BULK AT MOST 1048576: true; the input reads as it did. -/
def riserTimesUptoRow : OpenClaim := { program := "ytccdhkmohimfhaadoor", sum := "a12ae0587c8032f00b129dcba3f0deefefb61e44e014d15caeddd0d03cd6afa8", func := "paternoster/paternosterlaw10.RiserTimes", spec := "riserTimes", named := ["paternoster/api.ErrRange"], plainKeys := false, apart := false, laid := [("paternoster/api.ErrRange", laid_paternoster_api_ErrRange)], narrowed := true }
def RiserTimesUptoSaid : Prop := riserTimesUptoRow.holds Tryd.pinned (OpenSpec.upto riserTimesSpec)

/-- 'paternosterlaw10.RiserPlays', WHERE WHAT IT READS IS OF BULK AT MOST 1048576: true; the input reads as it did. -/
def riserPlaysUptoRow : OpenClaim := { program := "ytccdhkmohimfhaadoor", sum := "a12ae0587c8032f00b129dcba3f0deefefb61e44e014d15caeddd0d03cd6afa8", func := "paternoster/paternosterlaw10.RiserPlays", spec := "riserPlays", inPlace := ["maps.clone"], named := ["paternoster/api.ErrRange", "paternoster/api.ErrEnd", "paternoster/api.ErrShape", "paternoster/api.ErrMany", "paternoster/api.ErrPower", "paternoster/api.ErrNone", "paternoster/api.ErrKind", "paternoster/api.ErrOrder", "paternoster/api.ErrDoor", "paternoster/api.ErrFloor", "paternoster/api.ErrTwice", "paternoster/api.ErrWord", "paternoster/api.ErrNumber"], plainKeys := false, apart := false, laid := [("paternoster/api.ErrEnd", laid_paternoster_api_ErrEnd), ("paternoster/api.ErrShape", laid_paternoster_api_ErrShape), ("paternoster/api.ErrRange", laid_paternoster_api_ErrRange), ("paternoster/api.ErrMany", laid_paternoster_api_ErrMany), ("paternoster/api.ErrPower", laid_paternoster_api_ErrPower), ("paternoster/api.ErrNone", laid_paternoster_api_ErrNone), ("paternoster/api.ErrKind", laid_paternoster_api_ErrKind), ("paternoster/api.ErrOrder", laid_paternoster_api_ErrOrder), ("paternoster/api.ErrDoor", laid_paternoster_api_ErrDoor), ("paternoster/api.ErrFloor", laid_paternoster_api_ErrFloor), ("paternoster/api.ErrTwice", laid_paternoster_api_ErrTwice), ("paternoster/api.ErrWord", laid_paternoster_api_ErrWord), ("paternoster/api.ErrNumber", laid_paternoster_api_ErrNumber)], narrowed := true }
def RiserPlaysUptoSaid : Prop := riserPlaysUptoRow.holds Tryd.pinned (OpenSpec.upto riserPlaysSpec)

/-- 'paternosterlaw4.EpochOrder', WHERE WHAT IT READS IS OF BULK AT MOST 1048576: true; the input reads as it did. -/
def epochOrderUptoRow : OpenClaim := { program := "ytccdhkmohimfhaadoor", sum := "a12ae0587c8032f00b129dcba3f0deefefb61e44e014d15caeddd0d03cd6afa8", func := "paternoster/paternosterlaw4.EpochOrder", spec := "epochOrder", named := ["internal/strconv.uint64pow10", "math/bits.deBruijn32tab", "math/bits.deBruijn64tab"], plainKeys := false, apart := false, laid := [("math/bits.deBruijn32tab", laid_math_bits_deBruijn32tab), ("math/bits.deBruijn64tab", laid_math_bits_deBruijn64tab), ("internal/strconv.uint64pow10", laid_internal_strconv_uint64pow10)], narrowed := true }
def EpochOrderUptoSaid : Prop := epochOrderUptoRow.holds Tryd.pinned (OpenSpec.upto epochOrderSpec)

/-- 'paternosterlaw4.EpochSays', WHERE WHAT IT READS IS OF BULK AT MOST 1048576: true; the input reads as it did. -/
def epochSaysUptoRow : OpenClaim := { program := "ytccdhkmohimfhaadoor", sum := "a12ae0587c8032f00b129dcba3f0deefefb61e44e014d15caeddd0d03cd6afa8", func := "paternoster/paternosterlaw4.EpochSays", spec := "epochSays", named := ["internal/strconv.uint64pow10", "math/bits.deBruijn32tab", "math/bits.deBruijn64tab"], plainKeys := false, apart := false, laid := [("math/bits.deBruijn32tab", laid_math_bits_deBruijn32tab), ("math/bits.deBruijn64tab", laid_math_bits_deBruijn64tab), ("internal/strconv.uint64pow10", laid_internal_strconv_uint64pow10)], narrowed := true }
def EpochSaysUptoSaid : Prop := epochSaysUptoRow.holds Tryd.pinned (OpenSpec.upto epochSaysSpec)

/-- 'paternosterlaw4.EpochChain', WHERE WHAT IT READS IS OF BULK AT MOST 1048576: true; the input reads as it did. -/
def epochChainUptoRow : OpenClaim := { program := "ytccdhkmohimfhaadoor", sum := "a12ae0587c8032f00b129dcba3f0deefefb61e44e014d15caeddd0d03cd6afa8", func := "paternoster/paternosterlaw4.EpochChain", spec := "epochChain", named := ["internal/strconv.uint64pow10", "math/bits.deBruijn32tab", "math/bits.deBruijn64tab"], plainKeys := false, apart := false, laid := [("math/bits.deBruijn32tab", laid_math_bits_deBruijn32tab), ("math/bits.deBruijn64tab", laid_math_bits_deBruijn64tab), ("internal/strconv.uint64pow10", laid_internal_strconv_uint64pow10)], narrowed := true }
def EpochChainUptoSaid : Prop := epochChainUptoRow.holds Tryd.pinned (OpenSpec.upto epochChainSpec)

end Rows
end Go.Proofs.YtccdhkmohimfhaaDoor
