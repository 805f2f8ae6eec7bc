/-
  NARROWER THAN 'FOR EVERY INPUT', by the rows' own cells (each row's printed sentence says how): CarOut: laid · CarPlays: laid · CarServes: laid · CarLevels: laid · CarStays: laid · CarHolds: laid · CarPasses: laid · CarStops: laid · EtaOpen: laid · EtaLevels: laid · EtaNear: laid · EtaBound: laid · EtaTicks: laid · EtaSays: laid · EtaRuns: laid.
  DERIVED. THE GIVEN ROWS OF THIS SEAT. 15 by the template 'for every input the law returns true; each argument reads behind the call as it read before'; 0 by the template 'total and deterministic' (their statements: YtchjajnhbipkmaaDoorTotals.lean).
  GIVEN WITH THE SEED: the statements are not yours to turn. If you find one false, say at which input.
  Laid BY PROGRAM, IN A SANDBOX (cutbox-rows.mjs): the forced cells as the released guide's own fill.sh prints them over the translation c8e0a0f807d28abf… (all of the seat's roots in one cut). By AI agents, Wed Nov 11 2026. No macro, syntax, notation, axiom, sorry.
-/
import Derived.Test.YtchjajnhbipkmaaDoorChecked
import GoSem.Claim
import GoSem.ClaimJoined
import GoSem.ClaimMapViews
import Derived.JoinedTies
import Derived.KernelRfl
namespace Go.Proofs.YtchjajnhbipkmaaDoor
/- THE CELL 'sum', in the pinned program and in every row, IS THE sha256 OF THE DUMP (.gsa) THAT YtchjajnhbipkmaaDoorProg.lean LOADS. Nothing in Lean hashes anything: it is a label: what it is worth is what the hold of that sum in a sandbox is worth. -/
noncomputable def Tryd.pinned : Pinned := { name := "ytchjajnhbipkmaadoor", sum := "c8e0a0f807d28abf2f8f751bd357596636ac7229cafeafe248ba6f27d7dd975c", checked := Tryd.checked }
namespace Rows
def none {H : Type} : Left H := { results := [], args := [] }

/- WHAT THE LISTED PACKAGE-LEVEL VARIABLES READ AS WHEN THE CALL BEGINS. Each datum BY PROGRAM (the guide's laid-datum.mjs) off the statement by which the dump's own 'gosem.cut.vars' lays the variable. In a bare row this is a premise. The card (YtchjajnhbipkmaaDoorCards.lean) ties it to the program's text. -/
def laid_math_bits_deBruijn64tab {H : Type} : DataW H := .agg [.lit (.int .u8 0), .lit (.int .u8 1), .lit (.int .u8 56), .lit (.int .u8 2), .lit (.int .u8 57), .lit (.int .u8 49), .lit (.int .u8 28), .lit (.int .u8 3), .lit (.int .u8 61), .lit (.int .u8 58), .lit (.int .u8 42), .lit (.int .u8 50), .lit (.int .u8 38), .lit (.int .u8 29), .lit (.int .u8 17), .lit (.int .u8 4), .lit (.int .u8 62), .lit (.int .u8 47), .lit (.int .u8 59), .lit (.int .u8 36), .lit (.int .u8 45), .lit (.int .u8 43), .lit (.int .u8 51), .lit (.int .u8 22), .lit (.int .u8 53), .lit (.int .u8 39), .lit (.int .u8 33), .lit (.int .u8 30), .lit (.int .u8 24), .lit (.int .u8 18), .lit (.int .u8 12), .lit (.int .u8 5), .lit (.int .u8 63), .lit (.int .u8 55), .lit (.int .u8 48), .lit (.int .u8 27), .lit (.int .u8 60), .lit (.int .u8 41), .lit (.int .u8 37), .lit (.int .u8 16), .lit (.int .u8 46), .lit (.int .u8 35), .lit (.int .u8 44), .lit (.int .u8 21), .lit (.int .u8 52), .lit (.int .u8 32), .lit (.int .u8 23), .lit (.int .u8 11), .lit (.int .u8 54), .lit (.int .u8 26), .lit (.int .u8 40), .lit (.int .u8 15), .lit (.int .u8 34), .lit (.int .u8 20), .lit (.int .u8 31), .lit (.int .u8 10), .lit (.int .u8 25), .lit (.int .u8 14), .lit (.int .u8 19), .lit (.int .u8 9), .lit (.int .u8 13), .lit (.int .u8 8), .lit (.int .u8 7), .lit (.int .u8 6)]

/-- 'paternosterlaw16.CarOut': WHATEVER THE INPUT: true; the input reads as it did. -/
def carOutSpec : ChangeSpec := { name := "carOut", fn := fun _ => fun
  | [d1, d2, d3, d4, d5] => { results := [.lit (.bool true)], args := [d1, d2, d3, d4, d5] }
  | _ => none }
def carOutRow : OpenClaim := { program := "ytchjajnhbipkmaadoor", sum := "c8e0a0f807d28abf2f8f751bd357596636ac7229cafeafe248ba6f27d7dd975c", func := "paternoster/paternosterlaw16.CarOut", spec := "carOut", named := ["math/bits.deBruijn64tab"], apart := false, laid := [("math/bits.deBruijn64tab", laid_math_bits_deBruijn64tab)] }
def CarOutSaid : Prop := carOutRow.holds Tryd.pinned (OpenSpec.ofChange carOutSpec)

/-- ITS FALSE NEIGHBOUR: 'it returns false'. Refute it at one input. -/
def carOutWrong : ChangeSpec := { name := "carOut", fn := fun _ => fun
  | [d1, d2, d3, d4, d5] => { results := [.lit (.bool false)], args := [d1, d2, d3, d4, d5] }
  | _ => none }
def CarOutWrongFalsely : Prop := carOutRow.holds Tryd.pinned (OpenSpec.ofChange carOutWrong)

/-- 'paternosterlaw16.CarPlays': WHATEVER THE INPUT: true; the input reads as it did. -/
def carPlaysSpec : ChangeSpec := { name := "carPlays", fn := fun _ => fun
  | [d1, d2, d3, d4] => { results := [.lit (.bool true)], args := [d1, d2, d3, d4] }
  | _ => none }
def carPlaysRow : OpenClaim := { program := "ytchjajnhbipkmaadoor", sum := "c8e0a0f807d28abf2f8f751bd357596636ac7229cafeafe248ba6f27d7dd975c", func := "paternoster/paternosterlaw16.CarPlays", spec := "carPlays", named := ["math/bits.deBruijn64tab"], apart := false, laid := [("math/bits.deBruijn64tab", laid_math_bits_deBruijn64tab)] }
def CarPlaysSaid : Prop := carPlaysRow.holds Tryd.pinned (OpenSpec.ofChange carPlaysSpec)

/-- ITS FALSE NEIGHBOUR: 'it returns false'. Refute it at one input. -/
def carPlaysWrong : ChangeSpec := { name := "carPlays", fn := fun _ => fun
  | [d1, d2, d3, d4] => { results := [.lit (.bool false)], args := [d1, d2, d3, d4] }
  | _ => none }
def CarPlaysWrongFalsely : Prop := carPlaysRow.holds Tryd.pinned (OpenSpec.ofChange carPlaysWrong)

/-- 'paternosterlaw16.CarServes': WHATEVER THE INPUT: true; the input reads as it did. -/
def carServesSpec : ChangeSpec := { name := "carServes", fn := fun _ => fun
  | [d1, d2, d3] => { results := [.lit (.bool true)], args := [d1, d2, d3] }
  | _ => none }
def carServesRow : OpenClaim := { program := "ytchjajnhbipkmaadoor", sum := "c8e0a0f807d28abf2f8f751bd357596636ac7229cafeafe248ba6f27d7dd975c", func := "paternoster/paternosterlaw16.CarServes", spec := "carServes", named := ["math/bits.deBruijn64tab"], apart := false, laid := [("math/bits.deBruijn64tab", laid_math_bits_deBruijn64tab)] }
def CarServesSaid : Prop := carServesRow.holds Tryd.pinned (OpenSpec.ofChange carServesSpec)

/-- ITS FALSE NEIGHBOUR: 'it returns false'. Refute it at one input. -/
def carServesWrong : ChangeSpec := { name := "carServes", fn := fun _ => fun
  | [d1, d2, d3] => { results := [.lit (.bool false)], args := [d1, d2, d3] }
  | _ => none }
def CarServesWrongFalsely : Prop := carServesRow.holds Tryd.pinned (OpenSpec.ofChange carServesWrong)

/-- 'paternosterlaw16.CarLevels': WHATEVER THE INPUT: true; the input reads as it did. -/
def carLevelsSpec : ChangeSpec := { name := "carLevels", fn := fun _ => fun
  | [d1, d2, d3] => { results := [.lit (.bool true)], args := [d1, d2, d3] }
  | _ => none }
def carLevelsRow : OpenClaim := { program := "ytchjajnhbipkmaadoor", sum := "c8e0a0f807d28abf2f8f751bd357596636ac7229cafeafe248ba6f27d7dd975c", func := "paternoster/paternosterlaw16.CarLevels", spec := "carLevels", named := ["math/bits.deBruijn64tab"], apart := false, laid := [("math/bits.deBruijn64tab", laid_math_bits_deBruijn64tab)] }
def CarLevelsSaid : Prop := carLevelsRow.holds Tryd.pinned (OpenSpec.ofChange carLevelsSpec)

/-- ITS FALSE NEIGHBOUR: 'it returns false'. Refute it at one input. -/
def carLevelsWrong : ChangeSpec := { name := "carLevels", fn := fun _ => fun
  | [d1, d2, d3] => { results := [.lit (.bool false)], args := [d1, d2, d3] }
  | _ => none }
def CarLevelsWrongFalsely : Prop := carLevelsRow.holds Tryd.pinned (OpenSpec.ofChange carLevelsWrong)

/-- 'paternosterlaw16.CarStays': WHATEVER THE INPUT: true; the input reads as it did. -/
def carStaysSpec : ChangeSpec := { name := "carStays", fn := fun _ => fun
  | [d1, d2, d3, d4] => { results := [.lit (.bool true)], args := [d1, d2, d3, d4] }
  | _ => none }
def carStaysRow : OpenClaim := { program := "ytchjajnhbipkmaadoor", sum := "c8e0a0f807d28abf2f8f751bd357596636ac7229cafeafe248ba6f27d7dd975c", func := "paternoster/paternosterlaw16.CarStays", spec := "carStays", named := ["math/bits.deBruijn64tab"], apart := false, laid := [("math/bits.deBruijn64tab", laid_math_bits_deBruijn64tab)] }
def CarStaysSaid : Prop := carStaysRow.holds Tryd.pinned (OpenSpec.ofChange carStaysSpec)

/-- ITS FALSE NEIGHBOUR: 'it returns false'. Refute it at one input. -/
def carStaysWrong : ChangeSpec := { name := "carStays", fn := fun _ => fun
  | [d1, d2, d3, d4] => { results := [.lit (.bool false)], args := [d1, d2, d3, d4] }
  | _ => none }
def CarStaysWrongFalsely : Prop := carStaysRow.holds Tryd.pinned (OpenSpec.ofChange carStaysWrong)

/-- 'paternosterlaw16.CarHolds': WHATEVER THE INPUT: true; the input reads as it did. -/
def carHoldsSpec : ChangeSpec := { name := "carHolds", fn := fun _ => fun
  | [d1, d2, d3, d4] => { results := [.lit (.bool true)], args := [d1, d2, d3, d4] }
  | _ => none }
def carHoldsRow : OpenClaim := { program := "ytchjajnhbipkmaadoor", sum := "c8e0a0f807d28abf2f8f751bd357596636ac7229cafeafe248ba6f27d7dd975c", func := "paternoster/paternosterlaw16.CarHolds", spec := "carHolds", named := ["math/bits.deBruijn64tab"], apart := false, laid := [("math/bits.deBruijn64tab", laid_math_bits_deBruijn64tab)] }
def CarHoldsSaid : Prop := carHoldsRow.holds Tryd.pinned (OpenSpec.ofChange carHoldsSpec)

/-- ITS FALSE NEIGHBOUR: 'it returns false'. Refute it at one input. -/
def carHoldsWrong : ChangeSpec := { name := "carHolds", fn := fun _ => fun
  | [d1, d2, d3, d4] => { results := [.lit (.bool false)], args := [d1, d2, d3, d4] }
  | _ => none }
def CarHoldsWrongFalsely : Prop := carHoldsRow.holds Tryd.pinned (OpenSpec.ofChange carHoldsWrong)

/-- 'paternosterlaw16.CarPasses': WHATEVER THE INPUT: true; the input reads as it did. -/
def carPassesSpec : ChangeSpec := { name := "carPasses", fn := fun _ => fun
  | [d1, d2, d3] => { results := [.lit (.bool true)], args := [d1, d2, d3] }
  | _ => none }
def carPassesRow : OpenClaim := { program := "ytchjajnhbipkmaadoor", sum := "c8e0a0f807d28abf2f8f751bd357596636ac7229cafeafe248ba6f27d7dd975c", func := "paternoster/paternosterlaw16.CarPasses", spec := "carPasses", named := ["math/bits.deBruijn64tab"], apart := false, laid := [("math/bits.deBruijn64tab", laid_math_bits_deBruijn64tab)] }
def CarPassesSaid : Prop := carPassesRow.holds Tryd.pinned (OpenSpec.ofChange carPassesSpec)

/-- ITS FALSE NEIGHBOUR: 'it returns false'. Refute it at one input. -/
def carPassesWrong : ChangeSpec := { name := "carPasses", fn := fun _ => fun
  | [d1, d2, d3] => { results := [.lit (.bool false)], args := [d1, d2, d3] }
  | _ => none }
def CarPassesWrongFalsely : Prop := carPassesRow.holds Tryd.pinned (OpenSpec.ofChange carPassesWrong)

/-- 'paternosterlaw16.CarStops': WHATEVER THE INPUT: true; the input reads as it did. -/
def carStopsSpec : ChangeSpec := { name := "carStops", fn := fun _ => fun
  | [d1, d2, d3] => { results := [.lit (.bool true)], args := [d1, d2, d3] }
  | _ => none }
def carStopsRow : OpenClaim := { program := "ytchjajnhbipkmaadoor", sum := "c8e0a0f807d28abf2f8f751bd357596636ac7229cafeafe248ba6f27d7dd975c", func := "paternoster/paternosterlaw16.CarStops", spec := "carStops", named := ["math/bits.deBruijn64tab"], apart := false, laid := [("math/bits.deBruijn64tab", laid_math_bits_deBruijn64tab)] }
def CarStopsSaid : Prop := carStopsRow.holds Tryd.pinned (OpenSpec.ofChange carStopsSpec)

/-- ITS FALSE NEIGHBOUR: 'it returns false'. Refute it at one input. -/
def carStopsWrong : ChangeSpec := { name := "carStops", fn := fun _ => fun
  | [d1, d2, d3] => { results := [.lit (.bool false)], args := [d1, d2, d3] }
  | _ => none }
def CarStopsWrongFalsely : Prop := carStopsRow.holds Tryd.pinned (OpenSpec.ofChange carStopsWrong)

/-- 'paternosterlaw17.EtaOpen': WHATEVER THE INPUT: true; the input reads as it did. -/
def etaOpenSpec : ChangeSpec := { name := "etaOpen", fn := fun _ => fun
  | [d1, d2, d3, d4] => { results := [.lit (.bool true)], args := [d1, d2, d3, d4] }
  | _ => none }
def etaOpenRow : OpenClaim := { program := "ytchjajnhbipkmaadoor", sum := "c8e0a0f807d28abf2f8f751bd357596636ac7229cafeafe248ba6f27d7dd975c", func := "paternoster/paternosterlaw17.EtaOpen", spec := "etaOpen", named := ["math/bits.deBruijn64tab"], apart := false, laid := [("math/bits.deBruijn64tab", laid_math_bits_deBruijn64tab)] }
def EtaOpenSaid : Prop := etaOpenRow.holds Tryd.pinned (OpenSpec.ofChange etaOpenSpec)

/-- ITS FALSE NEIGHBOUR: 'it returns false'. Refute it at one input. -/
def etaOpenWrong : ChangeSpec := { name := "etaOpen", fn := fun _ => fun
  | [d1, d2, d3, d4] => { results := [.lit (.bool false)], args := [d1, d2, d3, d4] }
  | _ => none }
def EtaOpenWrongFalsely : Prop := etaOpenRow.holds Tryd.pinned (OpenSpec.ofChange etaOpenWrong)

/-- 'paternosterlaw17.EtaLevels': WHATEVER THE INPUT: true; the input reads as it did. -/
def etaLevelsSpec : ChangeSpec := { name := "etaLevels", fn := fun _ => fun
  | [d1, d2, d3, d4] => { results := [.lit (.bool true)], args := [d1, d2, d3, d4] }
  | _ => none }
def etaLevelsRow : OpenClaim := { program := "ytchjajnhbipkmaadoor", sum := "c8e0a0f807d28abf2f8f751bd357596636ac7229cafeafe248ba6f27d7dd975c", func := "paternoster/paternosterlaw17.EtaLevels", spec := "etaLevels", named := ["math/bits.deBruijn64tab"], apart := false, laid := [("math/bits.deBruijn64tab", laid_math_bits_deBruijn64tab)] }
def EtaLevelsSaid : Prop := etaLevelsRow.holds Tryd.pinned (OpenSpec.ofChange etaLevelsSpec)

/-- ITS FALSE NEIGHBOUR: 'it returns false'. Refute it at one input. -/
def etaLevelsWrong : ChangeSpec := { name := "etaLevels", fn := fun _ => fun
  | [d1, d2, d3, d4] => { results := [.lit (.bool false)], args := [d1, d2, d3, d4] }
  | _ => none }
def EtaLevelsWrongFalsely : Prop := etaLevelsRow.holds Tryd.pinned (OpenSpec.ofChange etaLevelsWrong)

/-- 'paternosterlaw17.EtaNear': WHATEVER THE INPUT: true; the input reads as it did. -/
def etaNearSpec : ChangeSpec := { name := "etaNear", fn := fun _ => fun
  | [d1, d2, d3, d4] => { results := [.lit (.bool true)], args := [d1, d2, d3, d4] }
  | _ => none }
def etaNearRow : OpenClaim := { program := "ytchjajnhbipkmaadoor", sum := "c8e0a0f807d28abf2f8f751bd357596636ac7229cafeafe248ba6f27d7dd975c", func := "paternoster/paternosterlaw17.EtaNear", spec := "etaNear", named := ["math/bits.deBruijn64tab"], apart := false, laid := [("math/bits.deBruijn64tab", laid_math_bits_deBruijn64tab)] }
def EtaNearSaid : Prop := etaNearRow.holds Tryd.pinned (OpenSpec.ofChange etaNearSpec)

/-- ITS FALSE NEIGHBOUR: 'it returns false'. Refute it at one input. -/
def etaNearWrong : ChangeSpec := { name := "etaNear", fn := fun _ => fun
  | [d1, d2, d3, d4] => { results := [.lit (.bool false)], args := [d1, d2, d3, d4] }
  | _ => none }
def EtaNearWrongFalsely : Prop := etaNearRow.holds Tryd.pinned (OpenSpec.ofChange etaNearWrong)

/-- 'paternosterlaw17.EtaBound': WHATEVER THE INPUT: true; the input reads as it did. -/
def etaBoundSpec : ChangeSpec := { name := "etaBound", fn := fun _ => fun
  | [d1, d2, d3, d4] => { results := [.lit (.bool true)], args := [d1, d2, d3, d4] }
  | _ => none }
def etaBoundRow : OpenClaim := { program := "ytchjajnhbipkmaadoor", sum := "c8e0a0f807d28abf2f8f751bd357596636ac7229cafeafe248ba6f27d7dd975c", func := "paternoster/paternosterlaw17.EtaBound", spec := "etaBound", named := ["math/bits.deBruijn64tab"], apart := false, laid := [("math/bits.deBruijn64tab", laid_math_bits_deBruijn64tab)] }
def EtaBoundSaid : Prop := etaBoundRow.holds Tryd.pinned (OpenSpec.ofChange etaBoundSpec)

/-- ITS FALSE NEIGHBOUR: 'it returns false'. Refute it at one input. -/
def etaBoundWrong : ChangeSpec := { name := "etaBound", fn := fun _ => fun
  | [d1, d2, d3, d4] => { results := [.lit (.bool false)], args := [d1, d2, d3, d4] }
  | _ => none }
def EtaBoundWrongFalsely : Prop := etaBoundRow.holds Tryd.pinned (OpenSpec.ofChange etaBoundWrong)

/-- 'paternosterlaw17.EtaTicks': WHATEVER THE INPUT: true; the input reads as it did. -/
def etaTicksSpec : ChangeSpec := { name := "etaTicks", fn := fun _ => fun
  | [d1, d2, d3, d4] => { results := [.lit (.bool true)], args := [d1, d2, d3, d4] }
  | _ => none }
def etaTicksRow : OpenClaim := { program := "ytchjajnhbipkmaadoor", sum := "c8e0a0f807d28abf2f8f751bd357596636ac7229cafeafe248ba6f27d7dd975c", func := "paternoster/paternosterlaw17.EtaTicks", spec := "etaTicks", named := ["math/bits.deBruijn64tab"], apart := false, laid := [("math/bits.deBruijn64tab", laid_math_bits_deBruijn64tab)] }
def EtaTicksSaid : Prop := etaTicksRow.holds Tryd.pinned (OpenSpec.ofChange etaTicksSpec)

/-- ITS FALSE NEIGHBOUR: 'it returns false'. Refute it at one input. -/
def etaTicksWrong : ChangeSpec := { name := "etaTicks", fn := fun _ => fun
  | [d1, d2, d3, d4] => { results := [.lit (.bool false)], args := [d1, d2, d3, d4] }
  | _ => none }
def EtaTicksWrongFalsely : Prop := etaTicksRow.holds Tryd.pinned (OpenSpec.ofChange etaTicksWrong)

/-- 'paternosterlaw17.EtaSays': WHATEVER THE INPUT: true; the input reads as it did. -/
def etaSaysSpec : ChangeSpec := { name := "etaSays", fn := fun _ => fun
  | [d1, d2, d3, d4] => { results := [.lit (.bool true)], args := [d1, d2, d3, d4] }
  | _ => none }
def etaSaysRow : OpenClaim := { program := "ytchjajnhbipkmaadoor", sum := "c8e0a0f807d28abf2f8f751bd357596636ac7229cafeafe248ba6f27d7dd975c", func := "paternoster/paternosterlaw17.EtaSays", spec := "etaSays", inPlace := ["sync/atomic.LoadInt64", "sync/atomic.AddInt64", "sync/atomic.LoadUint32", "(*internal/sync.Mutex).Lock", "internal/race.Disable", "sync/atomic.CompareAndSwapInt32", "internal/race.Enable", "internal/race.Acquire", "(*internal/sync.Mutex).lockSlow", "internal/sync.runtime_canSpin", "internal/sync.runtime_doSpin", "internal/sync.throw", "internal/sync.runtime_nanotime", "internal/sync.runtime_SemacquireMutex", "sync/atomic.AddInt32", "(*internal/sync.Mutex).Unlock", "internal/race.ReleaseMerge", "(*internal/sync.Mutex).unlockSlow", "internal/sync.fatal", "internal/sync.runtime_Semrelease", "sync/atomic.StoreUint32"], unfollowed := true, recurses := true, named := ["math/bits.deBruijn64tab"], apart := false, laid := [("math/bits.deBruijn64tab", laid_math_bits_deBruijn64tab)] }
def EtaSaysSaid : Prop := etaSaysRow.holds Tryd.pinned (OpenSpec.ofChange etaSaysSpec)

/-- ITS FALSE NEIGHBOUR: 'it returns false'. Refute it at one input. -/
def etaSaysWrong : ChangeSpec := { name := "etaSays", fn := fun _ => fun
  | [d1, d2, d3, d4] => { results := [.lit (.bool false)], args := [d1, d2, d3, d4] }
  | _ => none }
def EtaSaysWrongFalsely : Prop := etaSaysRow.holds Tryd.pinned (OpenSpec.ofChange etaSaysWrong)

/-- 'paternosterlaw17.EtaRuns': WHATEVER THE INPUT: true; the input reads as it did. -/
def etaRunsSpec : ChangeSpec := { name := "etaRuns", fn := fun _ => fun
  | [d1, d2, d3, d4, d5, d6] => { results := [.lit (.bool true)], args := [d1, d2, d3, d4, d5, d6] }
  | _ => none }
def etaRunsRow : OpenClaim := { program := "ytchjajnhbipkmaadoor", sum := "c8e0a0f807d28abf2f8f751bd357596636ac7229cafeafe248ba6f27d7dd975c", func := "paternoster/paternosterlaw17.EtaRuns", spec := "etaRuns", inPlace := ["sync/atomic.AddInt64", "sync/atomic.LoadUint32", "(*internal/sync.Mutex).Lock", "internal/race.Disable", "sync/atomic.CompareAndSwapInt32", "internal/race.Enable", "internal/race.Acquire", "(*internal/sync.Mutex).lockSlow", "internal/sync.runtime_canSpin", "internal/sync.runtime_doSpin", "internal/sync.throw", "internal/sync.runtime_nanotime", "internal/sync.runtime_SemacquireMutex", "sync/atomic.AddInt32", "(*internal/sync.Mutex).Unlock", "internal/race.ReleaseMerge", "(*internal/sync.Mutex).unlockSlow", "internal/sync.fatal", "internal/sync.runtime_Semrelease", "sync/atomic.StoreUint32", "sync/atomic.LoadInt64"], unfollowed := true, recurses := true, named := ["math/bits.deBruijn64tab"], apart := false, laid := [("math/bits.deBruijn64tab", laid_math_bits_deBruijn64tab)] }
def EtaRunsSaid : Prop := etaRunsRow.holds Tryd.pinned (OpenSpec.ofChange etaRunsSpec)

/-- ITS FALSE NEIGHBOUR: 'it returns false'. Refute it at one input. -/
def etaRunsWrong : ChangeSpec := { name := "etaRuns", fn := fun _ => fun
  | [d1, d2, d3, d4, d5, d6] => { results := [.lit (.bool false)], args := [d1, d2, d3, d4, d5, d6] }
  | _ => none }
def EtaRunsWrongFalsely : Prop := etaRunsRow.holds Tryd.pinned (OpenSpec.ofChange etaRunsWrong)

/- THE SECOND FORM. 'bulk': how many values and letters a reading holds, each counted each time it is reached (what is shared counts as often as it is met; a slice's spare places count too). A statement '..UptoSaid' is the law's where the arguments, and the package variables that the reading takes, are together of bulk at most 1048576: NARROWER than '..Said'. Prove '..Said' where nothing that the law and all that it calls make is longer than what came in: it says more and counts as full. Else prove '..UptoSaid'. A law counts once. -/
mutual
def uptoBulk {H : Type} : DataW H → Nat
  | .lit (.string bytes) => bytes.length + 1
  | .lit _ => 1
  | .nil => 1
  | .ptr d => uptoBulk d + 1
  | .slice elems spare => uptoBulkAll elems + uptoBulkAll spare + 1
  | .agg parts => uptoBulkAll parts + 1
  | .iface _ d => uptoBulk d + 1
  | .map entries => uptoBulkEntries entries + 1
  | .held _ => 1
def uptoBulkAll {H : Type} : List (DataW H) → Nat
  | [] => 0
  | d :: r => uptoBulk d + uptoBulkAll r
def uptoBulkEntries {H : Type} : List (Lit × DataW H) → Nat
  | [] => 0
  | x :: r => uptoBulkEntry x + uptoBulkEntries r
def uptoBulkEntry {H : Type} : Lit × DataW H → Nat
  | (.string bytes, d) => bytes.length + uptoBulk d + 1
  | (_, d) => uptoBulk d + 1
 end
def uptoSmall : (H : Type) → List (DataW H) → Bool := fun _ ds => decide (uptoBulkAll ds ≤ 1048576)
def OpenSpec.upto (s : _root_.Go.ChangeSpec) : _root_.Go.OpenSpec := { _root_.Go.OpenSpec.ofChange s with cond := some uptoSmall }

/-- 'paternosterlaw16.CarOut', WHERE WHAT IT READS IS OF BULK AT MOST 1048576: true; the input reads as it did. -/
def carOutUptoRow : OpenClaim := { program := "ytchjajnhbipkmaadoor", sum := "c8e0a0f807d28abf2f8f751bd357596636ac7229cafeafe248ba6f27d7dd975c", func := "paternoster/paternosterlaw16.CarOut", spec := "carOut", named := ["math/bits.deBruijn64tab"], apart := false, laid := [("math/bits.deBruijn64tab", laid_math_bits_deBruijn64tab)], narrowed := true }
def CarOutUptoSaid : Prop := carOutUptoRow.holds Tryd.pinned (OpenSpec.upto carOutSpec)

/-- 'paternosterlaw16.CarPlays', WHERE WHAT IT READS IS OF BULK AT MOST 1048576: true; the input reads as it did. -/
def carPlaysUptoRow : OpenClaim := { program := "ytchjajnhbipkmaadoor", sum := "c8e0a0f807d28abf2f8f751bd357596636ac7229cafeafe248ba6f27d7dd975c", func := "paternoster/paternosterlaw16.CarPlays", spec := "carPlays", named := ["math/bits.deBruijn64tab"], apart := false, laid := [("math/bits.deBruijn64tab", laid_math_bits_deBruijn64tab)], narrowed := true }
def CarPlaysUptoSaid : Prop := carPlaysUptoRow.holds Tryd.pinned (OpenSpec.upto carPlaysSpec)

/-- 'paternosterlaw16.CarServes', WHERE WHAT IT READS IS OF BULK AT MOST 1048576: true; the input reads as it did. -/
def carServesUptoRow : OpenClaim := { program := "ytchjajnhbipkmaadoor", sum := "c8e0a0f807d28abf2f8f751bd357596636ac7229cafeafe248ba6f27d7dd975c", func := "paternoster/paternosterlaw16.CarServes", spec := "carServes", named := ["math/bits.deBruijn64tab"], apart := false, laid := [("math/bits.deBruijn64tab", laid_math_bits_deBruijn64tab)], narrowed := true }
def CarServesUptoSaid : Prop := carServesUptoRow.holds Tryd.pinned (OpenSpec.upto carServesSpec)

/-- 'paternosterlaw16.CarLevels', WHERE WHAT IT READS IS OF BULK AT MOST 1048576: true; the input reads as it did. -/
def carLevelsUptoRow : OpenClaim := { program := "ytchjajnhbipkmaadoor", sum := "c8e0a0f807d28abf2f8f751bd357596636ac7229cafeafe248ba6f27d7dd975c", func := "paternoster/paternosterlaw16.CarLevels", spec := "carLevels", named := ["math/bits.deBruijn64tab"], apart := false, laid := [("math/bits.deBruijn64tab", laid_math_bits_deBruijn64tab)], narrowed := true }
def CarLevelsUptoSaid : Prop := carLevelsUptoRow.holds Tryd.pinned (OpenSpec.upto carLevelsSpec)

/-- 'paternosterlaw16.CarStays', WHERE WHAT IT READS IS OF BULK AT MOST 1048576: true; the input reads as it did. -/
def carStaysUptoRow : OpenClaim := { program := "ytchjajnhbipkmaadoor", sum := "c8e0a0f807d28abf2f8f751bd357596636ac7229cafeafe248ba6f27d7dd975c", func := "paternoster/paternosterlaw16.CarStays", spec := "carStays", named := ["math/bits.deBruijn64tab"], apart := false, laid := [("math/bits.deBruijn64tab", laid_math_bits_deBruijn64tab)], narrowed := true }
def CarStaysUptoSaid : Prop := carStaysUptoRow.holds Tryd.pinned (OpenSpec.upto carStaysSpec)

/-- 'paternosterlaw16.CarHolds', WHERE WHAT IT READS IS OF BULK AT MOST 1048576: true; the input reads as it did. -/
def carHoldsUptoRow : OpenClaim := { program := "ytchjajnhbipkmaadoor", sum := "c8e0a0f807d28abf2f8f751bd357596636ac7229cafeafe248ba6f27d7dd975c", func := "paternoster/paternosterlaw16.CarHolds", spec := "carHolds", named := ["math/bits.deBruijn64tab"], apart := false, laid := [("math/bits.deBruijn64tab", laid_math_bits_deBruijn64tab)], narrowed := true }
def CarHoldsUptoSaid : Prop := carHoldsUptoRow.holds Tryd.pinned (OpenSpec.upto carHoldsSpec)

/-- 'paternosterlaw16.CarPasses', WHERE WHAT IT READS IS OF BULK AT MOST 1048576: true; the input reads as it did. -/
def carPassesUptoRow : OpenClaim := { program := "ytchjajnhbipkmaadoor", sum := "c8e0a0f807d28abf2f8f751bd357596636ac7229cafeafe248ba6f27d7dd975c", func := "paternoster/paternosterlaw16.CarPasses", spec := "carPasses", named := ["math/bits.deBruijn64tab"], apart := false, laid := [("math/bits.deBruijn64tab", laid_math_bits_deBruijn64tab)], narrowed := true }
def CarPassesUptoSaid : Prop := carPassesUptoRow.holds Tryd.pinned (OpenSpec.upto carPassesSpec)

/-- 'paternosterlaw16.CarStops', WHERE WHAT IT READS IS OF BULK AT MOST 1048576: true; the input reads as it did. -/
def carStopsUptoRow : OpenClaim := { program := "ytchjajnhbipkmaadoor", sum := "c8e0a0f807d28abf2f8f751bd357596636ac7229cafeafe248ba6f27d7dd975c", func := "paternoster/paternosterlaw16.CarStops", spec := "carStops", named := ["math/bits.deBruijn64tab"], apart := false, laid := [("math/bits.deBruijn64tab", laid_math_bits_deBruijn64tab)], narrowed := true }
def CarStopsUptoSaid : Prop := carStopsUptoRow.holds Tryd.pinned (OpenSpec.upto carStopsSpec)

/-- 'paternosterlaw17.EtaOpen', WHERE WHAT IT READS IS OF BULK AT MOST 1048576: true; the input reads as it did. -/
def etaOpenUptoRow : OpenClaim := { program := "ytchjajnhbipkmaadoor", sum := "c8e0a0f807d28abf2f8f751bd357596636ac7229cafeafe248ba6f27d7dd975c", func := "paternoster/paternosterlaw17.EtaOpen", spec := "etaOpen", named := ["math/bits.deBruijn64tab"], apart := false, laid := [("math/bits.deBruijn64tab", laid_math_bits_deBruijn64tab)], narrowed := true }
def EtaOpenUptoSaid : Prop := etaOpenUptoRow.holds Tryd.pinned (OpenSpec.upto etaOpenSpec)

/-- 'paternosterlaw17.EtaLevels', WHERE WHAT IT READS IS OF BULK AT MOST 1048576: true; the input reads as it did. -/
def etaLevelsUptoRow : OpenClaim := { program := "ytchjajnhbipkmaadoor", sum := "c8e0a0f807d28abf2f8f751bd357596636ac7229cafeafe248ba6f27d7dd975c", func := "paternoster/paternosterlaw17.EtaLevels", spec := "etaLevels", named := ["math/bits.deBruijn64tab"], apart := false, laid := [("math/bits.deBruijn64tab", laid_math_bits_deBruijn64tab)], narrowed := true }
def EtaLevelsUptoSaid : Prop := etaLevelsUptoRow.holds Tryd.pinned (OpenSpec.upto etaLevelsSpec)

/-- 'paternosterlaw17.EtaNear', WHERE WHAT IT READS IS OF BULK AT MOST 1048576: true; the input reads as it did. -/
def etaNearUptoRow : OpenClaim := { program := "ytchjajnhbipkmaadoor", sum := "c8e0a0f807d28abf2f8f751bd357596636ac7229cafeafe248ba6f27d7dd975c", func := "paternoster/paternosterlaw17.EtaNear", spec := "etaNear", named := ["math/bits.deBruijn64tab"], apart := false, laid := [("math/bits.deBruijn64tab", laid_math_bits_deBruijn64tab)], narrowed := true }
def EtaNearUptoSaid : Prop := etaNearUptoRow.holds Tryd.pinned (OpenSpec.upto etaNearSpec)

/-- 'paternosterlaw17.EtaBound', WHERE WHAT IT READS IS OF BULK AT MOST 1048576: true; the input reads as it did. -/
def etaBoundUptoRow : OpenClaim := { program := "ytchjajnhbipkmaadoor", sum := "c8e0a0f807d28abf2f8f751bd357596636ac7229cafeafe248ba6f27d7dd975c", func := "paternoster/paternosterlaw17.EtaBound", spec := "etaBound", named := ["math/bits.deBruijn64tab"], apart := false, laid := [("math/bits.deBruijn64tab", laid_math_bits_deBruijn64tab)], narrowed := true }
def EtaBoundUptoSaid : Prop := etaBoundUptoRow.holds Tryd.pinned (OpenSpec.upto etaBoundSpec)

/-- 'paternosterlaw17.EtaTicks', WHERE WHAT IT READS IS OF BULK AT MOST 1048576: true; the input reads as it did. -/
def etaTicksUptoRow : OpenClaim := { program := "ytchjajnhbipkmaadoor", sum := "c8e0a0f807d28abf2f8f751bd357596636ac7229cafeafe248ba6f27d7dd975c", func := "paternoster/paternosterlaw17.EtaTicks", spec := "etaTicks", named := ["math/bits.deBruijn64tab"], apart := false, laid := [("math/bits.deBruijn64tab", laid_math_bits_deBruijn64tab)], narrowed := true }
def EtaTicksUptoSaid : Prop := etaTicksUptoRow.holds Tryd.pinned (OpenSpec.upto etaTicksSpec)

/-- 'paternosterlaw17.EtaSays', WHERE WHAT IT READS IS OF BULK AT MOST 1048576: true; the input reads as it did. -/
def etaSaysUptoRow : OpenClaim := { program := "ytchjajnhbipkmaadoor", sum := "c8e0a0f807d28abf2f8f751bd357596636ac7229cafeafe248ba6f27d7dd975c", func := "paternoster/paternosterlaw17.EtaSays", spec := "etaSays", inPlace := ["sync/atomic.LoadInt64", "sync/atomic.AddInt64", "sync/atomic.LoadUint32", "(*internal/sync.Mutex).Lock", "internal/race.Disable", "sync/atomic.CompareAndSwapInt32", "internal/race.Enable", "internal/race.Acquire", "(*internal/sync.Mutex).lockSlow", "internal/sync.runtime_canSpin", "internal/sync.runtime_doSpin", "internal/sync.throw", "internal/sync.runtime_nanotime", "internal/sync.runtime_SemacquireMutex", "sync/atomic.AddInt32", "(*internal/sync.Mutex).Unlock", "internal/race.ReleaseMerge", "(*internal/sync.Mutex).unlockSlow", "internal/sync.fatal", "internal/sync.runtime_Semrelease", "sync/atomic.StoreUint32"], unfollowed := true, recurses := true, named := ["math/bits.deBruijn64tab"], apart := false, laid := [("math/bits.deBruijn64tab", laid_math_bits_deBruijn64tab)], narrowed := true }
def EtaSaysUptoSaid : Prop := etaSaysUptoRow.holds Tryd.pinned (OpenSpec.upto etaSaysSpec)

/-- 'paternosterlaw17.EtaRuns', WHERE WHAT IT READS IS OF BULK AT MOST 1048576: true; the input reads as it did. -/
def etaRunsUptoRow : OpenClaim := { program := "ytchjajnhbipkmaadoor", sum := "c8e0a0f807d28abf2f8f751bd357596636ac7229cafeafe248ba6f27d7dd975c", func := "paternoster/paternosterlaw17.EtaRuns", spec := "etaRuns", inPlace := ["sync/atomic.AddInt64", "sync/atomic.LoadUint32", "(*internal/sync.Mutex).Lock", "internal/race.Disable", "sync/atomic.CompareAndSwapInt32", "internal/race.Enable", "internal/race.Acquire", "(*internal/sync.Mutex).lockSlow", "internal/sync.runtime_canSpin", "internal/sync.runtime_doSpin", "internal/sync.throw", "internal/sync.runtime_nanotime", "internal/sync.runtime_SemacquireMutex", "sync/atomic.AddInt32", "(*internal/sync.Mutex).Unlock", "internal/race.ReleaseMerge", "(*internal/sync.Mutex).unlockSlow", "internal/sync.fatal", "internal/sync.runtime_Semrelease", "sync/atomic.StoreUint32", "sync/atomic.LoadInt64"], unfollowed := true, recurses := true, named := ["math/bits.deBruijn64tab"], apart := false, laid := [("math/bits.deBruijn64tab", laid_math_bits_deBruijn64tab)], narrowed := true }
def EtaRunsUptoSaid : Prop := etaRunsUptoRow.holds Tryd.pinned (OpenSpec.upto etaRunsSpec)

end Rows
end Go.Proofs.YtchjajnhbipkmaaDoor
