/-
  No cell of these rows narrows 'for every input' (looked for: loops, veiled, ifaces, maps, wideKeys, modest, calm, conditions, laid).
  DERIVED. THE GIVEN ROWS OF THIS SEAT. 3 by the template 'for every input the law returns true; each argument reads behind the call as it read before'; 0 by the template 'total and deterministic' (their statements: YtccdhkmohimfhaaTotals.lean).
  GIVEN WITH THE SEED: the statements are not yours to turn. If you find one false, say at which input.
  Laid BY PROGRAM, IN A SANDBOX (cutbox-rows.mjs): the forced cells as the released guide's own fill.sh prints them over the translation 4dba0ed7c03d9842… (all of the seat's roots in one cut). By AI agents, Wed Nov 11 2026. No macro, syntax, notation, axiom, sorry.
-/
import Derived.Test.YtccdhkmohimfhaaChecked
import GoSem.Claim
import GoSem.ClaimJoined
import GoSem.ClaimMapViews
import Derived.JoinedTies
import Derived.KernelRfl
namespace Go.Proofs.Ytccdhkmohimfhaa
/- THE CELL 'sum', in the pinned program and in every row, IS THE sha256 OF THE DUMP (.gsa) THAT YtccdhkmohimfhaaProg.lean LOADS. Nothing in Lean hashes anything: it is a label: what it is worth is what the hold of that sum in a sandbox is worth. -/
noncomputable def Try.pinned : Pinned := { name := "ytccdhkmohimfhaa", sum := "4dba0ed7c03d98429085c286203d66f774d7b37d11f44a80327f79e66c4314e1", checked := Try.checked }
namespace Rows
def none {H : Type} : Left H := { results := [], args := [] }

/-- 'paternosterlaw20.MeterAdds': WHATEVER THE INPUT: true; the input reads as it did. -/
def meterAddsSpec : ChangeSpec := { name := "meterAdds", fn := fun _ => fun
  | [d1, d2, d3, d4] => { results := [.lit (.bool true)], args := [d1, d2, d3, d4] }
  | _ => none }
def meterAddsRow : OpenClaim := { program := "ytccdhkmohimfhaa", sum := "4dba0ed7c03d98429085c286203d66f774d7b37d11f44a80327f79e66c4314e1", func := "paternoster/paternosterlaw20.MeterAdds", spec := "meterAdds", inPlace := ["sync/atomic.AddInt64", "sync/atomic.LoadInt64"], apart := false }
def MeterAddsSaid : Prop := meterAddsRow.holds Try.pinned (OpenSpec.ofChange meterAddsSpec)

/-- ITS FALSE NEIGHBOUR: 'it returns false'. Refute it at one input. -/
def meterAddsWrong : ChangeSpec := { name := "meterAdds", fn := fun _ => fun
  | [d1, d2, d3, d4] => { results := [.lit (.bool false)], args := [d1, d2, d3, d4] }
  | _ => none }
def MeterAddsWrongFalsely : Prop := meterAddsRow.holds Try.pinned (OpenSpec.ofChange meterAddsWrong)

/-- 'paternosterlaw20.MeterPlays': WHATEVER THE INPUT: true; the input reads as it did. -/
def meterPlaysSpec : ChangeSpec := { name := "meterPlays", fn := fun _ => fun
  | [d1, d2, d3] => { results := [.lit (.bool true)], args := [d1, d2, d3] }
  | _ => none }
def meterPlaysRow : OpenClaim := { program := "ytccdhkmohimfhaa", sum := "4dba0ed7c03d98429085c286203d66f774d7b37d11f44a80327f79e66c4314e1", func := "paternoster/paternosterlaw20.MeterPlays", spec := "meterPlays", inPlace := ["sync/atomic.AddInt64", "sync/atomic.LoadInt64", "sync/atomic.StoreInt64"], apart := false }
def MeterPlaysSaid : Prop := meterPlaysRow.holds Try.pinned (OpenSpec.ofChange meterPlaysSpec)

/-- ITS FALSE NEIGHBOUR: 'it returns false'. Refute it at one input. -/
def meterPlaysWrong : ChangeSpec := { name := "meterPlays", fn := fun _ => fun
  | [d1, d2, d3] => { results := [.lit (.bool false)], args := [d1, d2, d3] }
  | _ => none }
def MeterPlaysWrongFalsely : Prop := meterPlaysRow.holds Try.pinned (OpenSpec.ofChange meterPlaysWrong)

/-- 'paternosterlaw20.MeterMost': WHATEVER THE INPUT: true; the input reads as it did. -/
def meterMostSpec : ChangeSpec := { name := "meterMost", fn := fun _ => fun
  | [d] => { results := [.lit (.bool true)], args := [d] }
  | _ => none }
def meterMostRow : OpenClaim := { program := "ytccdhkmohimfhaa", sum := "4dba0ed7c03d98429085c286203d66f774d7b37d11f44a80327f79e66c4314e1", func := "paternoster/paternosterlaw20.MeterMost", spec := "meterMost", inPlace := ["sync/atomic.AddInt64", "sync/atomic.LoadInt64", "sync/atomic.StoreInt64"], apart := false }
def MeterMostSaid : Prop := meterMostRow.holds Try.pinned (OpenSpec.ofChange meterMostSpec)

/-- ITS FALSE NEIGHBOUR: 'it returns false'. Refute it at one input. -/
def meterMostWrong : ChangeSpec := { name := "meterMost", fn := fun _ => fun
  | [d] => { results := [.lit (.bool false)], args := [d] }
  | _ => none }
def MeterMostWrongFalsely : Prop := meterMostRow.holds Try.pinned (OpenSpec.ofChange meterMostWrong)

/- THE SECOND FORM. 'bulk': how many values and letters a reading holds, each counted each time it is reached (what is shared counts as often as it is met; a slice's spare places count too). A statement '..UptoSaid' is the law's where the arguments, and the package variables that the reading takes, are together of bulk at most 1048576: NARROWER than '..Said'. Prove '..Said' where nothing that the law and all that it calls make is longer than what came in: it says more and counts as full. Else prove '..UptoSaid'. A law counts once. -/
mutual
def uptoBulk {H : Type} : DataW H → Nat
  | .lit (.string bytes) => bytes.length + 1
  | .lit _ => 1
  | .nil => 1
  | .ptr d => uptoBulk d + 1
  | .slice elems spare => uptoBulkAll elems + uptoBulkAll spare + 1
  | .agg parts => uptoBulkAll parts + 1
  | .iface _ d => uptoBulk d + 1
  | .map entries => uptoBulkEntries entries + 1
  | .held _ => 1
def uptoBulkAll {H : Type} : List (DataW H) → Nat
  | [] => 0
  | d :: r => uptoBulk d + uptoBulkAll r
def uptoBulkEntries {H : Type} : List (Lit × DataW H) → Nat
  | [] => 0
  | x :: r => uptoBulkEntry x + uptoBulkEntries r
def uptoBulkEntry {H : Type} : Lit × DataW H → Nat
  | (.string bytes, d) => bytes.length + uptoBulk d + 1
  | (_, d) => uptoBulk d + 1
 end
def uptoSmall : (H : Type) → List (DataW H) → Bool := fun _ ds => decide (uptoBulkAll ds ≤ 1048576)
def OpenSpec.upto (s : _root_.Go.ChangeSpec) : _root_.Go.OpenSpec := { _root_.Go.OpenSpec.ofChange s with cond := some uptoSmall }

/-- 'paternosterlaw20.MeterAdds', WHERE WHAT IT READS IS OF BULK AT MOST 1048576: true; the input reads as it did. -/
def meterAddsUptoRow : OpenClaim := { program := "ytccdhkmohimfhaa", sum := "4dba0ed7c03d98429085c286203d66f774d7b37d11f44a80327f79e66c4314e1", func := "paternoster/paternosterlaw20.MeterAdds", spec := "meterAdds", inPlace := ["sync/atomic.AddInt64", "sync/atomic.LoadInt64"], apart := false, narrowed := true }
def MeterAddsUptoSaid : Prop := meterAddsUptoRow.holds Try.pinned (OpenSpec.upto meterAddsSpec)

/-- 'paternosterlaw20.MeterPlays', WHERE WHAT IT READS IS OF BULK AT MOST 1048576: true; the input reads as it did. -/
def meterPlaysUptoRow : OpenClaim := { program := "ytccdhkmohimfhaa", sum := "4dba0ed7c03d98429085c286203d66f774d7b37d11f44a80327f79e66c4314e1", func := "paternoster/paternosterlaw20.MeterPlays", spec := "meterPlays", inPlace := ["sync/atomic.AddInt64", "sync/atomic.LoadInt64", "sync/atomic.StoreInt64"], apart := false, narrowed := true }
def MeterPlaysUptoSaid : Prop := meterPlaysUptoRow.holds Try.pinned (OpenSpec.upto meterPlaysSpec)

/-- 'paternosterlaw20.MeterMost', WHERE WHAT IT READS IS OF BULK AT MOST 1048576: true; the input reads as it did. -/
def meterMostUptoRow : OpenClaim := { program := "ytccdhkmohimfhaa", sum := "4dba0ed7c03d98429085c286203d66f774d7b37d11f44a80327f79e66c4314e1", func := "paternoster/paternosterlaw20.MeterMost", spec := "meterMost", inPlace := ["sync/atomic.AddInt64", "sync/atomic.LoadInt64", "sync/atomic.StoreInt64"], apart := false, narrowed := true }
def MeterMostUptoSaid : Prop := meterMostUptoRow.holds Try.pinned (OpenSpec.upto meterMostSpec)

end Rows
end Go.Proofs.Ytccdhkmohimfhaa
