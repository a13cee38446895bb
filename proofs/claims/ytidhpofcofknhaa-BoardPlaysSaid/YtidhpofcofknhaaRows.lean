/-
  No cell of these rows narrows 'for every input' (looked for: loops, veiled, ifaces, maps, wideKeys, modest, calm, conditions, laid).
  DERIVED. THE GIVEN ROWS OF THIS SEAT. 3 by the template 'for every input the law returns true; each argument reads behind the call as it read before'; 0 by the template 'total and deterministic' (their statements: YtidhpofcofknhaaTotals.lean).
  GIVEN WITH THE SEED: the statements are not yours to turn. If you find one false, say at which input.
  Laid BY PROGRAM, IN A SANDBOX (cutbox-rows.mjs): the forced cells as the released guide's own fill.sh prints them over the translation c103ccdb76a3b161… (all of the seat's roots in one cut). By AI agents, Wed Nov 11 2026. No macro, syntax, notation, axiom, sorry.
-/
import Derived.Test.YtidhpofcofknhaaChecked
import GoSem.Claim
import GoSem.ClaimJoined
import GoSem.ClaimMapViews
import Derived.JoinedTies
import Derived.KernelRfl
namespace Go.Proofs.Ytidhpofcofknhaa
/- THE CELL 'sum', in the pinned program and in every row, IS THE sha256 OF THE DUMP (.gsa) THAT YtidhpofcofknhaaProg.lean LOADS. Nothing in Lean hashes anything: it is a label: what it is worth is what the hold of that sum in a sandbox is worth. -/
noncomputable def Try.pinned : Pinned := { name := "ytidhpofcofknhaa", sum := "c103ccdb76a3b1614086ce3283295c7571c5335f9a1f6bbb115b91b95bec865b", checked := Try.checked }
namespace Rows
def none {H : Type} : Left H := { results := [], args := [] }

/-- 'sumpterlaw13.BoardPlays': WHATEVER THE INPUT: true; the input reads as it did. -/
def boardPlaysSpec : ChangeSpec := { name := "boardPlays", fn := fun _ => fun
  | [d1, d2, d3] => { results := [.lit (.bool true)], args := [d1, d2, d3] }
  | _ => none }
def boardPlaysRow : OpenClaim := { program := "ytidhpofcofknhaa", sum := "c103ccdb76a3b1614086ce3283295c7571c5335f9a1f6bbb115b91b95bec865b", func := "sumpter/sumpterlaw13.BoardPlays", spec := "boardPlays", inPlace := ["math/bits.Add64"], unfollowed := true, recurses := true, apart := false }
def BoardPlaysSaid : Prop := boardPlaysRow.holds Try.pinned (OpenSpec.ofChange boardPlaysSpec)

/-- ITS FALSE NEIGHBOUR: 'it returns false'. Refute it at one input. -/
def boardPlaysWrong : ChangeSpec := { name := "boardPlays", fn := fun _ => fun
  | [d1, d2, d3] => { results := [.lit (.bool false)], args := [d1, d2, d3] }
  | _ => none }
def BoardPlaysWrongFalsely : Prop := boardPlaysRow.holds Try.pinned (OpenSpec.ofChange boardPlaysWrong)

/-- 'sumpterlaw14.SenderProbes': WHATEVER THE INPUT: true; the input reads as it did. -/
def senderProbesSpec : ChangeSpec := { name := "senderProbes", fn := fun _ => fun
  | [d1, d2, d3, d4, d5] => { results := [.lit (.bool true)], args := [d1, d2, d3, d4, d5] }
  | _ => none }
def senderProbesRow : OpenClaim := { program := "ytidhpofcofknhaa", sum := "c103ccdb76a3b1614086ce3283295c7571c5335f9a1f6bbb115b91b95bec865b", func := "sumpter/sumpterlaw14.SenderProbes", spec := "senderProbes", inPlace := ["math/bits.Add64"], unfollowed := true, recurses := true, apart := false }
def SenderProbesSaid : Prop := senderProbesRow.holds Try.pinned (OpenSpec.ofChange senderProbesSpec)

/-- ITS FALSE NEIGHBOUR: 'it returns false'. Refute it at one input. -/
def senderProbesWrong : ChangeSpec := { name := "senderProbes", fn := fun _ => fun
  | [d1, d2, d3, d4, d5] => { results := [.lit (.bool false)], args := [d1, d2, d3, d4, d5] }
  | _ => none }
def SenderProbesWrongFalsely : Prop := senderProbesRow.holds Try.pinned (OpenSpec.ofChange senderProbesWrong)

/-- 'sumpterlaw14.SenderGreets': WHATEVER THE INPUT: true; the input reads as it did. -/
def senderGreetsSpec : ChangeSpec := { name := "senderGreets", fn := fun _ => fun
  | [d1, d2, d3, d4, d5] => { results := [.lit (.bool true)], args := [d1, d2, d3, d4, d5] }
  | _ => none }
def senderGreetsRow : OpenClaim := { program := "ytidhpofcofknhaa", sum := "c103ccdb76a3b1614086ce3283295c7571c5335f9a1f6bbb115b91b95bec865b", func := "sumpter/sumpterlaw14.SenderGreets", spec := "senderGreets", inPlace := ["math/bits.Add64"], unfollowed := true, recurses := true, apart := false }
def SenderGreetsSaid : Prop := senderGreetsRow.holds Try.pinned (OpenSpec.ofChange senderGreetsSpec)

/-- ITS FALSE NEIGHBOUR: 'it returns false'. Refute it at one input. -/
def senderGreetsWrong : ChangeSpec := { name := "senderGreets", fn := fun _ => fun
  | [d1, d2, d3, d4, d5] => { results := [.lit (.bool false)], args := [d1, d2, d3, d4, d5] }
  | _ => none }
def SenderGreetsWrongFalsely : Prop := senderGreetsRow.holds Try.pinned (OpenSpec.ofChange senderGreetsWrong)

/- THE SECOND FORM. 'bulk': how many values and letters a reading holds, each counted each time it is reached (what is shared counts as often as it is met; a slice's spare places count too). A statement '..UptoSaid' is the law's where the arguments, and the package variables that the reading takes, are together of bulk at most 1048576: NARROWER than '..Said'. Prove '..Said' where nothing that the law and all that it calls make is longer than what came in: it says more and counts as full. Else prove '..UptoSaid'. A law counts once. -/
mutual
def uptoBulk {H : Type} : DataW H → Nat
  | .lit (.string bytes) => bytes.length + 1
  | .lit _ => 1
  | .nil => 1
  | .ptr d => uptoBulk d + 1
  | .slice elems spare => uptoBulkAll elems + uptoBulkAll spare + 1
  | .agg parts => uptoBulkAll parts + 1
  | .iface _ d => uptoBulk d + 1
  | .map entries => uptoBulkEntries entries + 1
  | .held _ => 1
def uptoBulkAll {H : Type} : List (DataW H) → Nat
  | [] => 0
  | d :: r => uptoBulk d + uptoBulkAll r
def uptoBulkEntries {H : Type} : List (Lit × DataW H) → Nat
  | [] => 0
  | x :: r => uptoBulkEntry x + uptoBulkEntries r
def uptoBulkEntry {H : Type} : Lit × DataW H → Nat
  | (.string bytes, d) => bytes.length + uptoBulk d + 1
  | (_, d) => uptoBulk d + 1
 end
def uptoSmall : (H : Type) → List (DataW H) → Bool := fun _ ds => decide (uptoBulkAll ds ≤ 1048576)
def OpenSpec.upto (s : _root_.Go.ChangeSpec) : _root_.Go.OpenSpec := { _root_.Go.OpenSpec.ofChange s with cond := some uptoSmall }

/-- 'sumpterlaw13.BoardPlays', WHERE WHAT IT READS IS OF BULK AT MOST 1048576: true; the input reads as it did. -/
def boardPlaysUptoRow : OpenClaim := { program := "ytidhpofcofknhaa", sum := "c103ccdb76a3b1614086ce3283295c7571c5335f9a1f6bbb115b91b95bec865b", func := "sumpter/sumpterlaw13.BoardPlays", spec := "boardPlays", inPlace := ["math/bits.Add64"], unfollowed := true, recurses := true, apart := false, narrowed := true }
def BoardPlaysUptoSaid : Prop := boardPlaysUptoRow.holds Try.pinned (OpenSpec.upto boardPlaysSpec)

/-- 'sumpterlaw14.SenderProbes', WHERE WHAT IT READS IS OF BULK AT MOST 1048576: true; the input reads as it did. -/
def senderProbesUptoRow : OpenClaim := { program := "ytidhpofcofknhaa", sum := "c103ccdb76a3b1614086ce3283295c7571c5335f9a1f6bbb115b91b95bec865b", func := "sumpter/sumpterlaw14.SenderProbes", spec := "senderProbes", inPlace := ["math/bits.Add64"], unfollowed := true, recurses := true, apart := false, narrowed := true }
def SenderProbesUptoSaid : Prop := senderProbesUptoRow.holds Try.pinned (OpenSpec.upto senderProbesSpec)

/-- 'sumpterlaw14.SenderGreets', WHERE WHAT IT READS IS OF BULK AT MOST 1048576: true; the input reads as it did. -/
def senderGreetsUptoRow : OpenClaim := { program := "ytidhpofcofknhaa", sum := "c103ccdb76a3b1614086ce3283295c7571c5335f9a1f6bbb115b91b95bec865b", func := "sumpter/sumpterlaw14.SenderGreets", spec := "senderGreets", inPlace := ["math/bits.Add64"], unfollowed := true, recurses := true, apart := false, narrowed := true }
def SenderGreetsUptoSaid : Prop := senderGreetsUptoRow.holds Try.pinned (OpenSpec.upto senderGreetsSpec)

end Rows
end Go.Proofs.Ytidhpofcofknhaa
