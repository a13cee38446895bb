/-
  No cell of these rows narrows 'for every input' (looked for: loops, veiled, ifaces, maps, wideKeys, modest, calm, conditions, laid).
  DERIVED. THE GIVEN ROWS OF THIS SEAT. 10 by the template 'for every input the law returns true; each argument reads behind the call as it read before'; 0 by the template 'total and deterministic' (their statements: YtcnpfempfgljfaaTotals.lean).
  GIVEN WITH THE SEED: the statements are not yours to turn. If you find one false, say at which input.
  Laid BY PROGRAM, IN A SANDBOX (cutbox-rows.mjs): the forced cells as the released guide's own fill.sh prints them over the translation f2bb23da044cd9a2… (all of the seat's roots in one cut). By AI agents, Wed Nov 11 2026. No macro, syntax, notation, axiom, sorry.
-/
import Derived.Test.YtcnpfempfgljfaaChecked
import GoSem.Claim
import GoSem.ClaimJoined
import GoSem.ClaimMapViews
import Derived.JoinedTies
import Derived.KernelRfl
namespace Go.Proofs.Ytcnpfempfgljfaa
/- THE CELL 'sum', in the pinned program and in every row, IS THE sha256 OF THE DUMP (.gsa) THAT YtcnpfempfgljfaaProg.lean LOADS. Nothing in Lean hashes anything: it is a label: what it is worth is what the hold of that sum in a sandbox is worth. -/
noncomputable def Try.pinned : Pinned := { name := "ytcnpfempfgljfaa", sum := "f2bb23da044cd9a2997872afef04a2b3f4c47e4fdc8b056e07e32204adab388e", checked := Try.checked }
namespace Rows
def none {H : Type} : Left H := { results := [], args := [] }

/-- 'sumpterlaw02.PackNumbers': WHATEVER THE INPUT: true; the input reads as it did. -/
def packNumbersSpec : ChangeSpec := { name := "packNumbers", fn := fun _ => fun
  | [d1, d2, d3] => { results := [.lit (.bool true)], args := [d1, d2, d3] }
  | _ => none }
def packNumbersRow : OpenClaim := { program := "ytcnpfempfgljfaa", sum := "f2bb23da044cd9a2997872afef04a2b3f4c47e4fdc8b056e07e32204adab388e", func := "sumpter/sumpterlaw02.PackNumbers", spec := "packNumbers", recurses := true, apart := false }
def PackNumbersSaid : Prop := packNumbersRow.holds Try.pinned (OpenSpec.ofChange packNumbersSpec)

/-- ITS FALSE NEIGHBOUR: 'it returns false'. Refute it at one input. -/
def packNumbersWrong : ChangeSpec := { name := "packNumbers", fn := fun _ => fun
  | [d1, d2, d3] => { results := [.lit (.bool false)], args := [d1, d2, d3] }
  | _ => none }
def PackNumbersWrongFalsely : Prop := packNumbersRow.holds Try.pinned (OpenSpec.ofChange packNumbersWrong)

/-- 'sumpterlaw04.SpanRights': WHATEVER THE INPUT: true; the input reads as it did. -/
def spanRightsSpec : ChangeSpec := { name := "spanRights", fn := fun _ => fun
  | [d1, d2, d3, d4, d5] => { results := [.lit (.bool true)], args := [d1, d2, d3, d4, d5] }
  | _ => none }
def spanRightsRow : OpenClaim := { program := "ytcnpfempfgljfaa", sum := "f2bb23da044cd9a2997872afef04a2b3f4c47e4fdc8b056e07e32204adab388e", func := "sumpter/sumpterlaw04.SpanRights", spec := "spanRights", apart := false }
def SpanRightsSaid : Prop := spanRightsRow.holds Try.pinned (OpenSpec.ofChange spanRightsSpec)

/-- ITS FALSE NEIGHBOUR: 'it returns false'. Refute it at one input. -/
def spanRightsWrong : ChangeSpec := { name := "spanRights", fn := fun _ => fun
  | [d1, d2, d3, d4, d5] => { results := [.lit (.bool false)], args := [d1, d2, d3, d4, d5] }
  | _ => none }
def SpanRightsWrongFalsely : Prop := spanRightsRow.holds Try.pinned (OpenSpec.ofChange spanRightsWrong)

/-- 'sumpterlaw02.PackBytes': WHATEVER THE INPUT: true; the input reads as it did. -/
def packBytesSpec : ChangeSpec := { name := "packBytes", fn := fun _ => fun
  | [d1, d2, d3] => { results := [.lit (.bool true)], args := [d1, d2, d3] }
  | _ => none }
def packBytesRow : OpenClaim := { program := "ytcnpfempfgljfaa", sum := "f2bb23da044cd9a2997872afef04a2b3f4c47e4fdc8b056e07e32204adab388e", func := "sumpter/sumpterlaw02.PackBytes", spec := "packBytes", recurses := true, apart := false }
def PackBytesSaid : Prop := packBytesRow.holds Try.pinned (OpenSpec.ofChange packBytesSpec)

/-- ITS FALSE NEIGHBOUR: 'it returns false'. Refute it at one input. -/
def packBytesWrong : ChangeSpec := { name := "packBytes", fn := fun _ => fun
  | [d1, d2, d3] => { results := [.lit (.bool false)], args := [d1, d2, d3] }
  | _ => none }
def PackBytesWrongFalsely : Prop := packBytesRow.holds Try.pinned (OpenSpec.ofChange packBytesWrong)

/-- 'sumpterlaw02.PackCanons': WHATEVER THE INPUT: true; the input reads as it did. -/
def packCanonsSpec : ChangeSpec := { name := "packCanons", fn := fun _ => fun
  | [d] => { results := [.lit (.bool true)], args := [d] }
  | _ => none }
def packCanonsRow : OpenClaim := { program := "ytcnpfempfgljfaa", sum := "f2bb23da044cd9a2997872afef04a2b3f4c47e4fdc8b056e07e32204adab388e", func := "sumpter/sumpterlaw02.PackCanons", spec := "packCanons", apart := false }
def PackCanonsSaid : Prop := packCanonsRow.holds Try.pinned (OpenSpec.ofChange packCanonsSpec)

/-- ITS FALSE NEIGHBOUR: 'it returns false'. Refute it at one input. -/
def packCanonsWrong : ChangeSpec := { name := "packCanons", fn := fun _ => fun
  | [d] => { results := [.lit (.bool false)], args := [d] }
  | _ => none }
def PackCanonsWrongFalsely : Prop := packCanonsRow.holds Try.pinned (OpenSpec.ofChange packCanonsWrong)

/-- 'sumpterlaw02.PackRows': WHATEVER THE INPUT: true; the input reads as it did. -/
def packRowsSpec : ChangeSpec := { name := "packRows", fn := fun _ => fun
  | [d1, d2] => { results := [.lit (.bool true)], args := [d1, d2] }
  | _ => none }
def packRowsRow : OpenClaim := { program := "ytcnpfempfgljfaa", sum := "f2bb23da044cd9a2997872afef04a2b3f4c47e4fdc8b056e07e32204adab388e", func := "sumpter/sumpterlaw02.PackRows", spec := "packRows", recurses := true, apart := false }
def PackRowsSaid : Prop := packRowsRow.holds Try.pinned (OpenSpec.ofChange packRowsSpec)

/-- ITS FALSE NEIGHBOUR: 'it returns false'. Refute it at one input. -/
def packRowsWrong : ChangeSpec := { name := "packRows", fn := fun _ => fun
  | [d1, d2] => { results := [.lit (.bool false)], args := [d1, d2] }
  | _ => none }
def PackRowsWrongFalsely : Prop := packRowsRow.holds Try.pinned (OpenSpec.ofChange packRowsWrong)

/-- 'sumpterlaw02.PackReads': WHATEVER THE INPUT: true; the input reads as it did. -/
def packReadsSpec : ChangeSpec := { name := "packReads", fn := fun _ => fun
  | [d1, d2] => { results := [.lit (.bool true)], args := [d1, d2] }
  | _ => none }
def packReadsRow : OpenClaim := { program := "ytcnpfempfgljfaa", sum := "f2bb23da044cd9a2997872afef04a2b3f4c47e4fdc8b056e07e32204adab388e", func := "sumpter/sumpterlaw02.PackReads", spec := "packReads", apart := false }
def PackReadsSaid : Prop := packReadsRow.holds Try.pinned (OpenSpec.ofChange packReadsSpec)

/-- ITS FALSE NEIGHBOUR: 'it returns false'. Refute it at one input. -/
def packReadsWrong : ChangeSpec := { name := "packReads", fn := fun _ => fun
  | [d1, d2] => { results := [.lit (.bool false)], args := [d1, d2] }
  | _ => none }
def PackReadsWrongFalsely : Prop := packReadsRow.holds Try.pinned (OpenSpec.ofChange packReadsWrong)

/-- 'sumpterlaw02.PackNil': WHATEVER THE INPUT: true; the input reads as it did. -/
def packNilSpec : ChangeSpec := { name := "packNil", fn := fun _ => fun
  | [d1, d2] => { results := [.lit (.bool true)], args := [d1, d2] }
  | _ => none }
def packNilRow : OpenClaim := { program := "ytcnpfempfgljfaa", sum := "f2bb23da044cd9a2997872afef04a2b3f4c47e4fdc8b056e07e32204adab388e", func := "sumpter/sumpterlaw02.PackNil", spec := "packNil", apart := false }
def PackNilSaid : Prop := packNilRow.holds Try.pinned (OpenSpec.ofChange packNilSpec)

/-- ITS FALSE NEIGHBOUR: 'it returns false'. Refute it at one input. -/
def packNilWrong : ChangeSpec := { name := "packNil", fn := fun _ => fun
  | [d1, d2] => { results := [.lit (.bool false)], args := [d1, d2] }
  | _ => none }
def PackNilWrongFalsely : Prop := packNilRow.holds Try.pinned (OpenSpec.ofChange packNilWrong)

/-- 'sumpterlaw04.SpanGets': WHATEVER THE INPUT: true; the input reads as it did. -/
def spanGetsSpec : ChangeSpec := { name := "spanGets", fn := fun _ => fun
  | [d] => { results := [.lit (.bool true)], args := [d] }
  | _ => none }
def spanGetsRow : OpenClaim := { program := "ytcnpfempfgljfaa", sum := "f2bb23da044cd9a2997872afef04a2b3f4c47e4fdc8b056e07e32204adab388e", func := "sumpter/sumpterlaw04.SpanGets", spec := "spanGets", apart := false }
def SpanGetsSaid : Prop := spanGetsRow.holds Try.pinned (OpenSpec.ofChange spanGetsSpec)

/-- ITS FALSE NEIGHBOUR: 'it returns false'. Refute it at one input. -/
def spanGetsWrong : ChangeSpec := { name := "spanGets", fn := fun _ => fun
  | [d] => { results := [.lit (.bool false)], args := [d] }
  | _ => none }
def SpanGetsWrongFalsely : Prop := spanGetsRow.holds Try.pinned (OpenSpec.ofChange spanGetsWrong)

/-- 'sumpterlaw04.SpanPuts': WHATEVER THE INPUT: true; the input reads as it did. -/
def spanPutsSpec : ChangeSpec := { name := "spanPuts", fn := fun _ => fun
  | [d1, d2, d3, d4] => { results := [.lit (.bool true)], args := [d1, d2, d3, d4] }
  | _ => none }
def spanPutsRow : OpenClaim := { program := "ytcnpfempfgljfaa", sum := "f2bb23da044cd9a2997872afef04a2b3f4c47e4fdc8b056e07e32204adab388e", func := "sumpter/sumpterlaw04.SpanPuts", spec := "spanPuts", recurses := true, apart := false }
def SpanPutsSaid : Prop := spanPutsRow.holds Try.pinned (OpenSpec.ofChange spanPutsSpec)

/-- ITS FALSE NEIGHBOUR: 'it returns false'. Refute it at one input. -/
def spanPutsWrong : ChangeSpec := { name := "spanPuts", fn := fun _ => fun
  | [d1, d2, d3, d4] => { results := [.lit (.bool false)], args := [d1, d2, d3, d4] }
  | _ => none }
def SpanPutsWrongFalsely : Prop := spanPutsRow.holds Try.pinned (OpenSpec.ofChange spanPutsWrong)

/-- 'sumpterlaw04.SpanRows': WHATEVER THE INPUT: true; the input reads as it did. -/
def spanRowsSpec : ChangeSpec := { name := "spanRows", fn := fun _ => fun
  | [d1, d2] => { results := [.lit (.bool true)], args := [d1, d2] }
  | _ => none }
def spanRowsRow : OpenClaim := { program := "ytcnpfempfgljfaa", sum := "f2bb23da044cd9a2997872afef04a2b3f4c47e4fdc8b056e07e32204adab388e", func := "sumpter/sumpterlaw04.SpanRows", spec := "spanRows", apart := false }
def SpanRowsSaid : Prop := spanRowsRow.holds Try.pinned (OpenSpec.ofChange spanRowsSpec)

/-- ITS FALSE NEIGHBOUR: 'it returns false'. Refute it at one input. -/
def spanRowsWrong : ChangeSpec := { name := "spanRows", fn := fun _ => fun
  | [d1, d2] => { results := [.lit (.bool false)], args := [d1, d2] }
  | _ => none }
def SpanRowsWrongFalsely : Prop := spanRowsRow.holds Try.pinned (OpenSpec.ofChange spanRowsWrong)

/- THE SECOND FORM. 'bulk': how many values and letters a reading holds, each counted each time it is reached (what is shared counts as often as it is met; a slice's spare places count too). A statement '..UptoSaid' is the law's where the arguments, and the package variables that the reading takes, are together of bulk at most 1048576: NARROWER than '..Said'. Prove '..Said' where nothing that the law and all that it calls make is longer than what came in: it says more and counts as full. Else prove '..UptoSaid'. A law counts once. -/
mutual
def uptoBulk {H : Type} : DataW H → Nat
  | .lit (.string bytes) => bytes.length + 1
  | .lit _ => 1
  | .nil => 1
  | .ptr d => uptoBulk d + 1
  | .slice elems spare => uptoBulkAll elems + uptoBulkAll spare + 1
  | .agg parts => uptoBulkAll parts + 1
  | .iface _ d => uptoBulk d + 1
  | .map entries => uptoBulkEntries entries + 1
  | .held _ => 1
def uptoBulkAll {H : Type} : List (DataW H) → Nat
  | [] => 0
  | d :: r => uptoBulk d + uptoBulkAll r
def uptoBulkEntries {H : Type} : List (Lit × DataW H) → Nat
  | [] => 0
  | x :: r => uptoBulkEntry x + uptoBulkEntries r
def uptoBulkEntry {H : Type} : Lit × DataW H → Nat
  | (.string bytes, d) => bytes.length + uptoBulk d + 1
  | (_, d) => uptoBulk d + 1
 end
def uptoSmall : (H : Type) → List (DataW H) → Bool := fun _ ds => decide (uptoBulkAll ds ≤ 1048576)
def OpenSpec.upto (s : _root_.Go.ChangeSpec) : _root_.Go.OpenSpec := { _root_.Go.OpenSpec.ofChange s with cond := some uptoSmall }

/-- 'sumpterlaw02.PackNumbers', WHERE WHAT IT READS IS OF BULK AT MOST 1048576: true; the input reads as it did. -/
def packNumbersUptoRow : OpenClaim := { program := "ytcnpfempfgljfaa", sum := "f2bb23da044cd9a2997872afef04a2b3f4c47e4fdc8b056e07e32204adab388e", func := "sumpter/sumpterlaw02.PackNumbers", spec := "packNumbers", recurses := true, apart := false, narrowed := true }
def PackNumbersUptoSaid : Prop := packNumbersUptoRow.holds Try.pinned (OpenSpec.upto packNumbersSpec)

/-- 'sumpterlaw04.SpanRights', WHERE WHAT IT READS IS OF BULK AT MOST 1048576: true; the input reads as it did. -/
def spanRightsUptoRow : OpenClaim := { program := "ytcnpfempfgljfaa", sum := "f2bb23da044cd9a2997872afef04a2b3f4c47e4fdc8b056e07e32204adab388e", func := "sumpter/sumpterlaw04.SpanRights", spec := "spanRights", apart := false, narrowed := true }
def SpanRightsUptoSaid : Prop := spanRightsUptoRow.holds Try.pinned (OpenSpec.upto spanRightsSpec)

/-- 'sumpterlaw02.PackBytes', WHERE WHAT IT READS IS OF BULK AT MOST 1048576: true; the input reads as it did. -/
def packBytesUptoRow : OpenClaim := { program := "ytcnpfempfgljfaa", sum := "f2bb23da044cd9a2997872afef04a2b3f4c47e4fdc8b056e07e32204adab388e", func := "sumpter/sumpterlaw02.PackBytes", spec := "packBytes", recurses := true, apart := false, narrowed := true }
def PackBytesUptoSaid : Prop := packBytesUptoRow.holds Try.pinned (OpenSpec.upto packBytesSpec)

/-- 'sumpterlaw02.PackCanons', WHERE WHAT IT READS IS OF BULK AT MOST 1048576: true; the input reads as it did. -/
def packCanonsUptoRow : OpenClaim := { program := "ytcnpfempfgljfaa", sum := "f2bb23da044cd9a2997872afef04a2b3f4c47e4fdc8b056e07e32204adab388e", func := "sumpter/sumpterlaw02.PackCanons", spec := "packCanons", apart := false, narrowed := true }
def PackCanonsUptoSaid : Prop := packCanonsUptoRow.holds Try.pinned (OpenSpec.upto packCanonsSpec)

/-- 'sumpterlaw02.PackRows', WHERE WHAT IT READS IS OF BULK AT MOST 1048576: true; the input reads as it did. -/
def packRowsUptoRow : OpenClaim := { program := "ytcnpfempfgljfaa", sum := "f2bb23da044cd9a2997872afef04a2b3f4c47e4fdc8b056e07e32204adab388e", func := "sumpter/sumpterlaw02.PackRows", spec := "packRows", recurses := true, apart := false, narrowed := true }
def PackRowsUptoSaid : Prop := packRowsUptoRow.holds Try.pinned (OpenSpec.upto packRowsSpec)

/-- 'sumpterlaw02.PackReads', WHERE WHAT IT READS IS OF BULK AT MOST 1048576: true; the input reads as it did. -/
def packReadsUptoRow : OpenClaim := { program := "ytcnpfempfgljfaa", sum := "f2bb23da044cd9a2997872afef04a2b3f4c47e4fdc8b056e07e32204adab388e", func := "sumpter/sumpterlaw02.PackReads", spec := "packReads", apart := false, narrowed := true }
def PackReadsUptoSaid : Prop := packReadsUptoRow.holds Try.pinned (OpenSpec.upto packReadsSpec)

/-- 'sumpterlaw02.PackNil', WHERE WHAT IT READS IS OF BULK AT MOST 1048576: true; the input reads as it did. -/
def packNilUptoRow : OpenClaim := { program := "ytcnpfempfgljfaa", sum := "f2bb23da044cd9a2997872afef04a2b3f4c47e4fdc8b056e07e32204adab388e", func := "sumpter/sumpterlaw02.PackNil", spec := "packNil", apart := false, narrowed := true }
def PackNilUptoSaid : Prop := packNilUptoRow.holds Try.pinned (OpenSpec.upto packNilSpec)

/-- 'sumpterlaw04.SpanGets', WHERE WHAT IT READS IS OF BULK AT MOST 1048576: true; the input reads as it did. -/
def spanGetsUptoRow : OpenClaim := { program := "ytcnpfempfgljfaa", sum := "f2bb23da044cd9a2997872afef04a2b3f4c47e4fdc8b056e07e32204adab388e", func := "sumpter/sumpterlaw04.SpanGets", spec := "spanGets", apart := false, narrowed := true }
def SpanGetsUptoSaid : Prop := spanGetsUptoRow.holds Try.pinned (OpenSpec.upto spanGetsSpec)

/-- 'sumpterlaw04.SpanPuts', WHERE WHAT IT READS IS OF BULK AT MOST 1048576: true; the input reads as it did. -/
def spanPutsUptoRow : OpenClaim := { program := "ytcnpfempfgljfaa", sum := "f2bb23da044cd9a2997872afef04a2b3f4c47e4fdc8b056e07e32204adab388e", func := "sumpter/sumpterlaw04.SpanPuts", spec := "spanPuts", recurses := true, apart := false, narrowed := true }
def SpanPutsUptoSaid : Prop := spanPutsUptoRow.holds Try.pinned (OpenSpec.upto spanPutsSpec)

/-- 'sumpterlaw04.SpanRows', WHERE WHAT IT READS IS OF BULK AT MOST 1048576: true; the input reads as it did. -/
def spanRowsUptoRow : OpenClaim := { program := "ytcnpfempfgljfaa", sum := "f2bb23da044cd9a2997872afef04a2b3f4c47e4fdc8b056e07e32204adab388e", func := "sumpter/sumpterlaw04.SpanRows", spec := "spanRows", apart := false, narrowed := true }
def SpanRowsUptoSaid : Prop := spanRowsUptoRow.holds Try.pinned (OpenSpec.upto spanRowsSpec)

end Rows
end Go.Proofs.Ytcnpfempfgljfaa
