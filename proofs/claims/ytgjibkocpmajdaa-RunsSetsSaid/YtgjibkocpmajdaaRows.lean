/-
  No cell of these rows narrows 'for every input' (looked for: loops, veiled, ifaces, maps, wideKeys, modest, calm, conditions, laid).
  DERIVED. THE GIVEN ROWS OF THIS SEAT. 12 by the template 'for every input the law returns true; each argument reads behind the call as it read before'; 0 by the template 'total and deterministic' (their statements: YtgjibkocpmajdaaTotals.lean).
  GIVEN WITH THE SEED: the statements are not yours to turn. If you find one false, say at which input.
  Laid BY PROGRAM, IN A SANDBOX (cutbox-rows.mjs): the forced cells as the released guide's own fill.sh prints them over the translation 0e4063ab06abdce0… (all of the seat's roots in one cut). By AI agents, Wed Nov 11 2026. No macro, syntax, notation, axiom, sorry.
-/
import Derived.Test.YtgjibkocpmajdaaChecked
import GoSem.Claim
import GoSem.ClaimJoined
import GoSem.ClaimMapViews
import Derived.JoinedTies
import Derived.KernelRfl
namespace Go.Proofs.Ytgjibkocpmajdaa
/- THE CELL 'sum', in the pinned program and in every row, IS THE sha256 OF THE DUMP (.gsa) THAT YtgjibkocpmajdaaProg.lean LOADS. Nothing in Lean hashes anything: it is a label: what it is worth is what the hold of that sum in a sandbox is worth. -/
noncomputable def Try.pinned : Pinned := { name := "ytgjibkocpmajdaa", sum := "0e4063ab06abdce0663edd31292decbab28324fe4129b130f7a2e728eb73a94f", checked := Try.checked }
namespace Rows
def none {H : Type} : Left H := { results := [], args := [] }

/-- 'sumpterlaw03.RunsMakes': WHATEVER THE INPUT: true; the input reads as it did. -/
def runsMakesSpec : ChangeSpec := { name := "runsMakes", fn := fun _ => fun
  | [d] => { results := [.lit (.bool true)], args := [d] }
  | _ => none }
def runsMakesRow : OpenClaim := { program := "ytgjibkocpmajdaa", sum := "0e4063ab06abdce0663edd31292decbab28324fe4129b130f7a2e728eb73a94f", func := "sumpter/sumpterlaw03.RunsMakes", spec := "runsMakes", unfollowed := true, recurses := true, apart := false }
def RunsMakesSaid : Prop := runsMakesRow.holds Try.pinned (OpenSpec.ofChange runsMakesSpec)

/-- ITS FALSE NEIGHBOUR: 'it returns false'. Refute it at one input. -/
def runsMakesWrong : ChangeSpec := { name := "runsMakes", fn := fun _ => fun
  | [d] => { results := [.lit (.bool false)], args := [d] }
  | _ => none }
def RunsMakesWrongFalsely : Prop := runsMakesRow.holds Try.pinned (OpenSpec.ofChange runsMakesWrong)

/-- 'sumpterlaw03.RunsGaps': WHATEVER THE INPUT: true; the input reads as it did. -/
def runsGapsSpec : ChangeSpec := { name := "runsGaps", fn := fun _ => fun
  | [d1, d2] => { results := [.lit (.bool true)], args := [d1, d2] }
  | _ => none }
def runsGapsRow : OpenClaim := { program := "ytgjibkocpmajdaa", sum := "0e4063ab06abdce0663edd31292decbab28324fe4129b130f7a2e728eb73a94f", func := "sumpter/sumpterlaw03.RunsGaps", spec := "runsGaps", unfollowed := true, recurses := true, apart := false }
def RunsGapsSaid : Prop := runsGapsRow.holds Try.pinned (OpenSpec.ofChange runsGapsSpec)

/-- ITS FALSE NEIGHBOUR: 'it returns false'. Refute it at one input. -/
def runsGapsWrong : ChangeSpec := { name := "runsGaps", fn := fun _ => fun
  | [d1, d2] => { results := [.lit (.bool false)], args := [d1, d2] }
  | _ => none }
def RunsGapsWrongFalsely : Prop := runsGapsRow.holds Try.pinned (OpenSpec.ofChange runsGapsWrong)

/-- 'sumpterlaw03.RunsSpans': WHATEVER THE INPUT: true; the input reads as it did. -/
def runsSpansSpec : ChangeSpec := { name := "runsSpans", fn := fun _ => fun
  | [d1, d2] => { results := [.lit (.bool true)], args := [d1, d2] }
  | _ => none }
def runsSpansRow : OpenClaim := { program := "ytgjibkocpmajdaa", sum := "0e4063ab06abdce0663edd31292decbab28324fe4129b130f7a2e728eb73a94f", func := "sumpter/sumpterlaw03.RunsSpans", spec := "runsSpans", inPlace := ["math/bits.Add64"], unfollowed := true, recurses := true, apart := false }
def RunsSpansSaid : Prop := runsSpansRow.holds Try.pinned (OpenSpec.ofChange runsSpansSpec)

/-- ITS FALSE NEIGHBOUR: 'it returns false'. Refute it at one input. -/
def runsSpansWrong : ChangeSpec := { name := "runsSpans", fn := fun _ => fun
  | [d1, d2] => { results := [.lit (.bool false)], args := [d1, d2] }
  | _ => none }
def RunsSpansWrongFalsely : Prop := runsSpansRow.holds Try.pinned (OpenSpec.ofChange runsSpansWrong)

/-- 'sumpterlaw03.RunsApart': WHATEVER THE INPUT: true; the input reads as it did. -/
def runsApartSpec : ChangeSpec := { name := "runsApart", fn := fun _ => fun
  | [d1, d2] => { results := [.lit (.bool true)], args := [d1, d2] }
  | _ => none }
def runsApartRow : OpenClaim := { program := "ytgjibkocpmajdaa", sum := "0e4063ab06abdce0663edd31292decbab28324fe4129b130f7a2e728eb73a94f", func := "sumpter/sumpterlaw03.RunsApart", spec := "runsApart", unfollowed := true, recurses := true, apart := false }
def RunsApartSaid : Prop := runsApartRow.holds Try.pinned (OpenSpec.ofChange runsApartSpec)

/-- ITS FALSE NEIGHBOUR: 'it returns false'. Refute it at one input. -/
def runsApartWrong : ChangeSpec := { name := "runsApart", fn := fun _ => fun
  | [d1, d2] => { results := [.lit (.bool false)], args := [d1, d2] }
  | _ => none }
def RunsApartWrongFalsely : Prop := runsApartRow.holds Try.pinned (OpenSpec.ofChange runsApartWrong)

/-- 'sumpterlaw03.RunsSets': WHATEVER THE INPUT: true; the input reads as it did. -/
def runsSetsSpec : ChangeSpec := { name := "runsSets", fn := fun _ => fun
  | [d1, d2, d3] => { results := [.lit (.bool true)], args := [d1, d2, d3] }
  | _ => none }
def runsSetsRow : OpenClaim := { program := "ytgjibkocpmajdaa", sum := "0e4063ab06abdce0663edd31292decbab28324fe4129b130f7a2e728eb73a94f", func := "sumpter/sumpterlaw03.RunsSets", spec := "runsSets", unfollowed := true, recurses := true, apart := false }
def RunsSetsSaid : Prop := runsSetsRow.holds Try.pinned (OpenSpec.ofChange runsSetsSpec)

/-- ITS FALSE NEIGHBOUR: 'it returns false'. Refute it at one input. -/
def runsSetsWrong : ChangeSpec := { name := "runsSets", fn := fun _ => fun
  | [d1, d2, d3] => { results := [.lit (.bool false)], args := [d1, d2, d3] }
  | _ => none }
def RunsSetsWrongFalsely : Prop := runsSetsRow.holds Try.pinned (OpenSpec.ofChange runsSetsWrong)

/-- 'sumpterlaw15.WindowRuns': WHATEVER THE INPUT: true; the input reads as it did. -/
def windowRunsSpec : ChangeSpec := { name := "windowRuns", fn := fun _ => fun
  | [d1, d2, d3] => { results := [.lit (.bool true)], args := [d1, d2, d3] }
  | _ => none }
def windowRunsRow : OpenClaim := { program := "ytgjibkocpmajdaa", sum := "0e4063ab06abdce0663edd31292decbab28324fe4129b130f7a2e728eb73a94f", func := "sumpter/sumpterlaw15.WindowRuns", spec := "windowRuns", unfollowed := true, recurses := true, apart := false }
def WindowRunsSaid : Prop := windowRunsRow.holds Try.pinned (OpenSpec.ofChange windowRunsSpec)

/-- ITS FALSE NEIGHBOUR: 'it returns false'. Refute it at one input. -/
def windowRunsWrong : ChangeSpec := { name := "windowRuns", fn := fun _ => fun
  | [d1, d2, d3] => { results := [.lit (.bool false)], args := [d1, d2, d3] }
  | _ => none }
def WindowRunsWrongFalsely : Prop := windowRunsRow.holds Try.pinned (OpenSpec.ofChange windowRunsWrong)

/-- 'sumpterlaw03.RunsAlgebra': WHATEVER THE INPUT: true; the input reads as it did. -/
def runsAlgebraSpec : ChangeSpec := { name := "runsAlgebra", fn := fun _ => fun
  | [d1, d2, d3] => { results := [.lit (.bool true)], args := [d1, d2, d3] }
  | _ => none }
def runsAlgebraRow : OpenClaim := { program := "ytgjibkocpmajdaa", sum := "0e4063ab06abdce0663edd31292decbab28324fe4129b130f7a2e728eb73a94f", func := "sumpter/sumpterlaw03.RunsAlgebra", spec := "runsAlgebra", inPlace := ["math/bits.Add64"], unfollowed := true, recurses := true, apart := false }
def RunsAlgebraSaid : Prop := runsAlgebraRow.holds Try.pinned (OpenSpec.ofChange runsAlgebraSpec)

/-- ITS FALSE NEIGHBOUR: 'it returns false'. Refute it at one input. -/
def runsAlgebraWrong : ChangeSpec := { name := "runsAlgebra", fn := fun _ => fun
  | [d1, d2, d3] => { results := [.lit (.bool false)], args := [d1, d2, d3] }
  | _ => none }
def RunsAlgebraWrongFalsely : Prop := runsAlgebraRow.holds Try.pinned (OpenSpec.ofChange runsAlgebraWrong)

/-- 'sumpterlaw15.WindowOnce': WHATEVER THE INPUT: true; the input reads as it did. -/
def windowOnceSpec : ChangeSpec := { name := "windowOnce", fn := fun _ => fun
  | [d1, d2] => { results := [.lit (.bool true)], args := [d1, d2] }
  | _ => none }
def windowOnceRow : OpenClaim := { program := "ytgjibkocpmajdaa", sum := "0e4063ab06abdce0663edd31292decbab28324fe4129b130f7a2e728eb73a94f", func := "sumpter/sumpterlaw15.WindowOnce", spec := "windowOnce", inPlace := ["math/bits.Add64"], unfollowed := true, recurses := true, apart := false }
def WindowOnceSaid : Prop := windowOnceRow.holds Try.pinned (OpenSpec.ofChange windowOnceSpec)

/-- ITS FALSE NEIGHBOUR: 'it returns false'. Refute it at one input. -/
def windowOnceWrong : ChangeSpec := { name := "windowOnce", fn := fun _ => fun
  | [d1, d2] => { results := [.lit (.bool false)], args := [d1, d2] }
  | _ => none }
def WindowOnceWrongFalsely : Prop := windowOnceRow.holds Try.pinned (OpenSpec.ofChange windowOnceWrong)

/-- 'sumpterlaw15.WindowPlays': WHATEVER THE INPUT: true; the input reads as it did. -/
def windowPlaysSpec : ChangeSpec := { name := "windowPlays", fn := fun _ => fun
  | [d1, d2] => { results := [.lit (.bool true)], args := [d1, d2] }
  | _ => none }
def windowPlaysRow : OpenClaim := { program := "ytgjibkocpmajdaa", sum := "0e4063ab06abdce0663edd31292decbab28324fe4129b130f7a2e728eb73a94f", func := "sumpter/sumpterlaw15.WindowPlays", spec := "windowPlays", unfollowed := true, recurses := true, apart := false }
def WindowPlaysSaid : Prop := windowPlaysRow.holds Try.pinned (OpenSpec.ofChange windowPlaysSpec)

/-- ITS FALSE NEIGHBOUR: 'it returns false'. Refute it at one input. -/
def windowPlaysWrong : ChangeSpec := { name := "windowPlays", fn := fun _ => fun
  | [d1, d2] => { results := [.lit (.bool false)], args := [d1, d2] }
  | _ => none }
def WindowPlaysWrongFalsely : Prop := windowPlaysRow.holds Try.pinned (OpenSpec.ofChange windowPlaysWrong)

/-- 'sumpterlaw15.WindowRights': WHATEVER THE INPUT: true; the input reads as it did. -/
def windowRightsSpec : ChangeSpec := { name := "windowRights", fn := fun _ => fun
  | [d1, d2, d3] => { results := [.lit (.bool true)], args := [d1, d2, d3] }
  | _ => none }
def windowRightsRow : OpenClaim := { program := "ytgjibkocpmajdaa", sum := "0e4063ab06abdce0663edd31292decbab28324fe4129b130f7a2e728eb73a94f", func := "sumpter/sumpterlaw15.WindowRights", spec := "windowRights", unfollowed := true, recurses := true, apart := false }
def WindowRightsSaid : Prop := windowRightsRow.holds Try.pinned (OpenSpec.ofChange windowRightsSpec)

/-- ITS FALSE NEIGHBOUR: 'it returns false'. Refute it at one input. -/
def windowRightsWrong : ChangeSpec := { name := "windowRights", fn := fun _ => fun
  | [d1, d2, d3] => { results := [.lit (.bool false)], args := [d1, d2, d3] }
  | _ => none }
def WindowRightsWrongFalsely : Prop := windowRightsRow.holds Try.pinned (OpenSpec.ofChange windowRightsWrong)

/-- 'sumpterlaw15.WindowOrders': WHATEVER THE INPUT: true; the input reads as it did. -/
def windowOrdersSpec : ChangeSpec := { name := "windowOrders", fn := fun _ => fun
  | [d1, d2, d3] => { results := [.lit (.bool true)], args := [d1, d2, d3] }
  | _ => none }
def windowOrdersRow : OpenClaim := { program := "ytgjibkocpmajdaa", sum := "0e4063ab06abdce0663edd31292decbab28324fe4129b130f7a2e728eb73a94f", func := "sumpter/sumpterlaw15.WindowOrders", spec := "windowOrders", inPlace := ["math/bits.Add64"], unfollowed := true, recurses := true, apart := false }
def WindowOrdersSaid : Prop := windowOrdersRow.holds Try.pinned (OpenSpec.ofChange windowOrdersSpec)

/-- ITS FALSE NEIGHBOUR: 'it returns false'. Refute it at one input. -/
def windowOrdersWrong : ChangeSpec := { name := "windowOrders", fn := fun _ => fun
  | [d1, d2, d3] => { results := [.lit (.bool false)], args := [d1, d2, d3] }
  | _ => none }
def WindowOrdersWrongFalsely : Prop := windowOrdersRow.holds Try.pinned (OpenSpec.ofChange windowOrdersWrong)

/-- 'sumpterlaw03.RunsNumbers': WHATEVER THE INPUT: true; the input reads as it did. -/
def runsNumbersSpec : ChangeSpec := { name := "runsNumbers", fn := fun _ => fun
  | [d1, d2] => { results := [.lit (.bool true)], args := [d1, d2] }
  | _ => none }
def runsNumbersRow : OpenClaim := { program := "ytgjibkocpmajdaa", sum := "0e4063ab06abdce0663edd31292decbab28324fe4129b130f7a2e728eb73a94f", func := "sumpter/sumpterlaw03.RunsNumbers", spec := "runsNumbers", inPlace := ["math/bits.Add64"], unfollowed := true, recurses := true, apart := false }
def RunsNumbersSaid : Prop := runsNumbersRow.holds Try.pinned (OpenSpec.ofChange runsNumbersSpec)

/-- ITS FALSE NEIGHBOUR: 'it returns false'. Refute it at one input. -/
def runsNumbersWrong : ChangeSpec := { name := "runsNumbers", fn := fun _ => fun
  | [d1, d2] => { results := [.lit (.bool false)], args := [d1, d2] }
  | _ => none }
def RunsNumbersWrongFalsely : Prop := runsNumbersRow.holds Try.pinned (OpenSpec.ofChange runsNumbersWrong)

/- THE SECOND FORM. 'bulk': how many values and letters a reading holds, each counted each time it is reached (what is shared counts as often as it is met; a slice's spare places count too). A statement '..UptoSaid' is the law's where the arguments, and the package variables that the reading takes, are together of bulk at most 1048576: NARROWER than '..Said'. Prove '..Said' where nothing that the law and all that it calls make is longer than what came in: it says more and counts as full. Else prove '..UptoSaid'. A law counts once. -/
mutual
def uptoBulk {H : Type} : DataW H → Nat
  | .lit (.string bytes) => bytes.length + 1
  | .lit _ => 1
  | .nil => 1
  | .ptr d => uptoBulk d + 1
  | .slice elems spare => uptoBulkAll elems + uptoBulkAll spare + 1
  | .agg parts => uptoBulkAll parts + 1
  | .iface _ d => uptoBulk d + 1
  | .map entries => uptoBulkEntries entries + 1
  | .held _ => 1
def uptoBulkAll {H : Type} : List (DataW H) → Nat
  | [] => 0
  | d :: r => uptoBulk d + uptoBulkAll r
def uptoBulkEntries {H : Type} : List (Lit × DataW H) → Nat
  | [] => 0
  | x :: r => uptoBulkEntry x + uptoBulkEntries r
def uptoBulkEntry {H : Type} : Lit × DataW H → Nat
  | (.string bytes, d) => bytes.length + uptoBulk d + 1
  | (_, d) => uptoBulk d + 1
 end
def uptoSmall : (H : Type) → List (DataW H) → Bool := fun _ ds => decide (uptoBulkAll ds ≤ 1048576)
def OpenSpec.upto (s : _root_.Go.ChangeSpec) : _root_.Go.OpenSpec := { _root_.Go.OpenSpec.ofChange s with cond := some uptoSmall }

/-- 'sumpterlaw03.RunsMakes', WHERE WHAT IT READS IS OF BULK AT MOST 1048576: true; the input reads as it did. -/
def runsMakesUptoRow : OpenClaim := { program := "ytgjibkocpmajdaa", sum := "0e4063ab06abdce0663edd31292decbab28324fe4129b130f7a2e728eb73a94f", func := "sumpter/sumpterlaw03.RunsMakes", spec := "runsMakes", unfollowed := true, recurses := true, apart := false, narrowed := true }
def RunsMakesUptoSaid : Prop := runsMakesUptoRow.holds Try.pinned (OpenSpec.upto runsMakesSpec)

/-- 'sumpterlaw03.RunsGaps', WHERE WHAT IT READS IS OF BULK AT MOST 1048576: true; the input reads as it did. -/
def runsGapsUptoRow : OpenClaim := { program := "ytgjibkocpmajdaa", sum := "0e4063ab06abdce0663edd31292decbab28324fe4129b130f7a2e728eb73a94f", func := "sumpter/sumpterlaw03.RunsGaps", spec := "runsGaps", unfollowed := true, recurses := true, apart := false, narrowed := true }
def RunsGapsUptoSaid : Prop := runsGapsUptoRow.holds Try.pinned (OpenSpec.upto runsGapsSpec)

/-- 'sumpterlaw03.RunsSpans', WHERE WHAT IT READS IS OF BULK AT MOST 1048576: true; the input reads as it did. -/
def runsSpansUptoRow : OpenClaim := { program := "ytgjibkocpmajdaa", sum := "0e4063ab06abdce0663edd31292decbab28324fe4129b130f7a2e728eb73a94f", func := "sumpter/sumpterlaw03.RunsSpans", spec := "runsSpans", inPlace := ["math/bits.Add64"], unfollowed := true, recurses := true, apart := false, narrowed := true }
def RunsSpansUptoSaid : Prop := runsSpansUptoRow.holds Try.pinned (OpenSpec.upto runsSpansSpec)

/-- 'sumpterlaw03.RunsApart', WHERE WHAT IT READS IS OF BULK AT MOST 1048576: true; the input reads as it did. -/
def runsApartUptoRow : OpenClaim := { program := "ytgjibkocpmajdaa", sum := "0e4063ab06abdce0663edd31292decbab28324fe4129b130f7a2e728eb73a94f", func := "sumpter/sumpterlaw03.RunsApart", spec := "runsApart", unfollowed := true, recurses := true, apart := false, narrowed := true }
def RunsApartUptoSaid : Prop := runsApartUptoRow.holds Try.pinned (OpenSpec.upto runsApartSpec)

/-- 'sumpterlaw03.RunsSets', WHERE WHAT IT READS IS OF BULK AT MOST 1048576: true; the input reads as it did. -/
def runsSetsUptoRow : OpenClaim := { program := "ytgjibkocpmajdaa", sum := "0e4063ab06abdce0663edd31292decbab28324fe4129b130f7a2e728eb73a94f", func := "sumpter/sumpterlaw03.RunsSets", spec := "runsSets", unfollowed := true, recurses := true, apart := false, narrowed := true }
def RunsSetsUptoSaid : Prop := runsSetsUptoRow.holds Try.pinned (OpenSpec.upto runsSetsSpec)

/-- 'sumpterlaw15.WindowRuns', WHERE WHAT IT READS IS OF BULK AT MOST 1048576: true; the input reads as it did. -/
def windowRunsUptoRow : OpenClaim := { program := "ytgjibkocpmajdaa", sum := "0e4063ab06abdce0663edd31292decbab28324fe4129b130f7a2e728eb73a94f", func := "sumpter/sumpterlaw15.WindowRuns", spec := "windowRuns", unfollowed := true, recurses := true, apart := false, narrowed := true }
def WindowRunsUptoSaid : Prop := windowRunsUptoRow.holds Try.pinned (OpenSpec.upto windowRunsSpec)

/-- 'sumpterlaw03.RunsAlgebra', WHERE WHAT IT READS IS OF BULK AT MOST 1048576: true; the input reads as it did. -/
def runsAlgebraUptoRow : OpenClaim := { program := "ytgjibkocpmajdaa", sum := "0e4063ab06abdce0663edd31292decbab28324fe4129b130f7a2e728eb73a94f", func := "sumpter/sumpterlaw03.RunsAlgebra", spec := "runsAlgebra", inPlace := ["math/bits.Add64"], unfollowed := true, recurses := true, apart := false, narrowed := true }
def RunsAlgebraUptoSaid : Prop := runsAlgebraUptoRow.holds Try.pinned (OpenSpec.upto runsAlgebraSpec)

/-- 'sumpterlaw15.WindowOnce', WHERE WHAT IT READS IS OF BULK AT MOST 1048576: true; the input reads as it did. -/
def windowOnceUptoRow : OpenClaim := { program := "ytgjibkocpmajdaa", sum := "0e4063ab06abdce0663edd31292decbab28324fe4129b130f7a2e728eb73a94f", func := "sumpter/sumpterlaw15.WindowOnce", spec := "windowOnce", inPlace := ["math/bits.Add64"], unfollowed := true, recurses := true, apart := false, narrowed := true }
def WindowOnceUptoSaid : Prop := windowOnceUptoRow.holds Try.pinned (OpenSpec.upto windowOnceSpec)

/-- 'sumpterlaw15.WindowPlays', WHERE WHAT IT READS IS OF BULK AT MOST 1048576: true; the input reads as it did. -/
def windowPlaysUptoRow : OpenClaim := { program := "ytgjibkocpmajdaa", sum := "0e4063ab06abdce0663edd31292decbab28324fe4129b130f7a2e728eb73a94f", func := "sumpter/sumpterlaw15.WindowPlays", spec := "windowPlays", unfollowed := true, recurses := true, apart := false, narrowed := true }
def WindowPlaysUptoSaid : Prop := windowPlaysUptoRow.holds Try.pinned (OpenSpec.upto windowPlaysSpec)

/-- 'sumpterlaw15.WindowRights', WHERE WHAT IT READS IS OF BULK AT MOST 1048576: true; the input reads as it did. -/
def windowRightsUptoRow : OpenClaim := { program := "ytgjibkocpmajdaa", sum := "0e4063ab06abdce0663edd31292decbab28324fe4129b130f7a2e728eb73a94f", func := "sumpter/sumpterlaw15.WindowRights", spec := "windowRights", unfollowed := true, recurses := true, apart := false, narrowed := true }
def WindowRightsUptoSaid : Prop := windowRightsUptoRow.holds Try.pinned (OpenSpec.upto windowRightsSpec)

/-- 'sumpterlaw15.WindowOrders', WHERE WHAT IT READS IS OF BULK AT MOST 1048576: true; the input reads as it did. -/
def windowOrdersUptoRow : OpenClaim := { program := "ytgjibkocpmajdaa", sum := "0e4063ab06abdce0663edd31292decbab28324fe4129b130f7a2e728eb73a94f", func := "sumpter/sumpterlaw15.WindowOrders", spec := "windowOrders", inPlace := ["math/bits.Add64"], unfollowed := true, recurses := true, apart := false, narrowed := true }
def WindowOrdersUptoSaid : Prop := windowOrdersUptoRow.holds Try.pinned (OpenSpec.upto windowOrdersSpec)

/-- 'sumpterlaw03.RunsNumbers', WHERE WHAT IT READS IS OF BULK AT MOST 1048576: true; the input reads as it did. -/
def runsNumbersUptoRow : OpenClaim := { program := "ytgjibkocpmajdaa", sum := "0e4063ab06abdce0663edd31292decbab28324fe4129b130f7a2e728eb73a94f", func := "sumpter/sumpterlaw03.RunsNumbers", spec := "runsNumbers", inPlace := ["math/bits.Add64"], unfollowed := true, recurses := true, apart := false, narrowed := true }
def RunsNumbersUptoSaid : Prop := runsNumbersUptoRow.holds Try.pinned (OpenSpec.upto runsNumbersSpec)

end Rows
end Go.Proofs.Ytgjibkocpmajdaa
