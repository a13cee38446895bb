/-
  No cell of these rows narrows 'for every input' (looked for: loops, veiled, ifaces, maps, wideKeys, modest, calm, conditions, laid).
  DERIVED. THE GIVEN ROWS OF THIS SEAT. 9 by the template 'for every input the law returns true; each argument reads behind the call as it read before'; 0 by the template 'total and deterministic' (their statements: YtdoclecibanaoaaTotals.lean).
  GIVEN WITH THE SEED: the statements are not yours to turn. If you find one false, say at which input.
  Laid BY PROGRAM, IN A SANDBOX (cutbox-rows.mjs): the forced cells as the released guide's own fill.sh prints them over the translation 497ad9cc5c989ae7… (all of the seat's roots in one cut). By AI agents, Wed Nov 11 2026. No macro, syntax, notation, axiom, sorry.
-/
import Derived.Test.YtdoclecibanaoaaChecked
import GoSem.Claim
import GoSem.ClaimJoined
import GoSem.ClaimMapViews
import Derived.JoinedTies
import Derived.KernelRfl
namespace Go.Proofs.Ytdoclecibanaoaa
/- THE CELL 'sum', in the pinned program and in every row, IS THE sha256 OF THE DUMP (.gsa) THAT YtdoclecibanaoaaProg.lean LOADS. Nothing in Lean hashes anything: it is a label: what it is worth is what the hold of that sum in a sandbox is worth. -/
noncomputable def Try.pinned : Pinned := { name := "ytdoclecibanaoaa", sum := "497ad9cc5c989ae7ea3506853e8d6ffed25505ecd680007b054b657a67639085", checked := Try.checked }
namespace Rows
def none {H : Type} : Left H := { results := [], args := [] }

/-- 'sumpterlaw01.MarkSums': WHATEVER THE INPUT: true; the input reads as it did. -/
def markSumsSpec : ChangeSpec := { name := "markSums", fn := fun _ => fun
  | [d1, d2] => { results := [.lit (.bool true)], args := [d1, d2] }
  | _ => none }
def markSumsRow : OpenClaim := { program := "ytdoclecibanaoaa", sum := "497ad9cc5c989ae7ea3506853e8d6ffed25505ecd680007b054b657a67639085", func := "sumpter/sumpterlaw01.MarkSums", spec := "markSums", apart := false }
def MarkSumsSaid : Prop := markSumsRow.holds Try.pinned (OpenSpec.ofChange markSumsSpec)

/-- ITS FALSE NEIGHBOUR: 'it returns false'. Refute it at one input. -/
def markSumsWrong : ChangeSpec := { name := "markSums", fn := fun _ => fun
  | [d1, d2] => { results := [.lit (.bool false)], args := [d1, d2] }
  | _ => none }
def MarkSumsWrongFalsely : Prop := markSumsRow.holds Try.pinned (OpenSpec.ofChange markSumsWrong)

/-- 'sumpterlaw01.MarkParts': WHATEVER THE INPUT: true; the input reads as it did. -/
def markPartsSpec : ChangeSpec := { name := "markParts", fn := fun _ => fun
  | [d1, d2, d3] => { results := [.lit (.bool true)], args := [d1, d2, d3] }
  | _ => none }
def markPartsRow : OpenClaim := { program := "ytdoclecibanaoaa", sum := "497ad9cc5c989ae7ea3506853e8d6ffed25505ecd680007b054b657a67639085", func := "sumpter/sumpterlaw01.MarkParts", spec := "markParts", apart := false }
def MarkPartsSaid : Prop := markPartsRow.holds Try.pinned (OpenSpec.ofChange markPartsSpec)

/-- ITS FALSE NEIGHBOUR: 'it returns false'. Refute it at one input. -/
def markPartsWrong : ChangeSpec := { name := "markParts", fn := fun _ => fun
  | [d1, d2, d3] => { results := [.lit (.bool false)], args := [d1, d2, d3] }
  | _ => none }
def MarkPartsWrongFalsely : Prop := markPartsRow.holds Try.pinned (OpenSpec.ofChange markPartsWrong)

/-- 'sumpterlaw11.PauseWaits': WHATEVER THE INPUT: true; the input reads as it did. -/
def pauseWaitsSpec : ChangeSpec := { name := "pauseWaits", fn := fun _ => fun
  | [d1, d2, d3] => { results := [.lit (.bool true)], args := [d1, d2, d3] }
  | _ => none }
def pauseWaitsRow : OpenClaim := { program := "ytdoclecibanaoaa", sum := "497ad9cc5c989ae7ea3506853e8d6ffed25505ecd680007b054b657a67639085", func := "sumpter/sumpterlaw11.PauseWaits", spec := "pauseWaits", apart := false }
def PauseWaitsSaid : Prop := pauseWaitsRow.holds Try.pinned (OpenSpec.ofChange pauseWaitsSpec)

/-- ITS FALSE NEIGHBOUR: 'it returns false'. Refute it at one input. -/
def pauseWaitsWrong : ChangeSpec := { name := "pauseWaits", fn := fun _ => fun
  | [d1, d2, d3] => { results := [.lit (.bool false)], args := [d1, d2, d3] }
  | _ => none }
def PauseWaitsWrongFalsely : Prop := pauseWaitsRow.holds Try.pinned (OpenSpec.ofChange pauseWaitsWrong)

/-- 'sumpterlaw11.PauseSums': WHATEVER THE INPUT: true; the input reads as it did. -/
def pauseSumsSpec : ChangeSpec := { name := "pauseSums", fn := fun _ => fun
  | [d1, d2, d3, d4] => { results := [.lit (.bool true)], args := [d1, d2, d3, d4] }
  | _ => none }
def pauseSumsRow : OpenClaim := { program := "ytdoclecibanaoaa", sum := "497ad9cc5c989ae7ea3506853e8d6ffed25505ecd680007b054b657a67639085", func := "sumpter/sumpterlaw11.PauseSums", spec := "pauseSums", apart := false }
def PauseSumsSaid : Prop := pauseSumsRow.holds Try.pinned (OpenSpec.ofChange pauseSumsSpec)

/-- ITS FALSE NEIGHBOUR: 'it returns false'. Refute it at one input. -/
def pauseSumsWrong : ChangeSpec := { name := "pauseSums", fn := fun _ => fun
  | [d1, d2, d3, d4] => { results := [.lit (.bool false)], args := [d1, d2, d3, d4] }
  | _ => none }
def PauseSumsWrongFalsely : Prop := pauseSumsRow.holds Try.pinned (OpenSpec.ofChange pauseSumsWrong)

/-- 'sumpterlaw11.PauseRights': WHATEVER THE INPUT: true; the input reads as it did. -/
def pauseRightsSpec : ChangeSpec := { name := "pauseRights", fn := fun _ => fun
  | [d] => { results := [.lit (.bool true)], args := [d] }
  | _ => none }
def pauseRightsRow : OpenClaim := { program := "ytdoclecibanaoaa", sum := "497ad9cc5c989ae7ea3506853e8d6ffed25505ecd680007b054b657a67639085", func := "sumpter/sumpterlaw11.PauseRights", spec := "pauseRights", apart := false }
def PauseRightsSaid : Prop := pauseRightsRow.holds Try.pinned (OpenSpec.ofChange pauseRightsSpec)

/-- ITS FALSE NEIGHBOUR: 'it returns false'. Refute it at one input. -/
def pauseRightsWrong : ChangeSpec := { name := "pauseRights", fn := fun _ => fun
  | [d] => { results := [.lit (.bool false)], args := [d] }
  | _ => none }
def PauseRightsWrongFalsely : Prop := pauseRightsRow.holds Try.pinned (OpenSpec.ofChange pauseRightsWrong)

/-- 'sumpterlaw11.PauseOrders': WHATEVER THE INPUT: true; the input reads as it did. -/
def pauseOrdersSpec : ChangeSpec := { name := "pauseOrders", fn := fun _ => fun
  | [d1, d2, d3, d4] => { results := [.lit (.bool true)], args := [d1, d2, d3, d4] }
  | _ => none }
def pauseOrdersRow : OpenClaim := { program := "ytdoclecibanaoaa", sum := "497ad9cc5c989ae7ea3506853e8d6ffed25505ecd680007b054b657a67639085", func := "sumpter/sumpterlaw11.PauseOrders", spec := "pauseOrders", apart := false }
def PauseOrdersSaid : Prop := pauseOrdersRow.holds Try.pinned (OpenSpec.ofChange pauseOrdersSpec)

/-- ITS FALSE NEIGHBOUR: 'it returns false'. Refute it at one input. -/
def pauseOrdersWrong : ChangeSpec := { name := "pauseOrders", fn := fun _ => fun
  | [d1, d2, d3, d4] => { results := [.lit (.bool false)], args := [d1, d2, d3, d4] }
  | _ => none }
def PauseOrdersWrongFalsely : Prop := pauseOrdersRow.holds Try.pinned (OpenSpec.ofChange pauseOrdersWrong)

/-- 'sumpterlaw01.MarkCloses': WHATEVER THE INPUT: true; the input reads as it did. -/
def markClosesSpec : ChangeSpec := { name := "markCloses", fn := fun _ => fun
  | [d] => { results := [.lit (.bool true)], args := [d] }
  | _ => none }
def markClosesRow : OpenClaim := { program := "ytdoclecibanaoaa", sum := "497ad9cc5c989ae7ea3506853e8d6ffed25505ecd680007b054b657a67639085", func := "sumpter/sumpterlaw01.MarkCloses", spec := "markCloses", apart := false }
def MarkClosesSaid : Prop := markClosesRow.holds Try.pinned (OpenSpec.ofChange markClosesSpec)

/-- ITS FALSE NEIGHBOUR: 'it returns false'. Refute it at one input. -/
def markClosesWrong : ChangeSpec := { name := "markCloses", fn := fun _ => fun
  | [d] => { results := [.lit (.bool false)], args := [d] }
  | _ => none }
def MarkClosesWrongFalsely : Prop := markClosesRow.holds Try.pinned (OpenSpec.ofChange markClosesWrong)

/-- 'sumpterlaw01.MarkOpens': WHATEVER THE INPUT: true; the input reads as it did. -/
def markOpensSpec : ChangeSpec := { name := "markOpens", fn := fun _ => fun
  | [d] => { results := [.lit (.bool true)], args := [d] }
  | _ => none }
def markOpensRow : OpenClaim := { program := "ytdoclecibanaoaa", sum := "497ad9cc5c989ae7ea3506853e8d6ffed25505ecd680007b054b657a67639085", func := "sumpter/sumpterlaw01.MarkOpens", spec := "markOpens", apart := false }
def MarkOpensSaid : Prop := markOpensRow.holds Try.pinned (OpenSpec.ofChange markOpensSpec)

/-- ITS FALSE NEIGHBOUR: 'it returns false'. Refute it at one input. -/
def markOpensWrong : ChangeSpec := { name := "markOpens", fn := fun _ => fun
  | [d] => { results := [.lit (.bool false)], args := [d] }
  | _ => none }
def MarkOpensWrongFalsely : Prop := markOpensRow.holds Try.pinned (OpenSpec.ofChange markOpensWrong)

/-- 'sumpterlaw01.MarkShows': WHATEVER THE INPUT: true; the input reads as it did. -/
def markShowsSpec : ChangeSpec := { name := "markShows", fn := fun _ => fun
  | [d1, d2, d3] => { results := [.lit (.bool true)], args := [d1, d2, d3] }
  | _ => none }
def markShowsRow : OpenClaim := { program := "ytdoclecibanaoaa", sum := "497ad9cc5c989ae7ea3506853e8d6ffed25505ecd680007b054b657a67639085", func := "sumpter/sumpterlaw01.MarkShows", spec := "markShows", apart := false }
def MarkShowsSaid : Prop := markShowsRow.holds Try.pinned (OpenSpec.ofChange markShowsSpec)

/-- ITS FALSE NEIGHBOUR: 'it returns false'. Refute it at one input. -/
def markShowsWrong : ChangeSpec := { name := "markShows", fn := fun _ => fun
  | [d1, d2, d3] => { results := [.lit (.bool false)], args := [d1, d2, d3] }
  | _ => none }
def MarkShowsWrongFalsely : Prop := markShowsRow.holds Try.pinned (OpenSpec.ofChange markShowsWrong)

/- THE SECOND FORM. 'bulk': how many values and letters a reading holds, each counted each time it is reached (what is shared counts as often as it is met; a slice's spare places count too). A statement '..UptoSaid' is the law's where the arguments, and the package variables that the reading takes, are together of bulk at most 1048576: NARROWER than '..Said'. Prove '..Said' where nothing that the law and all that it calls make is longer than what came in: it says more and counts as full. Else prove '..UptoSaid'. A law counts once. -/
mutual
def uptoBulk {H : Type} : DataW H → Nat
  | .lit (.string bytes) => bytes.length + 1
  | .lit _ => 1
  | .nil => 1
  | .ptr d => uptoBulk d + 1
  | .slice elems spare => uptoBulkAll elems + uptoBulkAll spare + 1
  | .agg parts => uptoBulkAll parts + 1
  | .iface _ d => uptoBulk d + 1
  | .map entries => uptoBulkEntries entries + 1
  | .held _ => 1
def uptoBulkAll {H : Type} : List (DataW H) → Nat
  | [] => 0
  | d :: r => uptoBulk d + uptoBulkAll r
def uptoBulkEntries {H : Type} : List (Lit × DataW H) → Nat
  | [] => 0
  | x :: r => uptoBulkEntry x + uptoBulkEntries r
def uptoBulkEntry {H : Type} : Lit × DataW H → Nat
  | (.string bytes, d) => bytes.length + uptoBulk d + 1
  | (_, d) => uptoBulk d + 1
 end
def uptoSmall : (H : Type) → List (DataW H) → Bool := fun _ ds => decide (uptoBulkAll ds ≤ 1048576)
def OpenSpec.upto (s : _root_.Go.ChangeSpec) : _root_.Go.OpenSpec := { _root_.Go.OpenSpec.ofChange s with cond := some uptoSmall }

/-- 'sumpterlaw01.MarkSums', WHERE WHAT IT READS IS OF BULK AT MOST 1048576: true; the input reads as it did. -/
def markSumsUptoRow : OpenClaim := { program := "ytdoclecibanaoaa", sum := "497ad9cc5c989ae7ea3506853e8d6ffed25505ecd680007b054b657a67639085", func := "sumpter/sumpterlaw01.MarkSums", spec := "markSums", apart := false, narrowed := true }
def MarkSumsUptoSaid : Prop := markSumsUptoRow.holds Try.pinned (OpenSpec.upto markSumsSpec)

/-- 'sumpterlaw01.MarkParts', WHERE WHAT IT READS IS OF BULK AT MOST 1048576: true; the input reads as it did. -/
def markPartsUptoRow : OpenClaim := { program := "ytdoclecibanaoaa", sum := "497ad9cc5c989ae7ea3506853e8d6ffed25505ecd680007b054b657a67639085", func := "sumpter/sumpterlaw01.MarkParts", spec := "markParts", apart := false, narrowed := true }
def MarkPartsUptoSaid : Prop := markPartsUptoRow.holds Try.pinned (OpenSpec.upto markPartsSpec)

/-- 'sumpterlaw11.PauseWaits', WHERE WHAT IT READS IS OF BULK AT MOST 1048576: true; the input reads as it did. -/
def pauseWaitsUptoRow : OpenClaim := { program := "ytdoclecibanaoaa", sum := "497ad9cc5c989ae7ea3506853e8d6ffed25505ecd680007b054b657a67639085", func := "sumpter/sumpterlaw11.PauseWaits", spec := "pauseWaits", apart := false, narrowed := true }
def PauseWaitsUptoSaid : Prop := pauseWaitsUptoRow.holds Try.pinned (OpenSpec.upto pauseWaitsSpec)

/-- 'sumpterlaw11.PauseSums', WHERE WHAT IT READS IS OF BULK AT MOST 1048576: true; the input reads as it did. -/
def pauseSumsUptoRow : OpenClaim := { program := "ytdoclecibanaoaa", sum := "497ad9cc5c989ae7ea3506853e8d6ffed25505ecd680007b054b657a67639085", func := "sumpter/sumpterlaw11.PauseSums", spec := "pauseSums", apart := false, narrowed := true }
def PauseSumsUptoSaid : Prop := pauseSumsUptoRow.holds Try.pinned (OpenSpec.upto pauseSumsSpec)

/-- 'sumpterlaw11.PauseRights', WHERE WHAT IT READS IS OF BULK AT MOST 1048576: true; the input reads as it did. -/
def pauseRightsUptoRow : OpenClaim := { program := "ytdoclecibanaoaa", sum := "497ad9cc5c989ae7ea3506853e8d6ffed25505ecd680007b054b657a67639085", func := "sumpter/sumpterlaw11.PauseRights", spec := "pauseRights", apart := false, narrowed := true }
def PauseRightsUptoSaid : Prop := pauseRightsUptoRow.holds Try.pinned (OpenSpec.upto pauseRightsSpec)

/-- 'sumpterlaw11.PauseOrders', WHERE WHAT IT READS IS OF BULK AT MOST 1048576: true; the input reads as it did. -/
def pauseOrdersUptoRow : OpenClaim := { program := "ytdoclecibanaoaa", sum := "497ad9cc5c989ae7ea3506853e8d6ffed25505ecd680007b054b657a67639085", func := "sumpter/sumpterlaw11.PauseOrders", spec := "pauseOrders", apart := false, narrowed := true }
def PauseOrdersUptoSaid : Prop := pauseOrdersUptoRow.holds Try.pinned (OpenSpec.upto pauseOrdersSpec)

/-- 'sumpterlaw01.MarkCloses', WHERE WHAT IT READS IS OF BULK AT MOST 1048576: true; the input reads as it did. -/
def markClosesUptoRow : OpenClaim := { program := "ytdoclecibanaoaa", sum := "497ad9cc5c989ae7ea3506853e8d6ffed25505ecd680007b054b657a67639085", func := "sumpter/sumpterlaw01.MarkCloses", spec := "markCloses", apart := false, narrowed := true }
def MarkClosesUptoSaid : Prop := markClosesUptoRow.holds Try.pinned (OpenSpec.upto markClosesSpec)

/-- 'sumpterlaw01.MarkOpens', WHERE WHAT IT READS IS OF BULK AT MOST 1048576: true; the input reads as it did. -/
def markOpensUptoRow : OpenClaim := { program := "ytdoclecibanaoaa", sum := "497ad9cc5c989ae7ea3506853e8d6ffed25505ecd680007b054b657a67639085", func := "sumpter/sumpterlaw01.MarkOpens", spec := "markOpens", apart := false, narrowed := true }
def MarkOpensUptoSaid : Prop := markOpensUptoRow.holds Try.pinned (OpenSpec.upto markOpensSpec)

/-- 'sumpterlaw01.MarkShows', WHERE WHAT IT READS IS OF BULK AT MOST 1048576: true; the input reads as it did. -/
def markShowsUptoRow : OpenClaim := { program := "ytdoclecibanaoaa", sum := "497ad9cc5c989ae7ea3506853e8d6ffed25505ecd680007b054b657a67639085", func := "sumpter/sumpterlaw01.MarkShows", spec := "markShows", apart := false, narrowed := true }
def MarkShowsUptoSaid : Prop := markShowsUptoRow.holds Try.pinned (OpenSpec.upto markShowsSpec)

end Rows
end Go.Proofs.Ytdoclecibanaoaa
