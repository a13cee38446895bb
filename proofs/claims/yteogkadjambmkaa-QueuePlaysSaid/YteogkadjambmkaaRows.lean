/-
  No cell of these rows narrows 'for every input' (looked for: loops, veiled, ifaces, maps, wideKeys, modest, calm, conditions, laid).
  DERIVED. THE GIVEN ROWS OF THIS SEAT. 10 by the template 'for every input the law returns true; each argument reads behind the call as it read before'; 0 by the template 'total and deterministic' (their statements: YteogkadjambmkaaTotals.lean).
  GIVEN WITH THE SEED: the statements are not yours to turn. If you find one false, say at which input.
  Laid BY PROGRAM, IN A SANDBOX (cutbox-rows.mjs): the forced cells as the released guide's own fill.sh prints them over the translation d818bd49d9a25353… (all of the seat's roots in one cut). By AI agents, Wed Nov 11 2026. No macro, syntax, notation, axiom, sorry.
-/
import Derived.Test.YteogkadjambmkaaChecked
import GoSem.Claim
import GoSem.ClaimJoined
import GoSem.ClaimMapViews
import Derived.JoinedTies
import Derived.KernelRfl
namespace Go.Proofs.Yteogkadjambmkaa
/- THE CELL 'sum', in the pinned program and in every row, IS THE sha256 OF THE DUMP (.gsa) THAT YteogkadjambmkaaProg.lean LOADS. Nothing in Lean hashes anything: it is a label: what it is worth is what the hold of that sum in a sandbox is worth. -/
noncomputable def Try.pinned : Pinned := { name := "yteogkadjambmkaa", sum := "d818bd49d9a253534fc73e0cf38433ebddd2fcf7dcd7bb2302c5acf8ae8a842d", checked := Try.checked }
namespace Rows
def none {H : Type} : Left H := { results := [], args := [] }

/-- 'sumpterlaw08.SharePlans': WHATEVER THE INPUT: true; the input reads as it did. -/
def sharePlansSpec : ChangeSpec := { name := "sharePlans", fn := fun _ => fun
  | [d1, d2, d3, d4, d5] => { results := [.lit (.bool true)], args := [d1, d2, d3, d4, d5] }
  | _ => none }
def sharePlansRow : OpenClaim := { program := "yteogkadjambmkaa", sum := "d818bd49d9a253534fc73e0cf38433ebddd2fcf7dcd7bb2302c5acf8ae8a842d", func := "sumpter/sumpterlaw08.SharePlans", spec := "sharePlans", unfollowed := true, recurses := true, apart := false }
def SharePlansSaid : Prop := sharePlansRow.holds Try.pinned (OpenSpec.ofChange sharePlansSpec)

/-- ITS FALSE NEIGHBOUR: 'it returns false'. Refute it at one input. -/
def sharePlansWrong : ChangeSpec := { name := "sharePlans", fn := fun _ => fun
  | [d1, d2, d3, d4, d5] => { results := [.lit (.bool false)], args := [d1, d2, d3, d4, d5] }
  | _ => none }
def SharePlansWrongFalsely : Prop := sharePlansRow.holds Try.pinned (OpenSpec.ofChange sharePlansWrong)

/-- 'sumpterlaw08.ShareEnough': WHATEVER THE INPUT: true; the input reads as it did. -/
def shareEnoughSpec : ChangeSpec := { name := "shareEnough", fn := fun _ => fun
  | [d1, d2, d3, d4, d5] => { results := [.lit (.bool true)], args := [d1, d2, d3, d4, d5] }
  | _ => none }
def shareEnoughRow : OpenClaim := { program := "yteogkadjambmkaa", sum := "d818bd49d9a253534fc73e0cf38433ebddd2fcf7dcd7bb2302c5acf8ae8a842d", func := "sumpter/sumpterlaw08.ShareEnough", spec := "shareEnough", unfollowed := true, recurses := true, apart := false }
def ShareEnoughSaid : Prop := shareEnoughRow.holds Try.pinned (OpenSpec.ofChange shareEnoughSpec)

/-- ITS FALSE NEIGHBOUR: 'it returns false'. Refute it at one input. -/
def shareEnoughWrong : ChangeSpec := { name := "shareEnough", fn := fun _ => fun
  | [d1, d2, d3, d4, d5] => { results := [.lit (.bool false)], args := [d1, d2, d3, d4, d5] }
  | _ => none }
def ShareEnoughWrongFalsely : Prop := shareEnoughRow.holds Try.pinned (OpenSpec.ofChange shareEnoughWrong)

/-- 'sumpterlaw08.ShareFair': WHATEVER THE INPUT: true; the input reads as it did. -/
def shareFairSpec : ChangeSpec := { name := "shareFair", fn := fun _ => fun
  | [d1, d2, d3, d4, d5] => { results := [.lit (.bool true)], args := [d1, d2, d3, d4, d5] }
  | _ => none }
def shareFairRow : OpenClaim := { program := "yteogkadjambmkaa", sum := "d818bd49d9a253534fc73e0cf38433ebddd2fcf7dcd7bb2302c5acf8ae8a842d", func := "sumpter/sumpterlaw08.ShareFair", spec := "shareFair", unfollowed := true, recurses := true, apart := false }
def ShareFairSaid : Prop := shareFairRow.holds Try.pinned (OpenSpec.ofChange shareFairSpec)

/-- ITS FALSE NEIGHBOUR: 'it returns false'. Refute it at one input. -/
def shareFairWrong : ChangeSpec := { name := "shareFair", fn := fun _ => fun
  | [d1, d2, d3, d4, d5] => { results := [.lit (.bool false)], args := [d1, d2, d3, d4, d5] }
  | _ => none }
def ShareFairWrongFalsely : Prop := shareFairRow.holds Try.pinned (OpenSpec.ofChange shareFairWrong)

/-- 'sumpterlaw08.ShareExcess': WHATEVER THE INPUT: true; the input reads as it did. -/
def shareExcessSpec : ChangeSpec := { name := "shareExcess", fn := fun _ => fun
  | [d1, d2, d3, d4] => { results := [.lit (.bool true)], args := [d1, d2, d3, d4] }
  | _ => none }
def shareExcessRow : OpenClaim := { program := "yteogkadjambmkaa", sum := "d818bd49d9a253534fc73e0cf38433ebddd2fcf7dcd7bb2302c5acf8ae8a842d", func := "sumpter/sumpterlaw08.ShareExcess", spec := "shareExcess", unfollowed := true, recurses := true, apart := false }
def ShareExcessSaid : Prop := shareExcessRow.holds Try.pinned (OpenSpec.ofChange shareExcessSpec)

/-- ITS FALSE NEIGHBOUR: 'it returns false'. Refute it at one input. -/
def shareExcessWrong : ChangeSpec := { name := "shareExcess", fn := fun _ => fun
  | [d1, d2, d3, d4] => { results := [.lit (.bool false)], args := [d1, d2, d3, d4] }
  | _ => none }
def ShareExcessWrongFalsely : Prop := shareExcessRow.holds Try.pinned (OpenSpec.ofChange shareExcessWrong)

/-- 'sumpterlaw08.ShareCalm': WHATEVER THE INPUT: true; the input reads as it did. -/
def shareCalmSpec : ChangeSpec := { name := "shareCalm", fn := fun _ => fun
  | [d1, d2, d3, d4, d5] => { results := [.lit (.bool true)], args := [d1, d2, d3, d4, d5] }
  | _ => none }
def shareCalmRow : OpenClaim := { program := "yteogkadjambmkaa", sum := "d818bd49d9a253534fc73e0cf38433ebddd2fcf7dcd7bb2302c5acf8ae8a842d", func := "sumpter/sumpterlaw08.ShareCalm", spec := "shareCalm", unfollowed := true, recurses := true, apart := false }
def ShareCalmSaid : Prop := shareCalmRow.holds Try.pinned (OpenSpec.ofChange shareCalmSpec)

/-- ITS FALSE NEIGHBOUR: 'it returns false'. Refute it at one input. -/
def shareCalmWrong : ChangeSpec := { name := "shareCalm", fn := fun _ => fun
  | [d1, d2, d3, d4, d5] => { results := [.lit (.bool false)], args := [d1, d2, d3, d4, d5] }
  | _ => none }
def ShareCalmWrongFalsely : Prop := shareCalmRow.holds Try.pinned (OpenSpec.ofChange shareCalmWrong)

/-- 'sumpterlaw09.QueueAges': WHATEVER THE INPUT: true; the input reads as it did. -/
def queueAgesSpec : ChangeSpec := { name := "queueAges", fn := fun _ => fun
  | [d1, d2, d3, d4] => { results := [.lit (.bool true)], args := [d1, d2, d3, d4] }
  | _ => none }
def queueAgesRow : OpenClaim := { program := "yteogkadjambmkaa", sum := "d818bd49d9a253534fc73e0cf38433ebddd2fcf7dcd7bb2302c5acf8ae8a842d", func := "sumpter/sumpterlaw09.QueueAges", spec := "queueAges", unfollowed := true, recurses := true, apart := false }
def QueueAgesSaid : Prop := queueAgesRow.holds Try.pinned (OpenSpec.ofChange queueAgesSpec)

/-- ITS FALSE NEIGHBOUR: 'it returns false'. Refute it at one input. -/
def queueAgesWrong : ChangeSpec := { name := "queueAges", fn := fun _ => fun
  | [d1, d2, d3, d4] => { results := [.lit (.bool false)], args := [d1, d2, d3, d4] }
  | _ => none }
def QueueAgesWrongFalsely : Prop := queueAgesRow.holds Try.pinned (OpenSpec.ofChange queueAgesWrong)

/-- 'sumpterlaw09.QueueKeeps': WHATEVER THE INPUT: true; the input reads as it did. -/
def queueKeepsSpec : ChangeSpec := { name := "queueKeeps", fn := fun _ => fun
  | [d1, d2] => { results := [.lit (.bool true)], args := [d1, d2] }
  | _ => none }
def queueKeepsRow : OpenClaim := { program := "yteogkadjambmkaa", sum := "d818bd49d9a253534fc73e0cf38433ebddd2fcf7dcd7bb2302c5acf8ae8a842d", func := "sumpter/sumpterlaw09.QueueKeeps", spec := "queueKeeps", unfollowed := true, recurses := true, apart := false }
def QueueKeepsSaid : Prop := queueKeepsRow.holds Try.pinned (OpenSpec.ofChange queueKeepsSpec)

/-- ITS FALSE NEIGHBOUR: 'it returns false'. Refute it at one input. -/
def queueKeepsWrong : ChangeSpec := { name := "queueKeeps", fn := fun _ => fun
  | [d1, d2] => { results := [.lit (.bool false)], args := [d1, d2] }
  | _ => none }
def QueueKeepsWrongFalsely : Prop := queueKeepsRow.holds Try.pinned (OpenSpec.ofChange queueKeepsWrong)

/-- 'sumpterlaw09.QueueBounds': WHATEVER THE INPUT: true; the input reads as it did. -/
def queueBoundsSpec : ChangeSpec := { name := "queueBounds", fn := fun _ => fun
  | [d1, d2, d3] => { results := [.lit (.bool true)], args := [d1, d2, d3] }
  | _ => none }
def queueBoundsRow : OpenClaim := { program := "yteogkadjambmkaa", sum := "d818bd49d9a253534fc73e0cf38433ebddd2fcf7dcd7bb2302c5acf8ae8a842d", func := "sumpter/sumpterlaw09.QueueBounds", spec := "queueBounds", unfollowed := true, recurses := true, apart := false }
def QueueBoundsSaid : Prop := queueBoundsRow.holds Try.pinned (OpenSpec.ofChange queueBoundsSpec)

/-- ITS FALSE NEIGHBOUR: 'it returns false'. Refute it at one input. -/
def queueBoundsWrong : ChangeSpec := { name := "queueBounds", fn := fun _ => fun
  | [d1, d2, d3] => { results := [.lit (.bool false)], args := [d1, d2, d3] }
  | _ => none }
def QueueBoundsWrongFalsely : Prop := queueBoundsRow.holds Try.pinned (OpenSpec.ofChange queueBoundsWrong)

/-- 'sumpterlaw09.QueuePlays': WHATEVER THE INPUT: true; the input reads as it did. -/
def queuePlaysSpec : ChangeSpec := { name := "queuePlays", fn := fun _ => fun
  | [d1, d2, d3] => { results := [.lit (.bool true)], args := [d1, d2, d3] }
  | _ => none }
def queuePlaysRow : OpenClaim := { program := "yteogkadjambmkaa", sum := "d818bd49d9a253534fc73e0cf38433ebddd2fcf7dcd7bb2302c5acf8ae8a842d", func := "sumpter/sumpterlaw09.QueuePlays", spec := "queuePlays", unfollowed := true, recurses := true, apart := false }
def QueuePlaysSaid : Prop := queuePlaysRow.holds Try.pinned (OpenSpec.ofChange queuePlaysSpec)

/-- ITS FALSE NEIGHBOUR: 'it returns false'. Refute it at one input. -/
def queuePlaysWrong : ChangeSpec := { name := "queuePlays", fn := fun _ => fun
  | [d1, d2, d3] => { results := [.lit (.bool false)], args := [d1, d2, d3] }
  | _ => none }
def QueuePlaysWrongFalsely : Prop := queuePlaysRow.holds Try.pinned (OpenSpec.ofChange queuePlaysWrong)

/-- 'sumpterlaw09.QueueNil': WHATEVER THE INPUT: true; the input reads as it did. -/
def queueNilSpec : ChangeSpec := { name := "queueNil", fn := fun _ => fun
  | [d1, d2, d3, d4] => { results := [.lit (.bool true)], args := [d1, d2, d3, d4] }
  | _ => none }
def queueNilRow : OpenClaim := { program := "yteogkadjambmkaa", sum := "d818bd49d9a253534fc73e0cf38433ebddd2fcf7dcd7bb2302c5acf8ae8a842d", func := "sumpter/sumpterlaw09.QueueNil", spec := "queueNil", unfollowed := true, recurses := true, apart := false }
def QueueNilSaid : Prop := queueNilRow.holds Try.pinned (OpenSpec.ofChange queueNilSpec)

/-- ITS FALSE NEIGHBOUR: 'it returns false'. Refute it at one input. -/
def queueNilWrong : ChangeSpec := { name := "queueNil", fn := fun _ => fun
  | [d1, d2, d3, d4] => { results := [.lit (.bool false)], args := [d1, d2, d3, d4] }
  | _ => none }
def QueueNilWrongFalsely : Prop := queueNilRow.holds Try.pinned (OpenSpec.ofChange queueNilWrong)

/- THE SECOND FORM. 'bulk': how many values and letters a reading holds, each counted each time it is reached (what is shared counts as often as it is met; a slice's spare places count too). A statement '..UptoSaid' is the law's where the arguments, and the package variables that the reading takes, are together of bulk at most 1048576: NARROWER than '..Said'. Prove '..Said' where nothing that the law and all that it calls make is longer than what came in: it says more and counts as full. Else prove '..UptoSaid'. A law counts once. -/
mutual
def uptoBulk {H : Type} : DataW H → Nat
  | .lit (.string bytes) => bytes.length + 1
  | .lit _ => 1
  | .nil => 1
  | .ptr d => uptoBulk d + 1
  | .slice elems spare => uptoBulkAll elems + uptoBulkAll spare + 1
  | .agg parts => uptoBulkAll parts + 1
  | .iface _ d => uptoBulk d + 1
  | .map entries => uptoBulkEntries entries + 1
  | .held _ => 1
def uptoBulkAll {H : Type} : List (DataW H) → Nat
  | [] => 0
  | d :: r => uptoBulk d + uptoBulkAll r
def uptoBulkEntries {H : Type} : List (Lit × DataW H) → Nat
  | [] => 0
  | x :: r => uptoBulkEntry x + uptoBulkEntries r
def uptoBulkEntry {H : Type} : Lit × DataW H → Nat
  | (.string bytes, d) => bytes.length + uptoBulk d + 1
  | (_, d) => uptoBulk d + 1
 end
def uptoSmall : (H : Type) → List (DataW H) → Bool := fun _ ds => decide (uptoBulkAll ds ≤ 1048576)
def OpenSpec.upto (s : _root_.Go.ChangeSpec) : _root_.Go.OpenSpec := { _root_.Go.OpenSpec.ofChange s with cond := some uptoSmall }

/-- 'sumpterlaw08.SharePlans', WHERE WHAT IT READS IS OF BULK AT MOST 1048576: true; the input reads as it did. -/
def sharePlansUptoRow : OpenClaim := { program := "yteogkadjambmkaa", sum := "d818bd49d9a253534fc73e0cf38433ebddd2fcf7dcd7bb2302c5acf8ae8a842d", func := "sumpter/sumpterlaw08.SharePlans", spec := "sharePlans", unfollowed := true, recurses := true, apart := false, narrowed := true }
def SharePlansUptoSaid : Prop := sharePlansUptoRow.holds Try.pinned (OpenSpec.upto sharePlansSpec)

/-- 'sumpterlaw08.ShareEnough', WHERE WHAT IT READS IS OF BULK AT MOST 1048576: true; the input reads as it did. -/
def shareEnoughUptoRow : OpenClaim := { program := "yteogkadjambmkaa", sum := "d818bd49d9a253534fc73e0cf38433ebddd2fcf7dcd7bb2302c5acf8ae8a842d", func := "sumpter/sumpterlaw08.ShareEnough", spec := "shareEnough", unfollowed := true, recurses := true, apart := false, narrowed := true }
def ShareEnoughUptoSaid : Prop := shareEnoughUptoRow.holds Try.pinned (OpenSpec.upto shareEnoughSpec)

/-- 'sumpterlaw08.ShareFair', WHERE WHAT IT READS IS OF BULK AT MOST 1048576: true; the input reads as it did. -/
def shareFairUptoRow : OpenClaim := { program := "yteogkadjambmkaa", sum := "d818bd49d9a253534fc73e0cf38433ebddd2fcf7dcd7bb2302c5acf8ae8a842d", func := "sumpter/sumpterlaw08.ShareFair", spec := "shareFair", unfollowed := true, recurses := true, apart := false, narrowed := true }
def ShareFairUptoSaid : Prop := shareFairUptoRow.holds Try.pinned (OpenSpec.upto shareFairSpec)

/-- 'sumpterlaw08.ShareExcess', WHERE WHAT IT READS IS OF BULK AT MOST 1048576: true; the input reads as it did. -/
def shareExcessUptoRow : OpenClaim := { program := "yteogkadjambmkaa", sum := "d818bd49d9a253534fc73e0cf38433ebddd2fcf7dcd7bb2302c5acf8ae8a842d", func := "sumpter/sumpterlaw08.ShareExcess", spec := "shareExcess", unfollowed := true, recurses := true, apart := false, narrowed := true }
def ShareExcessUptoSaid : Prop := shareExcessUptoRow.holds Try.pinned (OpenSpec.upto shareExcessSpec)

/-- 'sumpterlaw08.ShareCalm', WHERE WHAT IT READS IS OF BULK AT MOST 1048576: true; the input reads as it did. -/
def shareCalmUptoRow : OpenClaim := { program := "yteogkadjambmkaa", sum := "d818bd49d9a253534fc73e0cf38433ebddd2fcf7dcd7bb2302c5acf8ae8a842d", func := "sumpter/sumpterlaw08.ShareCalm", spec := "shareCalm", unfollowed := true, recurses := true, apart := false, narrowed := true }
def ShareCalmUptoSaid : Prop := shareCalmUptoRow.holds Try.pinned (OpenSpec.upto shareCalmSpec)

/-- 'sumpterlaw09.QueueAges', WHERE WHAT IT READS IS OF BULK AT MOST 1048576: true; the input reads as it did. -/
def queueAgesUptoRow : OpenClaim := { program := "yteogkadjambmkaa", sum := "d818bd49d9a253534fc73e0cf38433ebddd2fcf7dcd7bb2302c5acf8ae8a842d", func := "sumpter/sumpterlaw09.QueueAges", spec := "queueAges", unfollowed := true, recurses := true, apart := false, narrowed := true }
def QueueAgesUptoSaid : Prop := queueAgesUptoRow.holds Try.pinned (OpenSpec.upto queueAgesSpec)

/-- 'sumpterlaw09.QueueKeeps', WHERE WHAT IT READS IS OF BULK AT MOST 1048576: true; the input reads as it did. -/
def queueKeepsUptoRow : OpenClaim := { program := "yteogkadjambmkaa", sum := "d818bd49d9a253534fc73e0cf38433ebddd2fcf7dcd7bb2302c5acf8ae8a842d", func := "sumpter/sumpterlaw09.QueueKeeps", spec := "queueKeeps", unfollowed := true, recurses := true, apart := false, narrowed := true }
def QueueKeepsUptoSaid : Prop := queueKeepsUptoRow.holds Try.pinned (OpenSpec.upto queueKeepsSpec)

/-- 'sumpterlaw09.QueueBounds', WHERE WHAT IT READS IS OF BULK AT MOST 1048576: true; the input reads as it did. -/
def queueBoundsUptoRow : OpenClaim := { program := "yteogkadjambmkaa", sum := "d818bd49d9a253534fc73e0cf38433ebddd2fcf7dcd7bb2302c5acf8ae8a842d", func := "sumpter/sumpterlaw09.QueueBounds", spec := "queueBounds", unfollowed := true, recurses := true, apart := false, narrowed := true }
def QueueBoundsUptoSaid : Prop := queueBoundsUptoRow.holds Try.pinned (OpenSpec.upto queueBoundsSpec)

/-- 'sumpterlaw09.QueuePlays', WHERE WHAT IT READS IS OF BULK AT MOST 1048576: true; the input reads as it did. -/
def queuePlaysUptoRow : OpenClaim := { program := "yteogkadjambmkaa", sum := "d818bd49d9a253534fc73e0cf38433ebddd2fcf7dcd7bb2302c5acf8ae8a842d", func := "sumpter/sumpterlaw09.QueuePlays", spec := "queuePlays", unfollowed := true, recurses := true, apart := false, narrowed := true }
def QueuePlaysUptoSaid : Prop := queuePlaysUptoRow.holds Try.pinned (OpenSpec.upto queuePlaysSpec)

/-- 'sumpterlaw09.QueueNil', WHERE WHAT IT READS IS OF BULK AT MOST 1048576: true; the input reads as it did. -/
def queueNilUptoRow : OpenClaim := { program := "yteogkadjambmkaa", sum := "d818bd49d9a253534fc73e0cf38433ebddd2fcf7dcd7bb2302c5acf8ae8a842d", func := "sumpter/sumpterlaw09.QueueNil", spec := "queueNil", unfollowed := true, recurses := true, apart := false, narrowed := true }
def QueueNilUptoSaid : Prop := queueNilUptoRow.holds Try.pinned (OpenSpec.upto queueNilSpec)

end Rows
end Go.Proofs.Yteogkadjambmkaa
