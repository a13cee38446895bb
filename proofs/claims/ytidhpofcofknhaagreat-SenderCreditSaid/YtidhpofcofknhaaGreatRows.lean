/-
  No cell of these rows narrows 'for every input' (looked for: loops, veiled, ifaces, maps, wideKeys, modest, calm, conditions, laid).
  DERIVED. THE GIVEN ROWS OF THIS SEAT. 4 by the template 'for every input the law returns true; each argument reads behind the call as it read before'; 0 by the template 'total and deterministic' (their statements: YtidhpofcofknhaaGreatTotals.lean).
  GIVEN WITH THE SEED: the statements are not yours to turn. If you find one false, say at which input.
  Laid BY PROGRAM, IN A SANDBOX (cutbox-rows.mjs): the forced cells as the released guide's own fill.sh prints them over the translation 147b8a9a00cbd037… (all of the seat's roots in one cut). By AI agents, Wed Nov 11 2026. No macro, syntax, notation, axiom, sorry.
-/
import Derived.Test.YtidhpofcofknhaaGreatChecked
import GoSem.Claim
import GoSem.ClaimJoined
import GoSem.ClaimMapViews
import Derived.JoinedTies
import Derived.KernelRfl
namespace Go.Proofs.YtidhpofcofknhaaGreat
/- THE CELL 'sum', in the pinned program and in every row, IS THE sha256 OF THE DUMP (.gsa) THAT YtidhpofcofknhaaGreatProg.lean LOADS. Nothing in Lean hashes anything: it is a label: what it is worth is what the hold of that sum in a sandbox is worth. -/
noncomputable def Tryz.pinned : Pinned := { name := "ytidhpofcofknhaagreat", sum := "147b8a9a00cbd0370b49c65bd1d0bd1a6c7d04358ee08b0f2a27bb8fb5ed89b4", checked := Tryz.checked }
namespace Rows
def none {H : Type} : Left H := { results := [], args := [] }

/-- 'sumpterlaw14.SenderSpeaks': WHATEVER THE INPUT: true; the input reads as it did. -/
def senderSpeaksSpec : ChangeSpec := { name := "senderSpeaks", fn := fun _ => fun
  | [d1, d2, d3, d4, d5, d6] => { results := [.lit (.bool true)], args := [d1, d2, d3, d4, d5, d6] }
  | _ => none }
def senderSpeaksRow : OpenClaim := { program := "ytidhpofcofknhaagreat", sum := "147b8a9a00cbd0370b49c65bd1d0bd1a6c7d04358ee08b0f2a27bb8fb5ed89b4", func := "sumpter/sumpterlaw14.SenderSpeaks", spec := "senderSpeaks", inPlace := ["math/bits.Add64"], unfollowed := true, recurses := true, apart := false }
def SenderSpeaksSaid : Prop := senderSpeaksRow.holds Tryz.pinned (OpenSpec.ofChange senderSpeaksSpec)

/-- ITS FALSE NEIGHBOUR: 'it returns false'. Refute it at one input. -/
def senderSpeaksWrong : ChangeSpec := { name := "senderSpeaks", fn := fun _ => fun
  | [d1, d2, d3, d4, d5, d6] => { results := [.lit (.bool false)], args := [d1, d2, d3, d4, d5, d6] }
  | _ => none }
def SenderSpeaksWrongFalsely : Prop := senderSpeaksRow.holds Tryz.pinned (OpenSpec.ofChange senderSpeaksWrong)

/-- 'sumpterlaw14.SenderDeaf': WHATEVER THE INPUT: true; the input reads as it did. -/
def senderDeafSpec : ChangeSpec := { name := "senderDeaf", fn := fun _ => fun
  | [d1, d2, d3, d4] => { results := [.lit (.bool true)], args := [d1, d2, d3, d4] }
  | _ => none }
def senderDeafRow : OpenClaim := { program := "ytidhpofcofknhaagreat", sum := "147b8a9a00cbd0370b49c65bd1d0bd1a6c7d04358ee08b0f2a27bb8fb5ed89b4", func := "sumpter/sumpterlaw14.SenderDeaf", spec := "senderDeaf", inPlace := ["math/bits.Add64"], unfollowed := true, recurses := true, apart := false }
def SenderDeafSaid : Prop := senderDeafRow.holds Tryz.pinned (OpenSpec.ofChange senderDeafSpec)

/-- ITS FALSE NEIGHBOUR: 'it returns false'. Refute it at one input. -/
def senderDeafWrong : ChangeSpec := { name := "senderDeaf", fn := fun _ => fun
  | [d1, d2, d3, d4] => { results := [.lit (.bool false)], args := [d1, d2, d3, d4] }
  | _ => none }
def SenderDeafWrongFalsely : Prop := senderDeafRow.holds Tryz.pinned (OpenSpec.ofChange senderDeafWrong)

/-- 'sumpterlaw14.SenderCredit': WHATEVER THE INPUT: true; the input reads as it did. -/
def senderCreditSpec : ChangeSpec := { name := "senderCredit", fn := fun _ => fun
  | [d1, d2, d3, d4, d5] => { results := [.lit (.bool true)], args := [d1, d2, d3, d4, d5] }
  | _ => none }
def senderCreditRow : OpenClaim := { program := "ytidhpofcofknhaagreat", sum := "147b8a9a00cbd0370b49c65bd1d0bd1a6c7d04358ee08b0f2a27bb8fb5ed89b4", func := "sumpter/sumpterlaw14.SenderCredit", spec := "senderCredit", inPlace := ["math/bits.Add64"], unfollowed := true, recurses := true, apart := false }
def SenderCreditSaid : Prop := senderCreditRow.holds Tryz.pinned (OpenSpec.ofChange senderCreditSpec)

/-- ITS FALSE NEIGHBOUR: 'it returns false'. Refute it at one input. -/
def senderCreditWrong : ChangeSpec := { name := "senderCredit", fn := fun _ => fun
  | [d1, d2, d3, d4, d5] => { results := [.lit (.bool false)], args := [d1, d2, d3, d4, d5] }
  | _ => none }
def SenderCreditWrongFalsely : Prop := senderCreditRow.holds Tryz.pinned (OpenSpec.ofChange senderCreditWrong)

/-- 'sumpterlaw14.SenderPlays': WHATEVER THE INPUT: true; the input reads as it did. -/
def senderPlaysSpec : ChangeSpec := { name := "senderPlays", fn := fun _ => fun
  | [d1, d2, d3, d4, d5, d6] => { results := [.lit (.bool true)], args := [d1, d2, d3, d4, d5, d6] }
  | _ => none }
def senderPlaysRow : OpenClaim := { program := "ytidhpofcofknhaagreat", sum := "147b8a9a00cbd0370b49c65bd1d0bd1a6c7d04358ee08b0f2a27bb8fb5ed89b4", func := "sumpter/sumpterlaw14.SenderPlays", spec := "senderPlays", inPlace := ["math/bits.Add64"], unfollowed := true, recurses := true, apart := false }
def SenderPlaysSaid : Prop := senderPlaysRow.holds Tryz.pinned (OpenSpec.ofChange senderPlaysSpec)

/-- ITS FALSE NEIGHBOUR: 'it returns false'. Refute it at one input. -/
def senderPlaysWrong : ChangeSpec := { name := "senderPlays", fn := fun _ => fun
  | [d1, d2, d3, d4, d5, d6] => { results := [.lit (.bool false)], args := [d1, d2, d3, d4, d5, d6] }
  | _ => none }
def SenderPlaysWrongFalsely : Prop := senderPlaysRow.holds Tryz.pinned (OpenSpec.ofChange senderPlaysWrong)

/- THE SECOND FORM. 'bulk': how many values and letters a reading holds, each counted each time it is reached (what is shared counts as often as it is met; a slice's spare places count too). A statement '..UptoSaid' is the law's where the arguments, and the package variables that the reading takes, are together of bulk at most 1048576: NARROWER than '..Said'. Prove '..Said' where nothing that the law and all that it calls make is longer than what came in: it says more and counts as full. Else prove '..UptoSaid'. A law counts once. -/
mutual
def uptoBulk {H : Type} : DataW H → Nat
  | .lit (.string bytes) => bytes.length + 1
  | .lit _ => 1
  | .nil => 1
  | .ptr d => uptoBulk d + 1
  | .slice elems spare => uptoBulkAll elems + uptoBulkAll spare + 1
  | .agg parts => uptoBulkAll parts + 1
  | .iface _ d => uptoBulk d + 1
  | .map entries => uptoBulkEntries entries + 1
  | .held _ => 1
def uptoBulkAll {H : Type} : List (DataW H) → Nat
  | [] => 0
  | d :: r => uptoBulk d + uptoBulkAll r
def uptoBulkEntries {H : Type} : List (Lit × DataW H) → Nat
  | [] => 0
  | x :: r => uptoBulkEntry x + uptoBulkEntries r
def uptoBulkEntry {H : Type} : Lit × DataW H → Nat
  | (.string bytes, d) => bytes.length + uptoBulk d + 1
  | (_, d) => uptoBulk d + 1
 end
def uptoSmall : (H : Type) → List (DataW H) → Bool := fun _ ds => decide (uptoBulkAll ds ≤ 1048576)
def OpenSpec.upto (s : _root_.Go.ChangeSpec) : _root_.Go.OpenSpec := { _root_.Go.OpenSpec.ofChange s with cond := some uptoSmall }

/-- 'sumpterlaw14.SenderSpeaks', WHERE WHAT IT READS IS OF BULK AT MOST 1048576: true; the input reads as it did. -/
def senderSpeaksUptoRow : OpenClaim := { program := "ytidhpofcofknhaagreat", sum := "147b8a9a00cbd0370b49c65bd1d0bd1a6c7d04358ee08b0f2a27bb8fb5ed89b4", func := "sumpter/sumpterlaw14.SenderSpeaks", spec := "senderSpeaks", inPlace := ["math/bits.Add64"], unfollowed := true, recurses := true, apart := false, narrowed := true }
def SenderSpeaksUptoSaid : Prop := senderSpeaksUptoRow.holds Tryz.pinned (OpenSpec.upto senderSpeaksSpec)

/-- 'sumpterlaw14.SenderDeaf', WHERE WHAT IT READS IS OF BULK AT MOST 1048576: true; the input reads as it did. -/
def senderDeafUptoRow : OpenClaim := { program := "ytidhpofcofknhaagreat", sum := "147b8a9a00cbd0370b49c65bd1d0bd1a6c7d04358ee08b0f2a27bb8fb5ed89b4", func := "sumpter/sumpterlaw14.SenderDeaf", spec := "senderDeaf", inPlace := ["math/bits.Add64"], unfollowed := true, recurses := true, apart := false, narrowed := true }
def SenderDeafUptoSaid : Prop := senderDeafUptoRow.holds Tryz.pinned (OpenSpec.upto senderDeafSpec)

/-- 'sumpterlaw14.SenderCredit', WHERE WHAT IT READS IS OF BULK AT MOST 1048576: true; the input reads as it did. -/
def senderCreditUptoRow : OpenClaim := { program := "ytidhpofcofknhaagreat", sum := "147b8a9a00cbd0370b49c65bd1d0bd1a6c7d04358ee08b0f2a27bb8fb5ed89b4", func := "sumpter/sumpterlaw14.SenderCredit", spec := "senderCredit", inPlace := ["math/bits.Add64"], unfollowed := true, recurses := true, apart := false, narrowed := true }
def SenderCreditUptoSaid : Prop := senderCreditUptoRow.holds Tryz.pinned (OpenSpec.upto senderCreditSpec)

/-- 'sumpterlaw14.SenderPlays', WHERE WHAT IT READS IS OF BULK AT MOST 1048576: true; the input reads as it did. -/
def senderPlaysUptoRow : OpenClaim := { program := "ytidhpofcofknhaagreat", sum := "147b8a9a00cbd0370b49c65bd1d0bd1a6c7d04358ee08b0f2a27bb8fb5ed89b4", func := "sumpter/sumpterlaw14.SenderPlays", spec := "senderPlays", inPlace := ["math/bits.Add64"], unfollowed := true, recurses := true, apart := false, narrowed := true }
def SenderPlaysUptoSaid : Prop := senderPlaysUptoRow.holds Tryz.pinned (OpenSpec.upto senderPlaysSpec)

end Rows
end Go.Proofs.YtidhpofcofknhaaGreat
