/-
  No cell of these rows narrows 'for every input' (looked for: loops, veiled, ifaces, maps, wideKeys, modest, calm, conditions, laid).
  DERIVED. THE GIVEN ROWS OF THIS SEAT. 11 by the template 'for every input the law returns true; each argument reads behind the call as it read before'; 0 by the template 'total and deterministic' (their statements: YtnefhhoijonnaaaTotals.lean).
  GIVEN WITH THE SEED: the statements are not yours to turn. If you find one false, say at which input.
  Laid BY PROGRAM, IN A SANDBOX (cutbox-rows.mjs): the forced cells as the released guide's own fill.sh prints them over the translation 01a02b7df997f892… (all of the seat's roots in one cut). By AI agents, Wed Nov 11 2026. No macro, syntax, notation, axiom, sorry.
-/
import Derived.Test.YtnefhhoijonnaaaChecked
import GoSem.Claim
import GoSem.ClaimJoined
import GoSem.ClaimMapViews
import Derived.JoinedTies
import Derived.KernelRfl
namespace Go.Proofs.Ytnefhhoijonnaaa
/- THE CELL 'sum', in the pinned program and in every row, IS THE sha256 OF THE DUMP (.gsa) THAT YtnefhhoijonnaaaProg.lean LOADS. Nothing in Lean hashes anything: it is a label: what it is worth is what the hold of that sum in a sandbox is worth. -/
noncomputable def Try.pinned : Pinned := { name := "ytnefhhoijonnaaa", sum := "01a02b7df997f892d4f51a230c0e6f6ecc16bc1d6ee24f47dd4591ffb4cec39b", checked := Try.checked }
namespace Rows
def none {H : Type} : Left H := { results := [], args := [] }

/-- 'sumpterlaw05.FrameRights': WHATEVER THE INPUT: true; the input reads as it did. -/
def frameRightsSpec : ChangeSpec := { name := "frameRights", fn := fun _ => fun
  | [d] => { results := [.lit (.bool true)], args := [d] }
  | _ => none }
def frameRightsRow : OpenClaim := { program := "ytnefhhoijonnaaa", sum := "01a02b7df997f892d4f51a230c0e6f6ecc16bc1d6ee24f47dd4591ffb4cec39b", func := "sumpter/sumpterlaw05.FrameRights", spec := "frameRights", unfollowed := true, recurses := true, apart := false }
def FrameRightsSaid : Prop := frameRightsRow.holds Try.pinned (OpenSpec.ofChange frameRightsSpec)

/-- ITS FALSE NEIGHBOUR: 'it returns false'. Refute it at one input. -/
def frameRightsWrong : ChangeSpec := { name := "frameRights", fn := fun _ => fun
  | [d] => { results := [.lit (.bool false)], args := [d] }
  | _ => none }
def FrameRightsWrongFalsely : Prop := frameRightsRow.holds Try.pinned (OpenSpec.ofChange frameRightsWrong)

/-- 'sumpterlaw05.FrameOnce': WHATEVER THE INPUT: true; the input reads as it did. -/
def frameOnceSpec : ChangeSpec := { name := "frameOnce", fn := fun _ => fun
  | [d1, d2, d3] => { results := [.lit (.bool true)], args := [d1, d2, d3] }
  | _ => none }
def frameOnceRow : OpenClaim := { program := "ytnefhhoijonnaaa", sum := "01a02b7df997f892d4f51a230c0e6f6ecc16bc1d6ee24f47dd4591ffb4cec39b", func := "sumpter/sumpterlaw05.FrameOnce", spec := "frameOnce", unfollowed := true, recurses := true, apart := false }
def FrameOnceSaid : Prop := frameOnceRow.holds Try.pinned (OpenSpec.ofChange frameOnceSpec)

/-- ITS FALSE NEIGHBOUR: 'it returns false'. Refute it at one input. -/
def frameOnceWrong : ChangeSpec := { name := "frameOnce", fn := fun _ => fun
  | [d1, d2, d3] => { results := [.lit (.bool false)], args := [d1, d2, d3] }
  | _ => none }
def FrameOnceWrongFalsely : Prop := frameOnceRow.holds Try.pinned (OpenSpec.ofChange frameOnceWrong)

/-- 'sumpterlaw05.FrameInners': WHATEVER THE INPUT: true; the input reads as it did. -/
def frameInnersSpec : ChangeSpec := { name := "frameInners", fn := fun _ => fun
  | [d] => { results := [.lit (.bool true)], args := [d] }
  | _ => none }
def frameInnersRow : OpenClaim := { program := "ytnefhhoijonnaaa", sum := "01a02b7df997f892d4f51a230c0e6f6ecc16bc1d6ee24f47dd4591ffb4cec39b", func := "sumpter/sumpterlaw05.FrameInners", spec := "frameInners", unfollowed := true, recurses := true, apart := false }
def FrameInnersSaid : Prop := frameInnersRow.holds Try.pinned (OpenSpec.ofChange frameInnersSpec)

/-- ITS FALSE NEIGHBOUR: 'it returns false'. Refute it at one input. -/
def frameInnersWrong : ChangeSpec := { name := "frameInners", fn := fun _ => fun
  | [d] => { results := [.lit (.bool false)], args := [d] }
  | _ => none }
def FrameInnersWrongFalsely : Prop := frameInnersRow.holds Try.pinned (OpenSpec.ofChange frameInnersWrong)

/-- 'sumpterlaw05.FrameLong': WHATEVER THE INPUT: true; the input reads as it did. -/
def frameLongSpec : ChangeSpec := { name := "frameLong", fn := fun _ => fun
  | [d1, d2] => { results := [.lit (.bool true)], args := [d1, d2] }
  | _ => none }
def frameLongRow : OpenClaim := { program := "ytnefhhoijonnaaa", sum := "01a02b7df997f892d4f51a230c0e6f6ecc16bc1d6ee24f47dd4591ffb4cec39b", func := "sumpter/sumpterlaw05.FrameLong", spec := "frameLong", unfollowed := true, recurses := true, apart := false }
def FrameLongSaid : Prop := frameLongRow.holds Try.pinned (OpenSpec.ofChange frameLongSpec)

/-- ITS FALSE NEIGHBOUR: 'it returns false'. Refute it at one input. -/
def frameLongWrong : ChangeSpec := { name := "frameLong", fn := fun _ => fun
  | [d1, d2] => { results := [.lit (.bool false)], args := [d1, d2] }
  | _ => none }
def FrameLongWrongFalsely : Prop := frameLongRow.holds Try.pinned (OpenSpec.ofChange frameLongWrong)

/-- 'sumpterlaw05.FrameEncodes': WHATEVER THE INPUT: true; the input reads as it did. -/
def frameEncodesSpec : ChangeSpec := { name := "frameEncodes", fn := fun _ => fun
  | [d] => { results := [.lit (.bool true)], args := [d] }
  | _ => none }
def frameEncodesRow : OpenClaim := { program := "ytnefhhoijonnaaa", sum := "01a02b7df997f892d4f51a230c0e6f6ecc16bc1d6ee24f47dd4591ffb4cec39b", func := "sumpter/sumpterlaw05.FrameEncodes", spec := "frameEncodes", unfollowed := true, recurses := true, apart := false }
def FrameEncodesSaid : Prop := frameEncodesRow.holds Try.pinned (OpenSpec.ofChange frameEncodesSpec)

/-- ITS FALSE NEIGHBOUR: 'it returns false'. Refute it at one input. -/
def frameEncodesWrong : ChangeSpec := { name := "frameEncodes", fn := fun _ => fun
  | [d] => { results := [.lit (.bool false)], args := [d] }
  | _ => none }
def FrameEncodesWrongFalsely : Prop := frameEncodesRow.holds Try.pinned (OpenSpec.ofChange frameEncodesWrong)

/-- 'sumpterlaw05.FrameDecodes': WHATEVER THE INPUT: true; the input reads as it did. -/
def frameDecodesSpec : ChangeSpec := { name := "frameDecodes", fn := fun _ => fun
  | [d] => { results := [.lit (.bool true)], args := [d] }
  | _ => none }
def frameDecodesRow : OpenClaim := { program := "ytnefhhoijonnaaa", sum := "01a02b7df997f892d4f51a230c0e6f6ecc16bc1d6ee24f47dd4591ffb4cec39b", func := "sumpter/sumpterlaw05.FrameDecodes", spec := "frameDecodes", unfollowed := true, recurses := true, apart := false }
def FrameDecodesSaid : Prop := frameDecodesRow.holds Try.pinned (OpenSpec.ofChange frameDecodesSpec)

/-- ITS FALSE NEIGHBOUR: 'it returns false'. Refute it at one input. -/
def frameDecodesWrong : ChangeSpec := { name := "frameDecodes", fn := fun _ => fun
  | [d] => { results := [.lit (.bool false)], args := [d] }
  | _ => none }
def FrameDecodesWrongFalsely : Prop := frameDecodesRow.holds Try.pinned (OpenSpec.ofChange frameDecodesWrong)

/-- 'sumpterlaw05.FrameTurned': WHATEVER THE INPUT: true; the input reads as it did. -/
def frameTurnedSpec : ChangeSpec := { name := "frameTurned", fn := fun _ => fun
  | [d1, d2, d3] => { results := [.lit (.bool true)], args := [d1, d2, d3] }
  | _ => none }
def frameTurnedRow : OpenClaim := { program := "ytnefhhoijonnaaa", sum := "01a02b7df997f892d4f51a230c0e6f6ecc16bc1d6ee24f47dd4591ffb4cec39b", func := "sumpter/sumpterlaw05.FrameTurned", spec := "frameTurned", unfollowed := true, recurses := true, apart := false }
def FrameTurnedSaid : Prop := frameTurnedRow.holds Try.pinned (OpenSpec.ofChange frameTurnedSpec)

/-- ITS FALSE NEIGHBOUR: 'it returns false'. Refute it at one input. -/
def frameTurnedWrong : ChangeSpec := { name := "frameTurned", fn := fun _ => fun
  | [d1, d2, d3] => { results := [.lit (.bool false)], args := [d1, d2, d3] }
  | _ => none }
def FrameTurnedWrongFalsely : Prop := frameTurnedRow.holds Try.pinned (OpenSpec.ofChange frameTurnedWrong)

/-- 'sumpterlaw18.NetPlays': WHATEVER THE INPUT: true; the input reads as it did. -/
def netPlaysSpec : ChangeSpec := { name := "netPlays", fn := fun _ => fun
  | [d] => { results := [.lit (.bool true)], args := [d] }
  | _ => none }
def netPlaysRow : OpenClaim := { program := "ytnefhhoijonnaaa", sum := "01a02b7df997f892d4f51a230c0e6f6ecc16bc1d6ee24f47dd4591ffb4cec39b", func := "sumpter/sumpterlaw18.NetPlays", spec := "netPlays", unfollowed := true, recurses := true, apart := false }
def NetPlaysSaid : Prop := netPlaysRow.holds Try.pinned (OpenSpec.ofChange netPlaysSpec)

/-- ITS FALSE NEIGHBOUR: 'it returns false'. Refute it at one input. -/
def netPlaysWrong : ChangeSpec := { name := "netPlays", fn := fun _ => fun
  | [d] => { results := [.lit (.bool false)], args := [d] }
  | _ => none }
def NetPlaysWrongFalsely : Prop := netPlaysRow.holds Try.pinned (OpenSpec.ofChange netPlaysWrong)

/-- 'sumpterlaw18.NetHonest': WHATEVER THE INPUT: true; the input reads as it did. -/
def netHonestSpec : ChangeSpec := { name := "netHonest", fn := fun _ => fun
  | [d] => { results := [.lit (.bool true)], args := [d] }
  | _ => none }
def netHonestRow : OpenClaim := { program := "ytnefhhoijonnaaa", sum := "01a02b7df997f892d4f51a230c0e6f6ecc16bc1d6ee24f47dd4591ffb4cec39b", func := "sumpter/sumpterlaw18.NetHonest", spec := "netHonest", unfollowed := true, recurses := true, apart := false }
def NetHonestSaid : Prop := netHonestRow.holds Try.pinned (OpenSpec.ofChange netHonestSpec)

/-- ITS FALSE NEIGHBOUR: 'it returns false'. Refute it at one input. -/
def netHonestWrong : ChangeSpec := { name := "netHonest", fn := fun _ => fun
  | [d] => { results := [.lit (.bool false)], args := [d] }
  | _ => none }
def NetHonestWrongFalsely : Prop := netHonestRow.holds Try.pinned (OpenSpec.ofChange netHonestWrong)

/-- 'sumpterlaw18.NetApart': WHATEVER THE INPUT: true; the input reads as it did. -/
def netApartSpec : ChangeSpec := { name := "netApart", fn := fun _ => fun
  | [d1, d2, d3] => { results := [.lit (.bool true)], args := [d1, d2, d3] }
  | _ => none }
def netApartRow : OpenClaim := { program := "ytnefhhoijonnaaa", sum := "01a02b7df997f892d4f51a230c0e6f6ecc16bc1d6ee24f47dd4591ffb4cec39b", func := "sumpter/sumpterlaw18.NetApart", spec := "netApart", unfollowed := true, recurses := true, apart := false }
def NetApartSaid : Prop := netApartRow.holds Try.pinned (OpenSpec.ofChange netApartSpec)

/-- ITS FALSE NEIGHBOUR: 'it returns false'. Refute it at one input. -/
def netApartWrong : ChangeSpec := { name := "netApart", fn := fun _ => fun
  | [d1, d2, d3] => { results := [.lit (.bool false)], args := [d1, d2, d3] }
  | _ => none }
def NetApartWrongFalsely : Prop := netApartRow.holds Try.pinned (OpenSpec.ofChange netApartWrong)

/-- 'sumpterlaw18.NetCounts': WHATEVER THE INPUT: true; the input reads as it did. -/
def netCountsSpec : ChangeSpec := { name := "netCounts", fn := fun _ => fun
  | [d] => { results := [.lit (.bool true)], args := [d] }
  | _ => none }
def netCountsRow : OpenClaim := { program := "ytnefhhoijonnaaa", sum := "01a02b7df997f892d4f51a230c0e6f6ecc16bc1d6ee24f47dd4591ffb4cec39b", func := "sumpter/sumpterlaw18.NetCounts", spec := "netCounts", unfollowed := true, recurses := true, apart := false }
def NetCountsSaid : Prop := netCountsRow.holds Try.pinned (OpenSpec.ofChange netCountsSpec)

/-- ITS FALSE NEIGHBOUR: 'it returns false'. Refute it at one input. -/
def netCountsWrong : ChangeSpec := { name := "netCounts", fn := fun _ => fun
  | [d] => { results := [.lit (.bool false)], args := [d] }
  | _ => none }
def NetCountsWrongFalsely : Prop := netCountsRow.holds Try.pinned (OpenSpec.ofChange netCountsWrong)

/- THE SECOND FORM. 'bulk': how many values and letters a reading holds, each counted each time it is reached (what is shared counts as often as it is met; a slice's spare places count too). A statement '..UptoSaid' is the law's where the arguments, and the package variables that the reading takes, are together of bulk at most 1048576: NARROWER than '..Said'. Prove '..Said' where nothing that the law and all that it calls make is longer than what came in: it says more and counts as full. Else prove '..UptoSaid'. A law counts once. -/
mutual
def uptoBulk {H : Type} : DataW H → Nat
  | .lit (.string bytes) => bytes.length + 1
  | .lit _ => 1
  | .nil => 1
  | .ptr d => uptoBulk d + 1
  | .slice elems spare => uptoBulkAll elems + uptoBulkAll spare + 1
  | .agg parts => uptoBulkAll parts + 1
  | .iface _ d => uptoBulk d + 1
  | .map entries => uptoBulkEntries entries + 1
  | .held _ => 1
def uptoBulkAll {H : Type} : List (DataW H) → Nat
  | [] => 0
  | d :: r => uptoBulk d + uptoBulkAll r
def uptoBulkEntries {H : Type} : List (Lit × DataW H) → Nat
  | [] => 0
  | x :: r => uptoBulkEntry x + uptoBulkEntries r
def uptoBulkEntry {H : Type} : Lit × DataW H → Nat
  | (.string bytes, d) => bytes.length + uptoBulk d + 1
  | (_, d) => uptoBulk d + 1
 end
def uptoSmall : (H : Type) → List (DataW H) → Bool := fun _ ds => decide (uptoBulkAll ds ≤ 1048576)
def OpenSpec.upto (s : _root_.Go.ChangeSpec) : _root_.Go.OpenSpec := { _root_.Go.OpenSpec.ofChange s with cond := some uptoSmall }

/-- 'sumpterlaw05.FrameRights', WHERE WHAT IT READS IS OF BULK AT MOST 1048576: true; the input reads as it did. -/
def frameRightsUptoRow : OpenClaim := { program := "ytnefhhoijonnaaa", sum := "01a02b7df997f892d4f51a230c0e6f6ecc16bc1d6ee24f47dd4591ffb4cec39b", func := "sumpter/sumpterlaw05.FrameRights", spec := "frameRights", unfollowed := true, recurses := true, apart := false, narrowed := true }
def FrameRightsUptoSaid : Prop := frameRightsUptoRow.holds Try.pinned (OpenSpec.upto frameRightsSpec)

/-- 'sumpterlaw05.FrameOnce', WHERE WHAT IT READS IS OF BULK AT MOST 1048576: true; the input reads as it did. -/
def frameOnceUptoRow : OpenClaim := { program := "ytnefhhoijonnaaa", sum := "01a02b7df997f892d4f51a230c0e6f6ecc16bc1d6ee24f47dd4591ffb4cec39b", func := "sumpter/sumpterlaw05.FrameOnce", spec := "frameOnce", unfollowed := true, recurses := true, apart := false, narrowed := true }
def FrameOnceUptoSaid : Prop := frameOnceUptoRow.holds Try.pinned (OpenSpec.upto frameOnceSpec)

/-- 'sumpterlaw05.FrameInners', WHERE WHAT IT READS IS OF BULK AT MOST 1048576: true; the input reads as it did. -/
def frameInnersUptoRow : OpenClaim := { program := "ytnefhhoijonnaaa", sum := "01a02b7df997f892d4f51a230c0e6f6ecc16bc1d6ee24f47dd4591ffb4cec39b", func := "sumpter/sumpterlaw05.FrameInners", spec := "frameInners", unfollowed := true, recurses := true, apart := false, narrowed := true }
def FrameInnersUptoSaid : Prop := frameInnersUptoRow.holds Try.pinned (OpenSpec.upto frameInnersSpec)

/-- 'sumpterlaw05.FrameLong', WHERE WHAT IT READS IS OF BULK AT MOST 1048576: true; the input reads as it did. -/
def frameLongUptoRow : OpenClaim := { program := "ytnefhhoijonnaaa", sum := "01a02b7df997f892d4f51a230c0e6f6ecc16bc1d6ee24f47dd4591ffb4cec39b", func := "sumpter/sumpterlaw05.FrameLong", spec := "frameLong", unfollowed := true, recurses := true, apart := false, narrowed := true }
def FrameLongUptoSaid : Prop := frameLongUptoRow.holds Try.pinned (OpenSpec.upto frameLongSpec)

/-- 'sumpterlaw05.FrameEncodes', WHERE WHAT IT READS IS OF BULK AT MOST 1048576: true; the input reads as it did. -/
def frameEncodesUptoRow : OpenClaim := { program := "ytnefhhoijonnaaa", sum := "01a02b7df997f892d4f51a230c0e6f6ecc16bc1d6ee24f47dd4591ffb4cec39b", func := "sumpter/sumpterlaw05.FrameEncodes", spec := "frameEncodes", unfollowed := true, recurses := true, apart := false, narrowed := true }
def FrameEncodesUptoSaid : Prop := frameEncodesUptoRow.holds Try.pinned (OpenSpec.upto frameEncodesSpec)

/-- 'sumpterlaw05.FrameDecodes', WHERE WHAT IT READS IS OF BULK AT MOST 1048576: true; the input reads as it did. -/
def frameDecodesUptoRow : OpenClaim := { program := "ytnefhhoijonnaaa", sum := "01a02b7df997f892d4f51a230c0e6f6ecc16bc1d6ee24f47dd4591ffb4cec39b", func := "sumpter/sumpterlaw05.FrameDecodes", spec := "frameDecodes", unfollowed := true, recurses := true, apart := false, narrowed := true }
def FrameDecodesUptoSaid : Prop := frameDecodesUptoRow.holds Try.pinned (OpenSpec.upto frameDecodesSpec)

/-- 'sumpterlaw05.FrameTurned', WHERE WHAT IT READS IS OF BULK AT MOST 1048576: true; the input reads as it did. -/
def frameTurnedUptoRow : OpenClaim := { program := "ytnefhhoijonnaaa", sum := "01a02b7df997f892d4f51a230c0e6f6ecc16bc1d6ee24f47dd4591ffb4cec39b", func := "sumpter/sumpterlaw05.FrameTurned", spec := "frameTurned", unfollowed := true, recurses := true, apart := false, narrowed := true }
def FrameTurnedUptoSaid : Prop := frameTurnedUptoRow.holds Try.pinned (OpenSpec.upto frameTurnedSpec)

/-- 'sumpterlaw18.NetPlays', WHERE WHAT IT READS IS OF BULK AT MOST 1048576: true; the input reads as it did. -/
def netPlaysUptoRow : OpenClaim := { program := "ytnefhhoijonnaaa", sum := "01a02b7df997f892d4f51a230c0e6f6ecc16bc1d6ee24f47dd4591ffb4cec39b", func := "sumpter/sumpterlaw18.NetPlays", spec := "netPlays", unfollowed := true, recurses := true, apart := false, narrowed := true }
def NetPlaysUptoSaid : Prop := netPlaysUptoRow.holds Try.pinned (OpenSpec.upto netPlaysSpec)

/-- 'sumpterlaw18.NetHonest', WHERE WHAT IT READS IS OF BULK AT MOST 1048576: true; the input reads as it did. -/
def netHonestUptoRow : OpenClaim := { program := "ytnefhhoijonnaaa", sum := "01a02b7df997f892d4f51a230c0e6f6ecc16bc1d6ee24f47dd4591ffb4cec39b", func := "sumpter/sumpterlaw18.NetHonest", spec := "netHonest", unfollowed := true, recurses := true, apart := false, narrowed := true }
def NetHonestUptoSaid : Prop := netHonestUptoRow.holds Try.pinned (OpenSpec.upto netHonestSpec)

/-- 'sumpterlaw18.NetApart', WHERE WHAT IT READS IS OF BULK AT MOST 1048576: true; the input reads as it did. -/
def netApartUptoRow : OpenClaim := { program := "ytnefhhoijonnaaa", sum := "01a02b7df997f892d4f51a230c0e6f6ecc16bc1d6ee24f47dd4591ffb4cec39b", func := "sumpter/sumpterlaw18.NetApart", spec := "netApart", unfollowed := true, recurses := true, apart := false, narrowed := true }
def NetApartUptoSaid : Prop := netApartUptoRow.holds Try.pinned (OpenSpec.upto netApartSpec)

/-- 'sumpterlaw18.NetCounts', WHERE WHAT IT READS IS OF BULK AT MOST 1048576: true; the input reads as it did. -/
def netCountsUptoRow : OpenClaim := { program := "ytnefhhoijonnaaa", sum := "01a02b7df997f892d4f51a230c0e6f6ecc16bc1d6ee24f47dd4591ffb4cec39b", func := "sumpter/sumpterlaw18.NetCounts", spec := "netCounts", unfollowed := true, recurses := true, apart := false, narrowed := true }
def NetCountsUptoSaid : Prop := netCountsUptoRow.holds Try.pinned (OpenSpec.upto netCountsSpec)

end Rows
end Go.Proofs.Ytnefhhoijonnaaa
