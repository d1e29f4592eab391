/-
  No cell of these rows narrows 'for every input' (looked for: loops, veiled, ifaces, maps, wideKeys, modest, calm, conditions, laid).
  DERIVED. THE GIVEN ROWS OF THIS SEAT. 10 by the template 'for every input the law returns true; each argument reads behind the call as it read before'; 0 by the template 'total and deterministic' (their statements: YtpdhdkpebbfnnaaTotals.lean).
  GIVEN WITH THE SEED: the statements are not yours to turn. If you find one false, say at which input.
  Laid BY PROGRAM, IN A SANDBOX (cutbox-rows.mjs): the forced cells as the released guide's own fill.sh prints them over the translation 52497ac11a9b49a4… (all of the seat's roots in one cut). By AI agents, Wed Nov 11 2026. No macro, syntax, notation, axiom, sorry.
-/
import Derived.Test.YtpdhdkpebbfnnaaChecked
import GoSem.Claim
import GoSem.ClaimJoined
import GoSem.ClaimMapViews
import Derived.JoinedTies
import Derived.KernelRfl
namespace Go.Proofs.Ytpdhdkpebbfnnaa
/- THE CELL 'sum', in the pinned program and in every row, IS THE sha256 OF THE DUMP (.gsa) THAT YtpdhdkpebbfnnaaProg.lean LOADS. Nothing in Lean hashes anything: it is a label: what it is worth is what the hold of that sum in a sandbox is worth. -/
noncomputable def Try.pinned : Pinned := { name := "ytpdhdkpebbfnnaa", sum := "52497ac11a9b49a4a15cb85e79384e0e0fc0498b0bcf37a703335a4929b53a78", checked := Try.checked }
namespace Rows
def none {H : Type} : Left H := { results := [], args := [] }

/-- 'hibernaclelaw26.ProcSpawns': WHATEVER THE INPUT: true; the input reads as it did. -/
def procSpawnsSpec : ChangeSpec := { name := "procSpawns", fn := fun _ => fun
  | [d1, d2, d3, d4, d5] => { results := [.lit (.bool true)], args := [d1, d2, d3, d4, d5] }
  | _ => none }
def procSpawnsRow : OpenClaim := { program := "ytpdhdkpebbfnnaa", sum := "52497ac11a9b49a4a15cb85e79384e0e0fc0498b0bcf37a703335a4929b53a78", func := "hibernacle/hibernaclelaw26.ProcSpawns", spec := "procSpawns", inPlace := ["internal/abi.NoEscape", "internal/bytealg.MakeNoZero"], unfollowed := true, recurses := true, apart := false }
def ProcSpawnsSaid : Prop := procSpawnsRow.holds Try.pinned (OpenSpec.ofChange procSpawnsSpec)

/-- ITS FALSE NEIGHBOUR: 'it returns false'. Refute it at one input. -/
def procSpawnsWrong : ChangeSpec := { name := "procSpawns", fn := fun _ => fun
  | [d1, d2, d3, d4, d5] => { results := [.lit (.bool false)], args := [d1, d2, d3, d4, d5] }
  | _ => none }
def ProcSpawnsWrongFalsely : Prop := procSpawnsRow.holds Try.pinned (OpenSpec.ofChange procSpawnsWrong)

/-- 'hibernaclelaw26.ProcFull': WHATEVER THE INPUT: true; the input reads as it did. -/
def procFullSpec : ChangeSpec := { name := "procFull", fn := fun _ => fun
  | [d1, d2] => { results := [.lit (.bool true)], args := [d1, d2] }
  | _ => none }
def procFullRow : OpenClaim := { program := "ytpdhdkpebbfnnaa", sum := "52497ac11a9b49a4a15cb85e79384e0e0fc0498b0bcf37a703335a4929b53a78", func := "hibernacle/hibernaclelaw26.ProcFull", spec := "procFull", inPlace := ["internal/abi.NoEscape", "internal/bytealg.MakeNoZero"], unfollowed := true, recurses := true, apart := false }
def ProcFullSaid : Prop := procFullRow.holds Try.pinned (OpenSpec.ofChange procFullSpec)

/-- ITS FALSE NEIGHBOUR: 'it returns false'. Refute it at one input. -/
def procFullWrong : ChangeSpec := { name := "procFull", fn := fun _ => fun
  | [d1, d2] => { results := [.lit (.bool false)], args := [d1, d2] }
  | _ => none }
def ProcFullWrongFalsely : Prop := procFullRow.holds Try.pinned (OpenSpec.ofChange procFullWrong)

/-- 'hibernaclelaw26.ProcGrows': WHATEVER THE INPUT: true; the input reads as it did. -/
def procGrowsSpec : ChangeSpec := { name := "procGrows", fn := fun _ => fun
  | [d1, d2, d3] => { results := [.lit (.bool true)], args := [d1, d2, d3] }
  | _ => none }
def procGrowsRow : OpenClaim := { program := "ytpdhdkpebbfnnaa", sum := "52497ac11a9b49a4a15cb85e79384e0e0fc0498b0bcf37a703335a4929b53a78", func := "hibernacle/hibernaclelaw26.ProcGrows", spec := "procGrows", inPlace := ["internal/abi.NoEscape", "internal/bytealg.MakeNoZero"], unfollowed := true, recurses := true, apart := false }
def ProcGrowsSaid : Prop := procGrowsRow.holds Try.pinned (OpenSpec.ofChange procGrowsSpec)

/-- ITS FALSE NEIGHBOUR: 'it returns false'. Refute it at one input. -/
def procGrowsWrong : ChangeSpec := { name := "procGrows", fn := fun _ => fun
  | [d1, d2, d3] => { results := [.lit (.bool false)], args := [d1, d2, d3] }
  | _ => none }
def ProcGrowsWrongFalsely : Prop := procGrowsRow.holds Try.pinned (OpenSpec.ofChange procGrowsWrong)

/-- 'hibernaclelaw26.ProcBack': WHATEVER THE INPUT: true; the input reads as it did. -/
def procBackSpec : ChangeSpec := { name := "procBack", fn := fun _ => fun
  | [d1, d2, d3, d4] => { results := [.lit (.bool true)], args := [d1, d2, d3, d4] }
  | _ => none }
def procBackRow : OpenClaim := { program := "ytpdhdkpebbfnnaa", sum := "52497ac11a9b49a4a15cb85e79384e0e0fc0498b0bcf37a703335a4929b53a78", func := "hibernacle/hibernaclelaw26.ProcBack", spec := "procBack", inPlace := ["internal/abi.NoEscape", "internal/bytealg.MakeNoZero"], unfollowed := true, recurses := true, apart := false }
def ProcBackSaid : Prop := procBackRow.holds Try.pinned (OpenSpec.ofChange procBackSpec)

/-- ITS FALSE NEIGHBOUR: 'it returns false'. Refute it at one input. -/
def procBackWrong : ChangeSpec := { name := "procBack", fn := fun _ => fun
  | [d1, d2, d3, d4] => { results := [.lit (.bool false)], args := [d1, d2, d3, d4] }
  | _ => none }
def ProcBackWrongFalsely : Prop := procBackRow.holds Try.pinned (OpenSpec.ofChange procBackWrong)

/-- 'hibernaclelaw26.ProcEnds': WHATEVER THE INPUT: true; the input reads as it did. -/
def procEndsSpec : ChangeSpec := { name := "procEnds", fn := fun _ => fun
  | [d1, d2, d3, d4] => { results := [.lit (.bool true)], args := [d1, d2, d3, d4] }
  | _ => none }
def procEndsRow : OpenClaim := { program := "ytpdhdkpebbfnnaa", sum := "52497ac11a9b49a4a15cb85e79384e0e0fc0498b0bcf37a703335a4929b53a78", func := "hibernacle/hibernaclelaw26.ProcEnds", spec := "procEnds", inPlace := ["internal/abi.NoEscape", "internal/bytealg.MakeNoZero"], unfollowed := true, recurses := true, apart := false }
def ProcEndsSaid : Prop := procEndsRow.holds Try.pinned (OpenSpec.ofChange procEndsSpec)

/-- ITS FALSE NEIGHBOUR: 'it returns false'. Refute it at one input. -/
def procEndsWrong : ChangeSpec := { name := "procEnds", fn := fun _ => fun
  | [d1, d2, d3, d4] => { results := [.lit (.bool false)], args := [d1, d2, d3, d4] }
  | _ => none }
def ProcEndsWrongFalsely : Prop := procEndsRow.holds Try.pinned (OpenSpec.ofChange procEndsWrong)

/-- 'hibernaclelaw26.ProcLaid': WHATEVER THE INPUT: true; the input reads as it did. -/
def procLaidSpec : ChangeSpec := { name := "procLaid", fn := fun _ => fun
  | [d1, d2] => { results := [.lit (.bool true)], args := [d1, d2] }
  | _ => none }
def procLaidRow : OpenClaim := { program := "ytpdhdkpebbfnnaa", sum := "52497ac11a9b49a4a15cb85e79384e0e0fc0498b0bcf37a703335a4929b53a78", func := "hibernacle/hibernaclelaw26.ProcLaid", spec := "procLaid", inPlace := ["internal/abi.NoEscape", "internal/bytealg.MakeNoZero"], unfollowed := true, recurses := true, apart := false }
def ProcLaidSaid : Prop := procLaidRow.holds Try.pinned (OpenSpec.ofChange procLaidSpec)

/-- ITS FALSE NEIGHBOUR: 'it returns false'. Refute it at one input. -/
def procLaidWrong : ChangeSpec := { name := "procLaid", fn := fun _ => fun
  | [d1, d2] => { results := [.lit (.bool false)], args := [d1, d2] }
  | _ => none }
def ProcLaidWrongFalsely : Prop := procLaidRow.holds Try.pinned (OpenSpec.ofChange procLaidWrong)

/-- 'hibernaclelaw26.ProcApart': WHATEVER THE INPUT: true; the input reads as it did. -/
def procApartSpec : ChangeSpec := { name := "procApart", fn := fun _ => fun
  | [d1, d2, d3, d4, d5] => { results := [.lit (.bool true)], args := [d1, d2, d3, d4, d5] }
  | _ => none }
def procApartRow : OpenClaim := { program := "ytpdhdkpebbfnnaa", sum := "52497ac11a9b49a4a15cb85e79384e0e0fc0498b0bcf37a703335a4929b53a78", func := "hibernacle/hibernaclelaw26.ProcApart", spec := "procApart", inPlace := ["internal/abi.NoEscape", "internal/bytealg.MakeNoZero"], unfollowed := true, recurses := true, apart := false }
def ProcApartSaid : Prop := procApartRow.holds Try.pinned (OpenSpec.ofChange procApartSpec)

/-- ITS FALSE NEIGHBOUR: 'it returns false'. Refute it at one input. -/
def procApartWrong : ChangeSpec := { name := "procApart", fn := fun _ => fun
  | [d1, d2, d3, d4, d5] => { results := [.lit (.bool false)], args := [d1, d2, d3, d4, d5] }
  | _ => none }
def ProcApartWrongFalsely : Prop := procApartRow.holds Try.pinned (OpenSpec.ofChange procApartWrong)

/-- 'hibernaclelaw25.StateSpoilt': WHATEVER THE INPUT: true; the input reads as it did. -/
def stateSpoiltSpec : ChangeSpec := { name := "stateSpoilt", fn := fun _ => fun
  | [d1, d2] => { results := [.lit (.bool true)], args := [d1, d2] }
  | _ => none }
def stateSpoiltRow : OpenClaim := { program := "ytpdhdkpebbfnnaa", sum := "52497ac11a9b49a4a15cb85e79384e0e0fc0498b0bcf37a703335a4929b53a78", func := "hibernacle/hibernaclelaw25.StateSpoilt", spec := "stateSpoilt", inPlace := ["internal/abi.NoEscape", "internal/bytealg.MakeNoZero"], unfollowed := true, recurses := true, apart := false }
def StateSpoiltSaid : Prop := stateSpoiltRow.holds Try.pinned (OpenSpec.ofChange stateSpoiltSpec)

/-- ITS FALSE NEIGHBOUR: 'it returns false'. Refute it at one input. -/
def stateSpoiltWrong : ChangeSpec := { name := "stateSpoilt", fn := fun _ => fun
  | [d1, d2] => { results := [.lit (.bool false)], args := [d1, d2] }
  | _ => none }
def StateSpoiltWrongFalsely : Prop := stateSpoiltRow.holds Try.pinned (OpenSpec.ofChange stateSpoiltWrong)

/-- 'hibernaclelaw25.StateFrames': WHATEVER THE INPUT: true; the input reads as it did. -/
def stateFramesSpec : ChangeSpec := { name := "stateFrames", fn := fun _ => fun
  | [d] => { results := [.lit (.bool true)], args := [d] }
  | _ => none }
def stateFramesRow : OpenClaim := { program := "ytpdhdkpebbfnnaa", sum := "52497ac11a9b49a4a15cb85e79384e0e0fc0498b0bcf37a703335a4929b53a78", func := "hibernacle/hibernaclelaw25.StateFrames", spec := "stateFrames", inPlace := ["internal/abi.NoEscape", "internal/bytealg.MakeNoZero"], unfollowed := true, recurses := true, apart := false }
def StateFramesSaid : Prop := stateFramesRow.holds Try.pinned (OpenSpec.ofChange stateFramesSpec)

/-- ITS FALSE NEIGHBOUR: 'it returns false'. Refute it at one input. -/
def stateFramesWrong : ChangeSpec := { name := "stateFrames", fn := fun _ => fun
  | [d] => { results := [.lit (.bool false)], args := [d] }
  | _ => none }
def StateFramesWrongFalsely : Prop := stateFramesRow.holds Try.pinned (OpenSpec.ofChange stateFramesWrong)

/-- 'hibernaclelaw26.ProcRight': WHATEVER THE INPUT: true; the input reads as it did. -/
def procRightSpec : ChangeSpec := { name := "procRight", fn := fun _ => fun
  | [d1, d2, d3, d4, d5] => { results := [.lit (.bool true)], args := [d1, d2, d3, d4, d5] }
  | _ => none }
def procRightRow : OpenClaim := { program := "ytpdhdkpebbfnnaa", sum := "52497ac11a9b49a4a15cb85e79384e0e0fc0498b0bcf37a703335a4929b53a78", func := "hibernacle/hibernaclelaw26.ProcRight", spec := "procRight", inPlace := ["internal/abi.NoEscape", "internal/bytealg.MakeNoZero"], unfollowed := true, recurses := true, apart := false }
def ProcRightSaid : Prop := procRightRow.holds Try.pinned (OpenSpec.ofChange procRightSpec)

/-- ITS FALSE NEIGHBOUR: 'it returns false'. Refute it at one input. -/
def procRightWrong : ChangeSpec := { name := "procRight", fn := fun _ => fun
  | [d1, d2, d3, d4, d5] => { results := [.lit (.bool false)], args := [d1, d2, d3, d4, d5] }
  | _ => none }
def ProcRightWrongFalsely : Prop := procRightRow.holds Try.pinned (OpenSpec.ofChange procRightWrong)

/- THE SECOND FORM. 'bulk': how many values and letters a reading holds, each counted each time it is reached (what is shared counts as often as it is met; a slice's spare places count too). A statement '..UptoSaid' is the law's where the arguments, and the package variables that the reading takes, are together of bulk at most 1048576: NARROWER than '..Said'. Prove '..Said' where nothing that the law and all that it calls make is longer than what came in: it says more and counts as full. Else prove '..UptoSaid'. A law counts once. -/
mutual
def uptoBulk {H : Type} : DataW H → Nat
  | .lit (.string bytes) => bytes.length + 1
  | .lit _ => 1
  | .nil => 1
  | .ptr d => uptoBulk d + 1
  | .slice elems spare => uptoBulkAll elems + uptoBulkAll spare + 1
  | .agg parts => uptoBulkAll parts + 1
  | .iface _ d => uptoBulk d + 1
  | .map entries => uptoBulkEntries entries + 1
  | .held _ => 1
def uptoBulkAll {H : Type} : List (DataW H) → Nat
  | [] => 0
  | d :: r => uptoBulk d + uptoBulkAll r
def uptoBulkEntries {H : Type} : List (Lit × DataW H) → Nat
  | [] => 0
  | x :: r => uptoBulkEntry x + uptoBulkEntries r
def uptoBulkEntry {H : Type} : Lit × DataW H → Nat
  | (.string bytes, d) => bytes.length + uptoBulk d + 1
  | (_, d) => uptoBulk d + 1
 end
def uptoSmall : (H : Type) → List (DataW H) → Bool := fun _ ds => decide (uptoBulkAll ds ≤ 1048576)
def OpenSpec.upto (s : _root_.Go.ChangeSpec) : _root_.Go.OpenSpec := { _root_.Go.OpenSpec.ofChange s with cond := some uptoSmall }

/-- 'hibernaclelaw26.ProcSpawns', WHERE WHAT IT READS IS OF BULK AT MOST 1048576: true; the input reads as it did. -/
def procSpawnsUptoRow : OpenClaim := { program := "ytpdhdkpebbfnnaa", sum := "52497ac11a9b49a4a15cb85e79384e0e0fc0498b0bcf37a703335a4929b53a78", func := "hibernacle/hibernaclelaw26.ProcSpawns", spec := "procSpawns", inPlace := ["internal/abi.NoEscape", "internal/bytealg.MakeNoZero"], unfollowed := true, recurses := true, apart := false, narrowed := true }
def ProcSpawnsUptoSaid : Prop := procSpawnsUptoRow.holds Try.pinned (OpenSpec.upto procSpawnsSpec)

/-- 'hibernaclelaw26.ProcFull', WHERE WHAT IT READS IS OF BULK AT MOST 1048576: true; the input reads as it did. -/
def procFullUptoRow : OpenClaim := { program := "ytpdhdkpebbfnnaa", sum := "52497ac11a9b49a4a15cb85e79384e0e0fc0498b0bcf37a703335a4929b53a78", func := "hibernacle/hibernaclelaw26.ProcFull", spec := "procFull", inPlace := ["internal/abi.NoEscape", "internal/bytealg.MakeNoZero"], unfollowed := true, recurses := true, apart := false, narrowed := true }
def ProcFullUptoSaid : Prop := procFullUptoRow.holds Try.pinned (OpenSpec.upto procFullSpec)

/-- 'hibernaclelaw26.ProcGrows', WHERE WHAT IT READS IS OF BULK AT MOST 1048576: true; the input reads as it did. -/
def procGrowsUptoRow : OpenClaim := { program := "ytpdhdkpebbfnnaa", sum := "52497ac11a9b49a4a15cb85e79384e0e0fc0498b0bcf37a703335a4929b53a78", func := "hibernacle/hibernaclelaw26.ProcGrows", spec := "procGrows", inPlace := ["internal/abi.NoEscape", "internal/bytealg.MakeNoZero"], unfollowed := true, recurses := true, apart := false, narrowed := true }
def ProcGrowsUptoSaid : Prop := procGrowsUptoRow.holds Try.pinned (OpenSpec.upto procGrowsSpec)

/-- 'hibernaclelaw26.ProcBack', WHERE WHAT IT READS IS OF BULK AT MOST 1048576: true; the input reads as it did. -/
def procBackUptoRow : OpenClaim := { program := "ytpdhdkpebbfnnaa", sum := "52497ac11a9b49a4a15cb85e79384e0e0fc0498b0bcf37a703335a4929b53a78", func := "hibernacle/hibernaclelaw26.ProcBack", spec := "procBack", inPlace := ["internal/abi.NoEscape", "internal/bytealg.MakeNoZero"], unfollowed := true, recurses := true, apart := false, narrowed := true }
def ProcBackUptoSaid : Prop := procBackUptoRow.holds Try.pinned (OpenSpec.upto procBackSpec)

/-- 'hibernaclelaw26.ProcEnds', WHERE WHAT IT READS IS OF BULK AT MOST 1048576: true; the input reads as it did. -/
def procEndsUptoRow : OpenClaim := { program := "ytpdhdkpebbfnnaa", sum := "52497ac11a9b49a4a15cb85e79384e0e0fc0498b0bcf37a703335a4929b53a78", func := "hibernacle/hibernaclelaw26.ProcEnds", spec := "procEnds", inPlace := ["internal/abi.NoEscape", "internal/bytealg.MakeNoZero"], unfollowed := true, recurses := true, apart := false, narrowed := true }
def ProcEndsUptoSaid : Prop := procEndsUptoRow.holds Try.pinned (OpenSpec.upto procEndsSpec)

/-- 'hibernaclelaw26.ProcLaid', WHERE WHAT IT READS IS OF BULK AT MOST 1048576: true; the input reads as it did. -/
def procLaidUptoRow : OpenClaim := { program := "ytpdhdkpebbfnnaa", sum := "52497ac11a9b49a4a15cb85e79384e0e0fc0498b0bcf37a703335a4929b53a78", func := "hibernacle/hibernaclelaw26.ProcLaid", spec := "procLaid", inPlace := ["internal/abi.NoEscape", "internal/bytealg.MakeNoZero"], unfollowed := true, recurses := true, apart := false, narrowed := true }
def ProcLaidUptoSaid : Prop := procLaidUptoRow.holds Try.pinned (OpenSpec.upto procLaidSpec)

/-- 'hibernaclelaw26.ProcApart', WHERE WHAT IT READS IS OF BULK AT MOST 1048576: true; the input reads as it did. -/
def procApartUptoRow : OpenClaim := { program := "ytpdhdkpebbfnnaa", sum := "52497ac11a9b49a4a15cb85e79384e0e0fc0498b0bcf37a703335a4929b53a78", func := "hibernacle/hibernaclelaw26.ProcApart", spec := "procApart", inPlace := ["internal/abi.NoEscape", "internal/bytealg.MakeNoZero"], unfollowed := true, recurses := true, apart := false, narrowed := true }
def ProcApartUptoSaid : Prop := procApartUptoRow.holds Try.pinned (OpenSpec.upto procApartSpec)

/-- 'hibernaclelaw25.StateSpoilt', WHERE WHAT IT READS IS OF BULK AT MOST 1048576: true; the input reads as it did. -/
def stateSpoiltUptoRow : OpenClaim := { program := "ytpdhdkpebbfnnaa", sum := "52497ac11a9b49a4a15cb85e79384e0e0fc0498b0bcf37a703335a4929b53a78", func := "hibernacle/hibernaclelaw25.StateSpoilt", spec := "stateSpoilt", inPlace := ["internal/abi.NoEscape", "internal/bytealg.MakeNoZero"], unfollowed := true, recurses := true, apart := false, narrowed := true }
def StateSpoiltUptoSaid : Prop := stateSpoiltUptoRow.holds Try.pinned (OpenSpec.upto stateSpoiltSpec)

/-- 'hibernaclelaw25.StateFrames', WHERE WHAT IT READS IS OF BULK AT MOST 1048576: true; the input reads as it did. -/
def stateFramesUptoRow : OpenClaim := { program := "ytpdhdkpebbfnnaa", sum := "52497ac11a9b49a4a15cb85e79384e0e0fc0498b0bcf37a703335a4929b53a78", func := "hibernacle/hibernaclelaw25.StateFrames", spec := "stateFrames", inPlace := ["internal/abi.NoEscape", "internal/bytealg.MakeNoZero"], unfollowed := true, recurses := true, apart := false, narrowed := true }
def StateFramesUptoSaid : Prop := stateFramesUptoRow.holds Try.pinned (OpenSpec.upto stateFramesSpec)

/-- 'hibernaclelaw26.ProcRight', WHERE WHAT IT READS IS OF BULK AT MOST 1048576: true; the input reads as it did. -/
def procRightUptoRow : OpenClaim := { program := "ytpdhdkpebbfnnaa", sum := "52497ac11a9b49a4a15cb85e79384e0e0fc0498b0bcf37a703335a4929b53a78", func := "hibernacle/hibernaclelaw26.ProcRight", spec := "procRight", inPlace := ["internal/abi.NoEscape", "internal/bytealg.MakeNoZero"], unfollowed := true, recurses := true, apart := false, narrowed := true }
def ProcRightUptoSaid : Prop := procRightUptoRow.holds Try.pinned (OpenSpec.upto procRightSpec)

end Rows
end Go.Proofs.Ytpdhdkpebbfnnaa
