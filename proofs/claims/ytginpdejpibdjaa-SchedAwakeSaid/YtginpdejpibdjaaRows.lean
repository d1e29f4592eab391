/-
  No cell of these rows narrows 'for every input' (looked for: loops, veiled, ifaces, maps, wideKeys, modest, calm, conditions, laid).
  DERIVED. THE GIVEN ROWS OF THIS SEAT. 12 by the template 'for every input the law returns true; each argument reads behind the call as it read before'; 0 by the template 'total and deterministic' (their statements: YtginpdejpibdjaaTotals.lean).
  GIVEN WITH THE SEED: the statements are not yours to turn. If you find one false, say at which input.
  Laid BY PROGRAM, IN A SANDBOX (cutbox-rows.mjs): the forced cells as the released guide's own fill.sh prints them over the translation e2881a3faa95abcd… (all of the seat's roots in one cut). By AI agents, Wed Nov 11 2026. No macro, syntax, notation, axiom, sorry.
-/
import Derived.Test.YtginpdejpibdjaaChecked
import GoSem.Claim
import GoSem.ClaimJoined
import GoSem.ClaimMapViews
import Derived.JoinedTies
import Derived.KernelRfl
namespace Go.Proofs.Ytginpdejpibdjaa
/- THE CELL 'sum', in the pinned program and in every row, IS THE sha256 OF THE DUMP (.gsa) THAT YtginpdejpibdjaaProg.lean LOADS. Nothing in Lean hashes anything: it is a label: what it is worth is what the hold of that sum in a sandbox is worth. -/
noncomputable def Try.pinned : Pinned := { name := "ytginpdejpibdjaa", sum := "e2881a3faa95abcdffe7511fedcab749b880769d8df16b5122a4aa1d59add3bf", checked := Try.checked }
namespace Rows
def none {H : Type} : Left H := { results := [], args := [] }

/-- 'hibernaclelaw27.SchedPicks': WHATEVER THE INPUT: true; the input reads as it did. -/
def schedPicksSpec : ChangeSpec := { name := "schedPicks", fn := fun _ => fun
  | [d] => { results := [.lit (.bool true)], args := [d] }
  | _ => none }
def schedPicksRow : OpenClaim := { program := "ytginpdejpibdjaa", sum := "e2881a3faa95abcdffe7511fedcab749b880769d8df16b5122a4aa1d59add3bf", func := "hibernacle/hibernaclelaw27.SchedPicks", spec := "schedPicks", inPlace := ["internal/abi.NoEscape", "internal/bytealg.MakeNoZero"], unfollowed := true, recurses := true, apart := false }
def SchedPicksSaid : Prop := schedPicksRow.holds Try.pinned (OpenSpec.ofChange schedPicksSpec)

/-- ITS FALSE NEIGHBOUR: 'it returns false'. Refute it at one input. -/
def schedPicksWrong : ChangeSpec := { name := "schedPicks", fn := fun _ => fun
  | [d] => { results := [.lit (.bool false)], args := [d] }
  | _ => none }
def SchedPicksWrongFalsely : Prop := schedPicksRow.holds Try.pinned (OpenSpec.ofChange schedPicksWrong)

/-- 'hibernaclelaw27.SchedTurns': WHATEVER THE INPUT: true; the input reads as it did. -/
def schedTurnsSpec : ChangeSpec := { name := "schedTurns", fn := fun _ => fun
  | [d] => { results := [.lit (.bool true)], args := [d] }
  | _ => none }
def schedTurnsRow : OpenClaim := { program := "ytginpdejpibdjaa", sum := "e2881a3faa95abcdffe7511fedcab749b880769d8df16b5122a4aa1d59add3bf", func := "hibernacle/hibernaclelaw27.SchedTurns", spec := "schedTurns", inPlace := ["internal/abi.NoEscape", "internal/bytealg.MakeNoZero"], unfollowed := true, recurses := true, apart := false }
def SchedTurnsSaid : Prop := schedTurnsRow.holds Try.pinned (OpenSpec.ofChange schedTurnsSpec)

/-- ITS FALSE NEIGHBOUR: 'it returns false'. Refute it at one input. -/
def schedTurnsWrong : ChangeSpec := { name := "schedTurns", fn := fun _ => fun
  | [d] => { results := [.lit (.bool false)], args := [d] }
  | _ => none }
def SchedTurnsWrongFalsely : Prop := schedTurnsRow.holds Try.pinned (OpenSpec.ofChange schedTurnsWrong)

/-- 'hibernaclelaw27.SchedWakes': WHATEVER THE INPUT: true; the input reads as it did. -/
def schedWakesSpec : ChangeSpec := { name := "schedWakes", fn := fun _ => fun
  | [d1, d2] => { results := [.lit (.bool true)], args := [d1, d2] }
  | _ => none }
def schedWakesRow : OpenClaim := { program := "ytginpdejpibdjaa", sum := "e2881a3faa95abcdffe7511fedcab749b880769d8df16b5122a4aa1d59add3bf", func := "hibernacle/hibernaclelaw27.SchedWakes", spec := "schedWakes", inPlace := ["internal/abi.NoEscape", "internal/bytealg.MakeNoZero"], unfollowed := true, recurses := true, apart := false }
def SchedWakesSaid : Prop := schedWakesRow.holds Try.pinned (OpenSpec.ofChange schedWakesSpec)

/-- ITS FALSE NEIGHBOUR: 'it returns false'. Refute it at one input. -/
def schedWakesWrong : ChangeSpec := { name := "schedWakes", fn := fun _ => fun
  | [d1, d2] => { results := [.lit (.bool false)], args := [d1, d2] }
  | _ => none }
def SchedWakesWrongFalsely : Prop := schedWakesRow.holds Try.pinned (OpenSpec.ofChange schedWakesWrong)

/-- 'hibernaclelaw27.SchedTime': WHATEVER THE INPUT: true; the input reads as it did. -/
def schedTimeSpec : ChangeSpec := { name := "schedTime", fn := fun _ => fun
  | [d1, d2, d3] => { results := [.lit (.bool true)], args := [d1, d2, d3] }
  | _ => none }
def schedTimeRow : OpenClaim := { program := "ytginpdejpibdjaa", sum := "e2881a3faa95abcdffe7511fedcab749b880769d8df16b5122a4aa1d59add3bf", func := "hibernacle/hibernaclelaw27.SchedTime", spec := "schedTime", inPlace := ["internal/abi.NoEscape", "internal/bytealg.MakeNoZero"], unfollowed := true, recurses := true, apart := false }
def SchedTimeSaid : Prop := schedTimeRow.holds Try.pinned (OpenSpec.ofChange schedTimeSpec)

/-- ITS FALSE NEIGHBOUR: 'it returns false'. Refute it at one input. -/
def schedTimeWrong : ChangeSpec := { name := "schedTime", fn := fun _ => fun
  | [d1, d2, d3] => { results := [.lit (.bool false)], args := [d1, d2, d3] }
  | _ => none }
def SchedTimeWrongFalsely : Prop := schedTimeRow.holds Try.pinned (OpenSpec.ofChange schedTimeWrong)

/-- 'hibernaclelaw27.SchedStays': WHATEVER THE INPUT: true; the input reads as it did. -/
def schedStaysSpec : ChangeSpec := { name := "schedStays", fn := fun _ => fun
  | [d] => { results := [.lit (.bool true)], args := [d] }
  | _ => none }
def schedStaysRow : OpenClaim := { program := "ytginpdejpibdjaa", sum := "e2881a3faa95abcdffe7511fedcab749b880769d8df16b5122a4aa1d59add3bf", func := "hibernacle/hibernaclelaw27.SchedStays", spec := "schedStays", inPlace := ["internal/abi.NoEscape", "internal/bytealg.MakeNoZero"], unfollowed := true, recurses := true, apart := false }
def SchedStaysSaid : Prop := schedStaysRow.holds Try.pinned (OpenSpec.ofChange schedStaysSpec)

/-- ITS FALSE NEIGHBOUR: 'it returns false'. Refute it at one input. -/
def schedStaysWrong : ChangeSpec := { name := "schedStays", fn := fun _ => fun
  | [d] => { results := [.lit (.bool false)], args := [d] }
  | _ => none }
def SchedStaysWrongFalsely : Prop := schedStaysRow.holds Try.pinned (OpenSpec.ofChange schedStaysWrong)

/-- 'hibernaclelaw27.SchedAwake': WHATEVER THE INPUT: true; the input reads as it did. -/
def schedAwakeSpec : ChangeSpec := { name := "schedAwake", fn := fun _ => fun
  | [d] => { results := [.lit (.bool true)], args := [d] }
  | _ => none }
def schedAwakeRow : OpenClaim := { program := "ytginpdejpibdjaa", sum := "e2881a3faa95abcdffe7511fedcab749b880769d8df16b5122a4aa1d59add3bf", func := "hibernacle/hibernaclelaw27.SchedAwake", spec := "schedAwake", inPlace := ["internal/abi.NoEscape", "internal/bytealg.MakeNoZero"], unfollowed := true, recurses := true, apart := false }
def SchedAwakeSaid : Prop := schedAwakeRow.holds Try.pinned (OpenSpec.ofChange schedAwakeSpec)

/-- ITS FALSE NEIGHBOUR: 'it returns false'. Refute it at one input. -/
def schedAwakeWrong : ChangeSpec := { name := "schedAwake", fn := fun _ => fun
  | [d] => { results := [.lit (.bool false)], args := [d] }
  | _ => none }
def SchedAwakeWrongFalsely : Prop := schedAwakeRow.holds Try.pinned (OpenSpec.ofChange schedAwakeWrong)

/-- 'hibernaclelaw25.StateSpoilt': WHATEVER THE INPUT: true; the input reads as it did. -/
def stateSpoiltSpec : ChangeSpec := { name := "stateSpoilt", fn := fun _ => fun
  | [d1, d2] => { results := [.lit (.bool true)], args := [d1, d2] }
  | _ => none }
def stateSpoiltRow : OpenClaim := { program := "ytginpdejpibdjaa", sum := "e2881a3faa95abcdffe7511fedcab749b880769d8df16b5122a4aa1d59add3bf", func := "hibernacle/hibernaclelaw25.StateSpoilt", spec := "stateSpoilt", inPlace := ["internal/abi.NoEscape", "internal/bytealg.MakeNoZero"], unfollowed := true, recurses := true, apart := false }
def StateSpoiltSaid : Prop := stateSpoiltRow.holds Try.pinned (OpenSpec.ofChange stateSpoiltSpec)

/-- ITS FALSE NEIGHBOUR: 'it returns false'. Refute it at one input. -/
def stateSpoiltWrong : ChangeSpec := { name := "stateSpoilt", fn := fun _ => fun
  | [d1, d2] => { results := [.lit (.bool false)], args := [d1, d2] }
  | _ => none }
def StateSpoiltWrongFalsely : Prop := stateSpoiltRow.holds Try.pinned (OpenSpec.ofChange stateSpoiltWrong)

/-- 'hibernaclelaw25.StateFlows': WHATEVER THE INPUT: true; the input reads as it did. -/
def stateFlowsSpec : ChangeSpec := { name := "stateFlows", fn := fun _ => fun
  | [d1, d2] => { results := [.lit (.bool true)], args := [d1, d2] }
  | _ => none }
def stateFlowsRow : OpenClaim := { program := "ytginpdejpibdjaa", sum := "e2881a3faa95abcdffe7511fedcab749b880769d8df16b5122a4aa1d59add3bf", func := "hibernacle/hibernaclelaw25.StateFlows", spec := "stateFlows", inPlace := ["internal/abi.NoEscape", "internal/bytealg.MakeNoZero"], unfollowed := true, recurses := true, apart := false }
def StateFlowsSaid : Prop := stateFlowsRow.holds Try.pinned (OpenSpec.ofChange stateFlowsSpec)

/-- ITS FALSE NEIGHBOUR: 'it returns false'. Refute it at one input. -/
def stateFlowsWrong : ChangeSpec := { name := "stateFlows", fn := fun _ => fun
  | [d1, d2] => { results := [.lit (.bool false)], args := [d1, d2] }
  | _ => none }
def StateFlowsWrongFalsely : Prop := stateFlowsRow.holds Try.pinned (OpenSpec.ofChange stateFlowsWrong)

/-- 'hibernaclelaw25.StateFrames': WHATEVER THE INPUT: true; the input reads as it did. -/
def stateFramesSpec : ChangeSpec := { name := "stateFrames", fn := fun _ => fun
  | [d] => { results := [.lit (.bool true)], args := [d] }
  | _ => none }
def stateFramesRow : OpenClaim := { program := "ytginpdejpibdjaa", sum := "e2881a3faa95abcdffe7511fedcab749b880769d8df16b5122a4aa1d59add3bf", func := "hibernacle/hibernaclelaw25.StateFrames", spec := "stateFrames", inPlace := ["internal/abi.NoEscape", "internal/bytealg.MakeNoZero"], unfollowed := true, recurses := true, apart := false }
def StateFramesSaid : Prop := stateFramesRow.holds Try.pinned (OpenSpec.ofChange stateFramesSpec)

/-- ITS FALSE NEIGHBOUR: 'it returns false'. Refute it at one input. -/
def stateFramesWrong : ChangeSpec := { name := "stateFrames", fn := fun _ => fun
  | [d] => { results := [.lit (.bool false)], args := [d] }
  | _ => none }
def StateFramesWrongFalsely : Prop := stateFramesRow.holds Try.pinned (OpenSpec.ofChange stateFramesWrong)

/-- 'hibernaclelaw25.StatePipes': WHATEVER THE INPUT: true; the input reads as it did. -/
def statePipesSpec : ChangeSpec := { name := "statePipes", fn := fun _ => fun
  | [d1, d2] => { results := [.lit (.bool true)], args := [d1, d2] }
  | _ => none }
def statePipesRow : OpenClaim := { program := "ytginpdejpibdjaa", sum := "e2881a3faa95abcdffe7511fedcab749b880769d8df16b5122a4aa1d59add3bf", func := "hibernacle/hibernaclelaw25.StatePipes", spec := "statePipes", inPlace := ["internal/abi.NoEscape", "internal/bytealg.MakeNoZero"], unfollowed := true, recurses := true, apart := false }
def StatePipesSaid : Prop := statePipesRow.holds Try.pinned (OpenSpec.ofChange statePipesSpec)

/-- ITS FALSE NEIGHBOUR: 'it returns false'. Refute it at one input. -/
def statePipesWrong : ChangeSpec := { name := "statePipes", fn := fun _ => fun
  | [d1, d2] => { results := [.lit (.bool false)], args := [d1, d2] }
  | _ => none }
def StatePipesWrongFalsely : Prop := statePipesRow.holds Try.pinned (OpenSpec.ofChange statePipesWrong)

/-- 'hibernaclelaw25.StateSwept': WHATEVER THE INPUT: true; the input reads as it did. -/
def stateSweptSpec : ChangeSpec := { name := "stateSwept", fn := fun _ => fun
  | [d] => { results := [.lit (.bool true)], args := [d] }
  | _ => none }
def stateSweptRow : OpenClaim := { program := "ytginpdejpibdjaa", sum := "e2881a3faa95abcdffe7511fedcab749b880769d8df16b5122a4aa1d59add3bf", func := "hibernacle/hibernaclelaw25.StateSwept", spec := "stateSwept", inPlace := ["internal/abi.NoEscape", "internal/bytealg.MakeNoZero"], unfollowed := true, recurses := true, apart := false }
def StateSweptSaid : Prop := stateSweptRow.holds Try.pinned (OpenSpec.ofChange stateSweptSpec)

/-- ITS FALSE NEIGHBOUR: 'it returns false'. Refute it at one input. -/
def stateSweptWrong : ChangeSpec := { name := "stateSwept", fn := fun _ => fun
  | [d] => { results := [.lit (.bool false)], args := [d] }
  | _ => none }
def StateSweptWrongFalsely : Prop := stateSweptRow.holds Try.pinned (OpenSpec.ofChange stateSweptWrong)

/-- 'hibernaclelaw25.StateChecks': WHATEVER THE INPUT: true; the input reads as it did. -/
def stateChecksSpec : ChangeSpec := { name := "stateChecks", fn := fun _ => fun
  | [d1, d2] => { results := [.lit (.bool true)], args := [d1, d2] }
  | _ => none }
def stateChecksRow : OpenClaim := { program := "ytginpdejpibdjaa", sum := "e2881a3faa95abcdffe7511fedcab749b880769d8df16b5122a4aa1d59add3bf", func := "hibernacle/hibernaclelaw25.StateChecks", spec := "stateChecks", inPlace := ["internal/abi.NoEscape", "internal/bytealg.MakeNoZero"], unfollowed := true, recurses := true, apart := false }
def StateChecksSaid : Prop := stateChecksRow.holds Try.pinned (OpenSpec.ofChange stateChecksSpec)

/-- ITS FALSE NEIGHBOUR: 'it returns false'. Refute it at one input. -/
def stateChecksWrong : ChangeSpec := { name := "stateChecks", fn := fun _ => fun
  | [d1, d2] => { results := [.lit (.bool false)], args := [d1, d2] }
  | _ => none }
def StateChecksWrongFalsely : Prop := stateChecksRow.holds Try.pinned (OpenSpec.ofChange stateChecksWrong)

/- THE SECOND FORM. 'bulk': how many values and letters a reading holds, each counted each time it is reached (what is shared counts as often as it is met; a slice's spare places count too). A statement '..UptoSaid' is the law's where the arguments, and the package variables that the reading takes, are together of bulk at most 1048576: NARROWER than '..Said'. Prove '..Said' where nothing that the law and all that it calls make is longer than what came in: it says more and counts as full. Else prove '..UptoSaid'. A law counts once. -/
mutual
def uptoBulk {H : Type} : DataW H → Nat
  | .lit (.string bytes) => bytes.length + 1
  | .lit _ => 1
  | .nil => 1
  | .ptr d => uptoBulk d + 1
  | .slice elems spare => uptoBulkAll elems + uptoBulkAll spare + 1
  | .agg parts => uptoBulkAll parts + 1
  | .iface _ d => uptoBulk d + 1
  | .map entries => uptoBulkEntries entries + 1
  | .held _ => 1
def uptoBulkAll {H : Type} : List (DataW H) → Nat
  | [] => 0
  | d :: r => uptoBulk d + uptoBulkAll r
def uptoBulkEntries {H : Type} : List (Lit × DataW H) → Nat
  | [] => 0
  | x :: r => uptoBulkEntry x + uptoBulkEntries r
def uptoBulkEntry {H : Type} : Lit × DataW H → Nat
  | (.string bytes, d) => bytes.length + uptoBulk d + 1
  | (_, d) => uptoBulk d + 1
 end
def uptoSmall : (H : Type) → List (DataW H) → Bool := fun _ ds => decide (uptoBulkAll ds ≤ 1048576)
def OpenSpec.upto (s : _root_.Go.ChangeSpec) : _root_.Go.OpenSpec := { _root_.Go.OpenSpec.ofChange s with cond := some uptoSmall }

/-- 'hibernaclelaw27.SchedPicks', WHERE WHAT IT READS IS OF BULK AT MOST 1048576: true; the input reads as it did. -/
def schedPicksUptoRow : OpenClaim := { program := "ytginpdejpibdjaa", sum := "e2881a3faa95abcdffe7511fedcab749b880769d8df16b5122a4aa1d59add3bf", func := "hibernacle/hibernaclelaw27.SchedPicks", spec := "schedPicks", inPlace := ["internal/abi.NoEscape", "internal/bytealg.MakeNoZero"], unfollowed := true, recurses := true, apart := false, narrowed := true }
def SchedPicksUptoSaid : Prop := schedPicksUptoRow.holds Try.pinned (OpenSpec.upto schedPicksSpec)

/-- 'hibernaclelaw27.SchedTurns', WHERE WHAT IT READS IS OF BULK AT MOST 1048576: true; the input reads as it did. -/
def schedTurnsUptoRow : OpenClaim := { program := "ytginpdejpibdjaa", sum := "e2881a3faa95abcdffe7511fedcab749b880769d8df16b5122a4aa1d59add3bf", func := "hibernacle/hibernaclelaw27.SchedTurns", spec := "schedTurns", inPlace := ["internal/abi.NoEscape", "internal/bytealg.MakeNoZero"], unfollowed := true, recurses := true, apart := false, narrowed := true }
def SchedTurnsUptoSaid : Prop := schedTurnsUptoRow.holds Try.pinned (OpenSpec.upto schedTurnsSpec)

/-- 'hibernaclelaw27.SchedWakes', WHERE WHAT IT READS IS OF BULK AT MOST 1048576: true; the input reads as it did. -/
def schedWakesUptoRow : OpenClaim := { program := "ytginpdejpibdjaa", sum := "e2881a3faa95abcdffe7511fedcab749b880769d8df16b5122a4aa1d59add3bf", func := "hibernacle/hibernaclelaw27.SchedWakes", spec := "schedWakes", inPlace := ["internal/abi.NoEscape", "internal/bytealg.MakeNoZero"], unfollowed := true, recurses := true, apart := false, narrowed := true }
def SchedWakesUptoSaid : Prop := schedWakesUptoRow.holds Try.pinned (OpenSpec.upto schedWakesSpec)

/-- 'hibernaclelaw27.SchedTime', WHERE WHAT IT READS IS OF BULK AT MOST 1048576: true; the input reads as it did. -/
def schedTimeUptoRow : OpenClaim := { program := "ytginpdejpibdjaa", sum := "e2881a3faa95abcdffe7511fedcab749b880769d8df16b5122a4aa1d59add3bf", func := "hibernacle/hibernaclelaw27.SchedTime", spec := "schedTime", inPlace := ["internal/abi.NoEscape", "internal/bytealg.MakeNoZero"], unfollowed := true, recurses := true, apart := false, narrowed := true }
def SchedTimeUptoSaid : Prop := schedTimeUptoRow.holds Try.pinned (OpenSpec.upto schedTimeSpec)

/-- 'hibernaclelaw27.SchedStays', WHERE WHAT IT READS IS OF BULK AT MOST 1048576: true; the input reads as it did. -/
def schedStaysUptoRow : OpenClaim := { program := "ytginpdejpibdjaa", sum := "e2881a3faa95abcdffe7511fedcab749b880769d8df16b5122a4aa1d59add3bf", func := "hibernacle/hibernaclelaw27.SchedStays", spec := "schedStays", inPlace := ["internal/abi.NoEscape", "internal/bytealg.MakeNoZero"], unfollowed := true, recurses := true, apart := false, narrowed := true }
def SchedStaysUptoSaid : Prop := schedStaysUptoRow.holds Try.pinned (OpenSpec.upto schedStaysSpec)

/-- 'hibernaclelaw27.SchedAwake', WHERE WHAT IT READS IS OF BULK AT MOST 1048576: true; the input reads as it did. -/
def schedAwakeUptoRow : OpenClaim := { program := "ytginpdejpibdjaa", sum := "e2881a3faa95abcdffe7511fedcab749b880769d8df16b5122a4aa1d59add3bf", func := "hibernacle/hibernaclelaw27.SchedAwake", spec := "schedAwake", inPlace := ["internal/abi.NoEscape", "internal/bytealg.MakeNoZero"], unfollowed := true, recurses := true, apart := false, narrowed := true }
def SchedAwakeUptoSaid : Prop := schedAwakeUptoRow.holds Try.pinned (OpenSpec.upto schedAwakeSpec)

/-- 'hibernaclelaw25.StateSpoilt', WHERE WHAT IT READS IS OF BULK AT MOST 1048576: true; the input reads as it did. -/
def stateSpoiltUptoRow : OpenClaim := { program := "ytginpdejpibdjaa", sum := "e2881a3faa95abcdffe7511fedcab749b880769d8df16b5122a4aa1d59add3bf", func := "hibernacle/hibernaclelaw25.StateSpoilt", spec := "stateSpoilt", inPlace := ["internal/abi.NoEscape", "internal/bytealg.MakeNoZero"], unfollowed := true, recurses := true, apart := false, narrowed := true }
def StateSpoiltUptoSaid : Prop := stateSpoiltUptoRow.holds Try.pinned (OpenSpec.upto stateSpoiltSpec)

/-- 'hibernaclelaw25.StateFlows', WHERE WHAT IT READS IS OF BULK AT MOST 1048576: true; the input reads as it did. -/
def stateFlowsUptoRow : OpenClaim := { program := "ytginpdejpibdjaa", sum := "e2881a3faa95abcdffe7511fedcab749b880769d8df16b5122a4aa1d59add3bf", func := "hibernacle/hibernaclelaw25.StateFlows", spec := "stateFlows", inPlace := ["internal/abi.NoEscape", "internal/bytealg.MakeNoZero"], unfollowed := true, recurses := true, apart := false, narrowed := true }
def StateFlowsUptoSaid : Prop := stateFlowsUptoRow.holds Try.pinned (OpenSpec.upto stateFlowsSpec)

/-- 'hibernaclelaw25.StateFrames', WHERE WHAT IT READS IS OF BULK AT MOST 1048576: true; the input reads as it did. -/
def stateFramesUptoRow : OpenClaim := { program := "ytginpdejpibdjaa", sum := "e2881a3faa95abcdffe7511fedcab749b880769d8df16b5122a4aa1d59add3bf", func := "hibernacle/hibernaclelaw25.StateFrames", spec := "stateFrames", inPlace := ["internal/abi.NoEscape", "internal/bytealg.MakeNoZero"], unfollowed := true, recurses := true, apart := false, narrowed := true }
def StateFramesUptoSaid : Prop := stateFramesUptoRow.holds Try.pinned (OpenSpec.upto stateFramesSpec)

/-- 'hibernaclelaw25.StatePipes', WHERE WHAT IT READS IS OF BULK AT MOST 1048576: true; the input reads as it did. -/
def statePipesUptoRow : OpenClaim := { program := "ytginpdejpibdjaa", sum := "e2881a3faa95abcdffe7511fedcab749b880769d8df16b5122a4aa1d59add3bf", func := "hibernacle/hibernaclelaw25.StatePipes", spec := "statePipes", inPlace := ["internal/abi.NoEscape", "internal/bytealg.MakeNoZero"], unfollowed := true, recurses := true, apart := false, narrowed := true }
def StatePipesUptoSaid : Prop := statePipesUptoRow.holds Try.pinned (OpenSpec.upto statePipesSpec)

/-- 'hibernaclelaw25.StateSwept', WHERE WHAT IT READS IS OF BULK AT MOST 1048576: true; the input reads as it did. -/
def stateSweptUptoRow : OpenClaim := { program := "ytginpdejpibdjaa", sum := "e2881a3faa95abcdffe7511fedcab749b880769d8df16b5122a4aa1d59add3bf", func := "hibernacle/hibernaclelaw25.StateSwept", spec := "stateSwept", inPlace := ["internal/abi.NoEscape", "internal/bytealg.MakeNoZero"], unfollowed := true, recurses := true, apart := false, narrowed := true }
def StateSweptUptoSaid : Prop := stateSweptUptoRow.holds Try.pinned (OpenSpec.upto stateSweptSpec)

/-- 'hibernaclelaw25.StateChecks', WHERE WHAT IT READS IS OF BULK AT MOST 1048576: true; the input reads as it did. -/
def stateChecksUptoRow : OpenClaim := { program := "ytginpdejpibdjaa", sum := "e2881a3faa95abcdffe7511fedcab749b880769d8df16b5122a4aa1d59add3bf", func := "hibernacle/hibernaclelaw25.StateChecks", spec := "stateChecks", inPlace := ["internal/abi.NoEscape", "internal/bytealg.MakeNoZero"], unfollowed := true, recurses := true, apart := false, narrowed := true }
def StateChecksUptoSaid : Prop := stateChecksUptoRow.holds Try.pinned (OpenSpec.upto stateChecksSpec)

end Rows
end Go.Proofs.Ytginpdejpibdjaa
