/-
  NARROWER THAN 'FOR EVERY INPUT', by the rows' own cells (each row's printed sentence says how): WalFormats: laid · WalCommits: laid · WalHeads: laid · WalSwaps: laid · WalRecovers: laid.
  DERIVED. THE GIVEN ROWS OF THIS SEAT. 5 by the template 'for every input the law returns true; each argument reads behind the call as it read before'; 0 by the template 'total and deterministic' (their statements: YtcilmfhncjfdbaaDoorTotals.lean).
  GIVEN WITH THE SEED: the statements are not yours to turn. If you find one false, say at which input.
  Laid BY PROGRAM, IN A SANDBOX (cutbox-rows.mjs): the forced cells as the released guide's own fill.sh prints them over the translation dbaba9d0b9ce511a… (all of the seat's roots in one cut). By AI agents, Wed Nov 11 2026. No macro, syntax, notation, axiom, sorry.
-/
import Derived.Test.YtcilmfhncjfdbaaDoorChecked
import GoSem.Claim
import GoSem.ClaimJoined
import GoSem.ClaimMapViews
import Derived.JoinedTies
import Derived.KernelRfl
namespace Go.Proofs.YtcilmfhncjfdbaaDoor
/- THE CELL 'sum', in the pinned program and in every row, IS THE sha256 OF THE DUMP (.gsa) THAT YtcilmfhncjfdbaaDoorProg.lean LOADS. Nothing in Lean hashes anything: it is a label: what it is worth is what the hold of that sum in a sandbox is worth. -/
noncomputable def Tryd.pinned : Pinned := { name := "ytcilmfhncjfdbaadoor", sum := "dbaba9d0b9ce511a011f90cf54d6700539f83a891fa359520337a669fa787583", checked := Tryd.checked }
namespace Rows
def none {H : Type} : Left H := { results := [], args := [] }

/- WHAT THE LISTED PACKAGE-LEVEL VARIABLES READ AS WHEN THE CALL BEGINS. Each datum BY PROGRAM (the guide's laid-datum.mjs) off the statement by which the dump's own 'gosem.cut.vars' lays the variable. In a bare row this is a premise. The card (YtcilmfhncjfdbaaDoorCards.lean) ties it to the program's text. -/
def laid_hibernacle_hash_eight {H : Type} : DataW H := .agg [.lit (.int .u32 1779033703), .lit (.int .u32 3144134277), .lit (.int .u32 1013904242), .lit (.int .u32 2773480762), .lit (.int .u32 1359893119), .lit (.int .u32 2600822924), .lit (.int .u32 528734635), .lit (.int .u32 1541459225)]
def laid_hibernacle_hash_rows {H : Type} : DataW H := .agg [.agg [.lit (.int .u8 0), .lit (.int .u8 1), .lit (.int .u8 2), .lit (.int .u8 3), .lit (.int .u8 4), .lit (.int .u8 5), .lit (.int .u8 6), .lit (.int .u8 7), .lit (.int .u8 8), .lit (.int .u8 9), .lit (.int .u8 10), .lit (.int .u8 11), .lit (.int .u8 12), .lit (.int .u8 13), .lit (.int .u8 14), .lit (.int .u8 15)], .agg [.lit (.int .u8 14), .lit (.int .u8 10), .lit (.int .u8 4), .lit (.int .u8 8), .lit (.int .u8 9), .lit (.int .u8 15), .lit (.int .u8 13), .lit (.int .u8 6), .lit (.int .u8 1), .lit (.int .u8 12), .lit (.int .u8 0), .lit (.int .u8 2), .lit (.int .u8 11), .lit (.int .u8 7), .lit (.int .u8 5), .lit (.int .u8 3)], .agg [.lit (.int .u8 11), .lit (.int .u8 8), .lit (.int .u8 12), .lit (.int .u8 0), .lit (.int .u8 5), .lit (.int .u8 2), .lit (.int .u8 15), .lit (.int .u8 13), .lit (.int .u8 10), .lit (.int .u8 14), .lit (.int .u8 3), .lit (.int .u8 6), .lit (.int .u8 7), .lit (.int .u8 1), .lit (.int .u8 9), .lit (.int .u8 4)], .agg [.lit (.int .u8 7), .lit (.int .u8 9), .lit (.int .u8 3), .lit (.int .u8 1), .lit (.int .u8 13), .lit (.int .u8 12), .lit (.int .u8 11), .lit (.int .u8 14), .lit (.int .u8 2), .lit (.int .u8 6), .lit (.int .u8 5), .lit (.int .u8 10), .lit (.int .u8 4), .lit (.int .u8 0), .lit (.int .u8 15), .lit (.int .u8 8)], .agg [.lit (.int .u8 9), .lit (.int .u8 0), .lit (.int .u8 5), .lit (.int .u8 7), .lit (.int .u8 2), .lit (.int .u8 4), .lit (.int .u8 10), .lit (.int .u8 15), .lit (.int .u8 14), .lit (.int .u8 1), .lit (.int .u8 11), .lit (.int .u8 12), .lit (.int .u8 6), .lit (.int .u8 8), .lit (.int .u8 3), .lit (.int .u8 13)], .agg [.lit (.int .u8 2), .lit (.int .u8 12), .lit (.int .u8 6), .lit (.int .u8 10), .lit (.int .u8 0), .lit (.int .u8 11), .lit (.int .u8 8), .lit (.int .u8 3), .lit (.int .u8 4), .lit (.int .u8 13), .lit (.int .u8 7), .lit (.int .u8 5), .lit (.int .u8 15), .lit (.int .u8 14), .lit (.int .u8 1), .lit (.int .u8 9)], .agg [.lit (.int .u8 12), .lit (.int .u8 5), .lit (.int .u8 1), .lit (.int .u8 15), .lit (.int .u8 14), .lit (.int .u8 13), .lit (.int .u8 4), .lit (.int .u8 10), .lit (.int .u8 0), .lit (.int .u8 7), .lit (.int .u8 6), .lit (.int .u8 3), .lit (.int .u8 9), .lit (.int .u8 2), .lit (.int .u8 8), .lit (.int .u8 11)], .agg [.lit (.int .u8 13), .lit (.int .u8 11), .lit (.int .u8 7), .lit (.int .u8 14), .lit (.int .u8 12), .lit (.int .u8 1), .lit (.int .u8 3), .lit (.int .u8 9), .lit (.int .u8 5), .lit (.int .u8 0), .lit (.int .u8 15), .lit (.int .u8 4), .lit (.int .u8 8), .lit (.int .u8 6), .lit (.int .u8 2), .lit (.int .u8 10)], .agg [.lit (.int .u8 6), .lit (.int .u8 15), .lit (.int .u8 14), .lit (.int .u8 9), .lit (.int .u8 11), .lit (.int .u8 3), .lit (.int .u8 0), .lit (.int .u8 8), .lit (.int .u8 12), .lit (.int .u8 2), .lit (.int .u8 13), .lit (.int .u8 7), .lit (.int .u8 1), .lit (.int .u8 4), .lit (.int .u8 10), .lit (.int .u8 5)], .agg [.lit (.int .u8 10), .lit (.int .u8 2), .lit (.int .u8 8), .lit (.int .u8 4), .lit (.int .u8 7), .lit (.int .u8 6), .lit (.int .u8 1), .lit (.int .u8 5), .lit (.int .u8 15), .lit (.int .u8 11), .lit (.int .u8 9), .lit (.int .u8 14), .lit (.int .u8 3), .lit (.int .u8 12), .lit (.int .u8 13), .lit (.int .u8 0)]]

/-- 'hibernaclelaw16.WalFormats': WHATEVER THE INPUT: true; the input reads as it did. -/
def walFormatsSpec : ChangeSpec := { name := "walFormats", fn := fun _ => fun
  | [d] => { results := [.lit (.bool true)], args := [d] }
  | _ => none }
def walFormatsRow : OpenClaim := { program := "ytcilmfhncjfdbaadoor", sum := "dbaba9d0b9ce511a011f90cf54d6700539f83a891fa359520337a669fa787583", func := "hibernacle/hibernaclelaw16.WalFormats", spec := "walFormats", inPlace := ["internal/abi.NoEscape", "internal/bytealg.MakeNoZero"], unfollowed := true, recurses := true, named := ["hibernacle/hash.eight", "hibernacle/hash.rows"], apart := false, laid := [("hibernacle/hash.eight", laid_hibernacle_hash_eight), ("hibernacle/hash.rows", laid_hibernacle_hash_rows)] }
def WalFormatsSaid : Prop := walFormatsRow.holds Tryd.pinned (OpenSpec.ofChange walFormatsSpec)

/-- ITS FALSE NEIGHBOUR: 'it returns false'. Refute it at one input. -/
def walFormatsWrong : ChangeSpec := { name := "walFormats", fn := fun _ => fun
  | [d] => { results := [.lit (.bool false)], args := [d] }
  | _ => none }
def WalFormatsWrongFalsely : Prop := walFormatsRow.holds Tryd.pinned (OpenSpec.ofChange walFormatsWrong)

/-- 'hibernaclelaw16.WalCommits': WHATEVER THE INPUT: true; the input reads as it did. -/
def walCommitsSpec : ChangeSpec := { name := "walCommits", fn := fun _ => fun
  | [d1, d2] => { results := [.lit (.bool true)], args := [d1, d2] }
  | _ => none }
def walCommitsRow : OpenClaim := { program := "ytcilmfhncjfdbaadoor", sum := "dbaba9d0b9ce511a011f90cf54d6700539f83a891fa359520337a669fa787583", func := "hibernacle/hibernaclelaw16.WalCommits", spec := "walCommits", inPlace := ["internal/abi.NoEscape", "internal/bytealg.MakeNoZero"], unfollowed := true, recurses := true, named := ["hibernacle/hash.eight", "hibernacle/hash.rows"], apart := false, laid := [("hibernacle/hash.eight", laid_hibernacle_hash_eight), ("hibernacle/hash.rows", laid_hibernacle_hash_rows)] }
def WalCommitsSaid : Prop := walCommitsRow.holds Tryd.pinned (OpenSpec.ofChange walCommitsSpec)

/-- ITS FALSE NEIGHBOUR: 'it returns false'. Refute it at one input. -/
def walCommitsWrong : ChangeSpec := { name := "walCommits", fn := fun _ => fun
  | [d1, d2] => { results := [.lit (.bool false)], args := [d1, d2] }
  | _ => none }
def WalCommitsWrongFalsely : Prop := walCommitsRow.holds Tryd.pinned (OpenSpec.ofChange walCommitsWrong)

/-- 'hibernaclelaw16.WalHeads': WHATEVER THE INPUT: true; the input reads as it did. -/
def walHeadsSpec : ChangeSpec := { name := "walHeads", fn := fun _ => fun
  | [d1, d2] => { results := [.lit (.bool true)], args := [d1, d2] }
  | _ => none }
def walHeadsRow : OpenClaim := { program := "ytcilmfhncjfdbaadoor", sum := "dbaba9d0b9ce511a011f90cf54d6700539f83a891fa359520337a669fa787583", func := "hibernacle/hibernaclelaw16.WalHeads", spec := "walHeads", inPlace := ["internal/abi.NoEscape", "internal/bytealg.MakeNoZero"], unfollowed := true, recurses := true, named := ["hibernacle/hash.eight", "hibernacle/hash.rows"], apart := false, laid := [("hibernacle/hash.eight", laid_hibernacle_hash_eight), ("hibernacle/hash.rows", laid_hibernacle_hash_rows)] }
def WalHeadsSaid : Prop := walHeadsRow.holds Tryd.pinned (OpenSpec.ofChange walHeadsSpec)

/-- ITS FALSE NEIGHBOUR: 'it returns false'. Refute it at one input. -/
def walHeadsWrong : ChangeSpec := { name := "walHeads", fn := fun _ => fun
  | [d1, d2] => { results := [.lit (.bool false)], args := [d1, d2] }
  | _ => none }
def WalHeadsWrongFalsely : Prop := walHeadsRow.holds Tryd.pinned (OpenSpec.ofChange walHeadsWrong)

/-- 'hibernaclelaw16.WalSwaps': WHATEVER THE INPUT: true; the input reads as it did. -/
def walSwapsSpec : ChangeSpec := { name := "walSwaps", fn := fun _ => fun
  | [d1, d2, d3] => { results := [.lit (.bool true)], args := [d1, d2, d3] }
  | _ => none }
def walSwapsRow : OpenClaim := { program := "ytcilmfhncjfdbaadoor", sum := "dbaba9d0b9ce511a011f90cf54d6700539f83a891fa359520337a669fa787583", func := "hibernacle/hibernaclelaw16.WalSwaps", spec := "walSwaps", inPlace := ["internal/abi.NoEscape", "internal/bytealg.MakeNoZero"], unfollowed := true, recurses := true, named := ["hibernacle/hash.eight", "hibernacle/hash.rows"], apart := false, laid := [("hibernacle/hash.eight", laid_hibernacle_hash_eight), ("hibernacle/hash.rows", laid_hibernacle_hash_rows)] }
def WalSwapsSaid : Prop := walSwapsRow.holds Tryd.pinned (OpenSpec.ofChange walSwapsSpec)

/-- ITS FALSE NEIGHBOUR: 'it returns false'. Refute it at one input. -/
def walSwapsWrong : ChangeSpec := { name := "walSwaps", fn := fun _ => fun
  | [d1, d2, d3] => { results := [.lit (.bool false)], args := [d1, d2, d3] }
  | _ => none }
def WalSwapsWrongFalsely : Prop := walSwapsRow.holds Tryd.pinned (OpenSpec.ofChange walSwapsWrong)

/-- 'hibernaclelaw16.WalRecovers': WHATEVER THE INPUT: true; the input reads as it did. -/
def walRecoversSpec : ChangeSpec := { name := "walRecovers", fn := fun _ => fun
  | [d] => { results := [.lit (.bool true)], args := [d] }
  | _ => none }
def walRecoversRow : OpenClaim := { program := "ytcilmfhncjfdbaadoor", sum := "dbaba9d0b9ce511a011f90cf54d6700539f83a891fa359520337a669fa787583", func := "hibernacle/hibernaclelaw16.WalRecovers", spec := "walRecovers", inPlace := ["internal/abi.NoEscape", "internal/bytealg.MakeNoZero"], unfollowed := true, recurses := true, named := ["hibernacle/hash.eight", "hibernacle/hash.rows"], apart := false, laid := [("hibernacle/hash.eight", laid_hibernacle_hash_eight), ("hibernacle/hash.rows", laid_hibernacle_hash_rows)] }
def WalRecoversSaid : Prop := walRecoversRow.holds Tryd.pinned (OpenSpec.ofChange walRecoversSpec)

/-- ITS FALSE NEIGHBOUR: 'it returns false'. Refute it at one input. -/
def walRecoversWrong : ChangeSpec := { name := "walRecovers", fn := fun _ => fun
  | [d] => { results := [.lit (.bool false)], args := [d] }
  | _ => none }
def WalRecoversWrongFalsely : Prop := walRecoversRow.holds Tryd.pinned (OpenSpec.ofChange walRecoversWrong)

/- THE SECOND FORM. 'bulk': how many values and letters a reading holds, each counted each time it is reached (what is shared counts as often as it is met; a slice's spare places count too). A statement '..UptoSaid' is the law's where the arguments, and the package variables that the reading takes, are together of bulk at most 1048576: NARROWER than '..Said'. Prove '..Said' where nothing that the law and all that it calls make is longer than what came in: it says more and counts as full. Else prove '..UptoSaid'. A law counts once. -/
mutual
def uptoBulk {H : Type} : DataW H → Nat
  | .lit (.string bytes) => bytes.length + 1
  | .lit _ => 1
  | .nil => 1
  | .ptr d => uptoBulk d + 1
  | .slice elems spare => uptoBulkAll elems + uptoBulkAll spare + 1
  | .agg parts => uptoBulkAll parts + 1
  | .iface _ d => uptoBulk d + 1
  | .map entries => uptoBulkEntries entries + 1
  | .held _ => 1
def uptoBulkAll {H : Type} : List (DataW H) → Nat
  | [] => 0
  | d :: r => uptoBulk d + uptoBulkAll r
def uptoBulkEntries {H : Type} : List (Lit × DataW H) → Nat
  | [] => 0
  | x :: r => uptoBulkEntry x + uptoBulkEntries r
def uptoBulkEntry {H : Type} : Lit × DataW H → Nat
  | (.string bytes, d) => bytes.length + uptoBulk d + 1
  | (_, d) => uptoBulk d + 1
 end
def uptoSmall : (H : Type) → List (DataW H) → Bool := fun _ ds => decide (uptoBulkAll ds ≤ 1048576)
def OpenSpec.upto (s : _root_.Go.ChangeSpec) : _root_.Go.OpenSpec := { _root_.Go.OpenSpec.ofChange s with cond := some uptoSmall }

/-- 'hibernaclelaw16.WalFormats', WHERE WHAT IT READS IS OF BULK AT MOST 1048576: true; the input reads as it did. -/
def walFormatsUptoRow : OpenClaim := { program := "ytcilmfhncjfdbaadoor", sum := "dbaba9d0b9ce511a011f90cf54d6700539f83a891fa359520337a669fa787583", func := "hibernacle/hibernaclelaw16.WalFormats", spec := "walFormats", inPlace := ["internal/abi.NoEscape", "internal/bytealg.MakeNoZero"], unfollowed := true, recurses := true, named := ["hibernacle/hash.eight", "hibernacle/hash.rows"], apart := false, laid := [("hibernacle/hash.eight", laid_hibernacle_hash_eight), ("hibernacle/hash.rows", laid_hibernacle_hash_rows)], narrowed := true }
def WalFormatsUptoSaid : Prop := walFormatsUptoRow.holds Tryd.pinned (OpenSpec.upto walFormatsSpec)

/-- 'hibernaclelaw16.WalCommits', WHERE WHAT IT READS IS OF BULK AT MOST 1048576: true; the input reads as it did. -/
def walCommitsUptoRow : OpenClaim := { program := "ytcilmfhncjfdbaadoor", sum := "dbaba9d0b9ce511a011f90cf54d6700539f83a891fa359520337a669fa787583", func := "hibernacle/hibernaclelaw16.WalCommits", spec := "walCommits", inPlace := ["internal/abi.NoEscape", "internal/bytealg.MakeNoZero"], unfollowed := true, recurses := true, named := ["hibernacle/hash.eight", "hibernacle/hash.rows"], apart := false, laid := [("hibernacle/hash.eight", laid_hibernacle_hash_eight), ("hibernacle/hash.rows", laid_hibernacle_hash_rows)], narrowed := true }
def WalCommitsUptoSaid : Prop := walCommitsUptoRow.holds Tryd.pinned (OpenSpec.upto walCommitsSpec)

/-- 'hibernaclelaw16.WalHeads', WHERE WHAT IT READS IS OF BULK AT MOST 1048576: true; the input reads as it did. -/
def walHeadsUptoRow : OpenClaim := { program := "ytcilmfhncjfdbaadoor", sum := "dbaba9d0b9ce511a011f90cf54d6700539f83a891fa359520337a669fa787583", func := "hibernacle/hibernaclelaw16.WalHeads", spec := "walHeads", inPlace := ["internal/abi.NoEscape", "internal/bytealg.MakeNoZero"], unfollowed := true, recurses := true, named := ["hibernacle/hash.eight", "hibernacle/hash.rows"], apart := false, laid := [("hibernacle/hash.eight", laid_hibernacle_hash_eight), ("hibernacle/hash.rows", laid_hibernacle_hash_rows)], narrowed := true }
def WalHeadsUptoSaid : Prop := walHeadsUptoRow.holds Tryd.pinned (OpenSpec.upto walHeadsSpec)

/-- 'hibernaclelaw16.WalSwaps', WHERE WHAT IT READS IS OF BULK AT MOST 1048576: true; the input reads as it did. -/
def walSwapsUptoRow : OpenClaim := { program := "ytcilmfhncjfdbaadoor", sum := "dbaba9d0b9ce511a011f90cf54d6700539f83a891fa359520337a669fa787583", func := "hibernacle/hibernaclelaw16.WalSwaps", spec := "walSwaps", inPlace := ["internal/abi.NoEscape", "internal/bytealg.MakeNoZero"], unfollowed := true, recurses := true, named := ["hibernacle/hash.eight", "hibernacle/hash.rows"], apart := false, laid := [("hibernacle/hash.eight", laid_hibernacle_hash_eight), ("hibernacle/hash.rows", laid_hibernacle_hash_rows)], narrowed := true }
def WalSwapsUptoSaid : Prop := walSwapsUptoRow.holds Tryd.pinned (OpenSpec.upto walSwapsSpec)

/-- 'hibernaclelaw16.WalRecovers', WHERE WHAT IT READS IS OF BULK AT MOST 1048576: true; the input reads as it did. -/
def walRecoversUptoRow : OpenClaim := { program := "ytcilmfhncjfdbaadoor", sum := "dbaba9d0b9ce511a011f90cf54d6700539f83a891fa359520337a669fa787583", func := "hibernacle/hibernaclelaw16.WalRecovers", spec := "walRecovers", inPlace := ["internal/abi.NoEscape", "internal/bytealg.MakeNoZero"], unfollowed := true, recurses := true, named := ["hibernacle/hash.eight", "hibernacle/hash.rows"], apart := false, laid := [("hibernacle/hash.eight", laid_hibernacle_hash_eight), ("hibernacle/hash.rows", laid_hibernacle_hash_rows)], narrowed := true }
def WalRecoversUptoSaid : Prop := walRecoversUptoRow.holds Tryd.pinned (OpenSpec.upto walRecoversSpec)

end Rows
end Go.Proofs.YtcilmfhncjfdbaaDoor
