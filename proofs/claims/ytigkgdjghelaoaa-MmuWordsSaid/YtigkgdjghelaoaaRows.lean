/-
  No cell of these rows narrows 'for every input' (looked for: loops, veiled, ifaces, maps, wideKeys, modest, calm, conditions, laid).
  DERIVED. THE GIVEN ROWS OF THIS SEAT. 12 by the template 'for every input the law returns true; each argument reads behind the call as it read before'; 0 by the template 'total and deterministic' (their statements: YtigkgdjghelaoaaTotals.lean).
  GIVEN WITH THE SEED: the statements are not yours to turn. If you find one false, say at which input.
  Laid BY PROGRAM, IN A SANDBOX (cutbox-rows.mjs): the forced cells as the released guide's own fill.sh prints them over the translation 849c2ee4092843fb… (all of the seat's roots in one cut). By AI agents, Wed Nov 11 2026. No macro, syntax, notation, axiom, sorry.
-/
import Derived.Test.YtigkgdjghelaoaaChecked
import GoSem.Claim
import GoSem.ClaimJoined
import GoSem.ClaimMapViews
import Derived.JoinedTies
import Derived.KernelRfl
namespace Go.Proofs.Ytigkgdjghelaoaa
/- THE CELL 'sum', in the pinned program and in every row, IS THE sha256 OF THE DUMP (.gsa) THAT YtigkgdjghelaoaaProg.lean LOADS. Nothing in Lean hashes anything: it is a label: what it is worth is what the hold of that sum in a sandbox is worth. -/
noncomputable def Try.pinned : Pinned := { name := "ytigkgdjghelaoaa", sum := "849c2ee4092843fb48284574065591f430c870e39842a7fcf0b85a7ef11d3511", checked := Try.checked }
namespace Rows
def none {H : Type} : Left H := { results := [], args := [] }

/-- 'hibernaclelaw13.MmuCopies': WHATEVER THE INPUT: true; the input reads as it did. -/
def mmuCopiesSpec : ChangeSpec := { name := "mmuCopies", fn := fun _ => fun
  | [d1, d2, d3] => { results := [.lit (.bool true)], args := [d1, d2, d3] }
  | _ => none }
def mmuCopiesRow : OpenClaim := { program := "ytigkgdjghelaoaa", sum := "849c2ee4092843fb48284574065591f430c870e39842a7fcf0b85a7ef11d3511", func := "hibernacle/hibernaclelaw13.MmuCopies", spec := "mmuCopies", inPlace := ["internal/abi.NoEscape", "internal/bytealg.MakeNoZero"], unfollowed := true, recurses := true, apart := false }
def MmuCopiesSaid : Prop := mmuCopiesRow.holds Try.pinned (OpenSpec.ofChange mmuCopiesSpec)

/-- ITS FALSE NEIGHBOUR: 'it returns false'. Refute it at one input. -/
def mmuCopiesWrong : ChangeSpec := { name := "mmuCopies", fn := fun _ => fun
  | [d1, d2, d3] => { results := [.lit (.bool false)], args := [d1, d2, d3] }
  | _ => none }
def MmuCopiesWrongFalsely : Prop := mmuCopiesRow.holds Try.pinned (OpenSpec.ofChange mmuCopiesWrong)

/-- 'hibernaclelaw13.MmuBack': WHATEVER THE INPUT: true; the input reads as it did. -/
def mmuBackSpec : ChangeSpec := { name := "mmuBack", fn := fun _ => fun
  | [d1, d2, d3] => { results := [.lit (.bool true)], args := [d1, d2, d3] }
  | _ => none }
def mmuBackRow : OpenClaim := { program := "ytigkgdjghelaoaa", sum := "849c2ee4092843fb48284574065591f430c870e39842a7fcf0b85a7ef11d3511", func := "hibernacle/hibernaclelaw13.MmuBack", spec := "mmuBack", inPlace := ["internal/abi.NoEscape", "internal/bytealg.MakeNoZero"], unfollowed := true, recurses := true, apart := false }
def MmuBackSaid : Prop := mmuBackRow.holds Try.pinned (OpenSpec.ofChange mmuBackSpec)

/-- ITS FALSE NEIGHBOUR: 'it returns false'. Refute it at one input. -/
def mmuBackWrong : ChangeSpec := { name := "mmuBack", fn := fun _ => fun
  | [d1, d2, d3] => { results := [.lit (.bool false)], args := [d1, d2, d3] }
  | _ => none }
def MmuBackWrongFalsely : Prop := mmuBackRow.holds Try.pinned (OpenSpec.ofChange mmuBackWrong)

/-- 'hibernaclelaw13.MmuApart': WHATEVER THE INPUT: true; the input reads as it did. -/
def mmuApartSpec : ChangeSpec := { name := "mmuApart", fn := fun _ => fun
  | [d1, d2, d3] => { results := [.lit (.bool true)], args := [d1, d2, d3] }
  | _ => none }
def mmuApartRow : OpenClaim := { program := "ytigkgdjghelaoaa", sum := "849c2ee4092843fb48284574065591f430c870e39842a7fcf0b85a7ef11d3511", func := "hibernacle/hibernaclelaw13.MmuApart", spec := "mmuApart", inPlace := ["internal/abi.NoEscape", "internal/bytealg.MakeNoZero"], unfollowed := true, recurses := true, apart := false }
def MmuApartSaid : Prop := mmuApartRow.holds Try.pinned (OpenSpec.ofChange mmuApartSpec)

/-- ITS FALSE NEIGHBOUR: 'it returns false'. Refute it at one input. -/
def mmuApartWrong : ChangeSpec := { name := "mmuApart", fn := fun _ => fun
  | [d1, d2, d3] => { results := [.lit (.bool false)], args := [d1, d2, d3] }
  | _ => none }
def MmuApartWrongFalsely : Prop := mmuApartRow.holds Try.pinned (OpenSpec.ofChange mmuApartWrong)

/-- 'hibernaclelaw13.MmuPieces': WHATEVER THE INPUT: true; the input reads as it did. -/
def mmuPiecesSpec : ChangeSpec := { name := "mmuPieces", fn := fun _ => fun
  | [d1, d2, d3] => { results := [.lit (.bool true)], args := [d1, d2, d3] }
  | _ => none }
def mmuPiecesRow : OpenClaim := { program := "ytigkgdjghelaoaa", sum := "849c2ee4092843fb48284574065591f430c870e39842a7fcf0b85a7ef11d3511", func := "hibernacle/hibernaclelaw13.MmuPieces", spec := "mmuPieces", inPlace := ["internal/abi.NoEscape", "internal/bytealg.MakeNoZero"], unfollowed := true, recurses := true, apart := false }
def MmuPiecesSaid : Prop := mmuPiecesRow.holds Try.pinned (OpenSpec.ofChange mmuPiecesSpec)

/-- ITS FALSE NEIGHBOUR: 'it returns false'. Refute it at one input. -/
def mmuPiecesWrong : ChangeSpec := { name := "mmuPieces", fn := fun _ => fun
  | [d1, d2, d3] => { results := [.lit (.bool false)], args := [d1, d2, d3] }
  | _ => none }
def MmuPiecesWrongFalsely : Prop := mmuPiecesRow.holds Try.pinned (OpenSpec.ofChange mmuPiecesWrong)

/-- 'hibernaclelaw13.MmuFinds': WHATEVER THE INPUT: true; the input reads as it did. -/
def mmuFindsSpec : ChangeSpec := { name := "mmuFinds", fn := fun _ => fun
  | [d1, d2, d3] => { results := [.lit (.bool true)], args := [d1, d2, d3] }
  | _ => none }
def mmuFindsRow : OpenClaim := { program := "ytigkgdjghelaoaa", sum := "849c2ee4092843fb48284574065591f430c870e39842a7fcf0b85a7ef11d3511", func := "hibernacle/hibernaclelaw13.MmuFinds", spec := "mmuFinds", inPlace := ["internal/abi.NoEscape", "internal/bytealg.MakeNoZero"], unfollowed := true, recurses := true, apart := false }
def MmuFindsSaid : Prop := mmuFindsRow.holds Try.pinned (OpenSpec.ofChange mmuFindsSpec)

/-- ITS FALSE NEIGHBOUR: 'it returns false'. Refute it at one input. -/
def mmuFindsWrong : ChangeSpec := { name := "mmuFinds", fn := fun _ => fun
  | [d1, d2, d3] => { results := [.lit (.bool false)], args := [d1, d2, d3] }
  | _ => none }
def MmuFindsWrongFalsely : Prop := mmuFindsRow.holds Try.pinned (OpenSpec.ofChange mmuFindsWrong)

/-- 'hibernaclelaw13.MmuWords': WHATEVER THE INPUT: true; the input reads as it did. -/
def mmuWordsSpec : ChangeSpec := { name := "mmuWords", fn := fun _ => fun
  | [d1, d2] => { results := [.lit (.bool true)], args := [d1, d2] }
  | _ => none }
def mmuWordsRow : OpenClaim := { program := "ytigkgdjghelaoaa", sum := "849c2ee4092843fb48284574065591f430c870e39842a7fcf0b85a7ef11d3511", func := "hibernacle/hibernaclelaw13.MmuWords", spec := "mmuWords", inPlace := ["internal/abi.NoEscape", "internal/bytealg.MakeNoZero"], unfollowed := true, recurses := true, apart := false }
def MmuWordsSaid : Prop := mmuWordsRow.holds Try.pinned (OpenSpec.ofChange mmuWordsSpec)

/-- ITS FALSE NEIGHBOUR: 'it returns false'. Refute it at one input. -/
def mmuWordsWrong : ChangeSpec := { name := "mmuWords", fn := fun _ => fun
  | [d1, d2] => { results := [.lit (.bool false)], args := [d1, d2] }
  | _ => none }
def MmuWordsWrongFalsely : Prop := mmuWordsRow.holds Try.pinned (OpenSpec.ofChange mmuWordsWrong)

/-- 'hibernaclelaw15.DriveChecks': WHATEVER THE INPUT: true; the input reads as it did. -/
def driveChecksSpec : ChangeSpec := { name := "driveChecks", fn := fun _ => fun
  | [d1, d2] => { results := [.lit (.bool true)], args := [d1, d2] }
  | _ => none }
def driveChecksRow : OpenClaim := { program := "ytigkgdjghelaoaa", sum := "849c2ee4092843fb48284574065591f430c870e39842a7fcf0b85a7ef11d3511", func := "hibernacle/hibernaclelaw15.DriveChecks", spec := "driveChecks", inPlace := ["internal/abi.NoEscape", "internal/bytealg.MakeNoZero"], unfollowed := true, recurses := true, apart := false }
def DriveChecksSaid : Prop := driveChecksRow.holds Try.pinned (OpenSpec.ofChange driveChecksSpec)

/-- ITS FALSE NEIGHBOUR: 'it returns false'. Refute it at one input. -/
def driveChecksWrong : ChangeSpec := { name := "driveChecks", fn := fun _ => fun
  | [d1, d2] => { results := [.lit (.bool false)], args := [d1, d2] }
  | _ => none }
def DriveChecksWrongFalsely : Prop := driveChecksRow.holds Try.pinned (OpenSpec.ofChange driveChecksWrong)

/-- 'hibernaclelaw15.DriveHalves': WHATEVER THE INPUT: true; the input reads as it did. -/
def driveHalvesSpec : ChangeSpec := { name := "driveHalves", fn := fun _ => fun
  | [d1, d2] => { results := [.lit (.bool true)], args := [d1, d2] }
  | _ => none }
def driveHalvesRow : OpenClaim := { program := "ytigkgdjghelaoaa", sum := "849c2ee4092843fb48284574065591f430c870e39842a7fcf0b85a7ef11d3511", func := "hibernacle/hibernaclelaw15.DriveHalves", spec := "driveHalves", inPlace := ["internal/abi.NoEscape", "internal/bytealg.MakeNoZero"], unfollowed := true, recurses := true, apart := false }
def DriveHalvesSaid : Prop := driveHalvesRow.holds Try.pinned (OpenSpec.ofChange driveHalvesSpec)

/-- ITS FALSE NEIGHBOUR: 'it returns false'. Refute it at one input. -/
def driveHalvesWrong : ChangeSpec := { name := "driveHalves", fn := fun _ => fun
  | [d1, d2] => { results := [.lit (.bool false)], args := [d1, d2] }
  | _ => none }
def DriveHalvesWrongFalsely : Prop := driveHalvesRow.holds Try.pinned (OpenSpec.ofChange driveHalvesWrong)

/-- 'hibernaclelaw15.DrivePlays': WHATEVER THE INPUT: true; the input reads as it did. -/
def drivePlaysSpec : ChangeSpec := { name := "drivePlays", fn := fun _ => fun
  | [d1, d2, d3] => { results := [.lit (.bool true)], args := [d1, d2, d3] }
  | _ => none }
def drivePlaysRow : OpenClaim := { program := "ytigkgdjghelaoaa", sum := "849c2ee4092843fb48284574065591f430c870e39842a7fcf0b85a7ef11d3511", func := "hibernacle/hibernaclelaw15.DrivePlays", spec := "drivePlays", inPlace := ["internal/abi.NoEscape", "internal/bytealg.MakeNoZero"], unfollowed := true, recurses := true, apart := false }
def DrivePlaysSaid : Prop := drivePlaysRow.holds Try.pinned (OpenSpec.ofChange drivePlaysSpec)

/-- ITS FALSE NEIGHBOUR: 'it returns false'. Refute it at one input. -/
def drivePlaysWrong : ChangeSpec := { name := "drivePlays", fn := fun _ => fun
  | [d1, d2, d3] => { results := [.lit (.bool false)], args := [d1, d2, d3] }
  | _ => none }
def DrivePlaysWrongFalsely : Prop := drivePlaysRow.holds Try.pinned (OpenSpec.ofChange drivePlaysWrong)

/-- 'hibernaclelaw15.DriveGone': WHATEVER THE INPUT: true; the input reads as it did. -/
def driveGoneSpec : ChangeSpec := { name := "driveGone", fn := fun _ => fun
  | [d1, d2] => { results := [.lit (.bool true)], args := [d1, d2] }
  | _ => none }
def driveGoneRow : OpenClaim := { program := "ytigkgdjghelaoaa", sum := "849c2ee4092843fb48284574065591f430c870e39842a7fcf0b85a7ef11d3511", func := "hibernacle/hibernaclelaw15.DriveGone", spec := "driveGone", inPlace := ["internal/abi.NoEscape", "internal/bytealg.MakeNoZero"], unfollowed := true, recurses := true, apart := false }
def DriveGoneSaid : Prop := driveGoneRow.holds Try.pinned (OpenSpec.ofChange driveGoneSpec)

/-- ITS FALSE NEIGHBOUR: 'it returns false'. Refute it at one input. -/
def driveGoneWrong : ChangeSpec := { name := "driveGone", fn := fun _ => fun
  | [d1, d2] => { results := [.lit (.bool false)], args := [d1, d2] }
  | _ => none }
def DriveGoneWrongFalsely : Prop := driveGoneRow.holds Try.pinned (OpenSpec.ofChange driveGoneWrong)

/-- 'hibernaclelaw15.DriveReads': WHATEVER THE INPUT: true; the input reads as it did. -/
def driveReadsSpec : ChangeSpec := { name := "driveReads", fn := fun _ => fun
  | [d1, d2, d3] => { results := [.lit (.bool true)], args := [d1, d2, d3] }
  | _ => none }
def driveReadsRow : OpenClaim := { program := "ytigkgdjghelaoaa", sum := "849c2ee4092843fb48284574065591f430c870e39842a7fcf0b85a7ef11d3511", func := "hibernacle/hibernaclelaw15.DriveReads", spec := "driveReads", inPlace := ["internal/abi.NoEscape", "internal/bytealg.MakeNoZero"], unfollowed := true, recurses := true, apart := false }
def DriveReadsSaid : Prop := driveReadsRow.holds Try.pinned (OpenSpec.ofChange driveReadsSpec)

/-- ITS FALSE NEIGHBOUR: 'it returns false'. Refute it at one input. -/
def driveReadsWrong : ChangeSpec := { name := "driveReads", fn := fun _ => fun
  | [d1, d2, d3] => { results := [.lit (.bool false)], args := [d1, d2, d3] }
  | _ => none }
def DriveReadsWrongFalsely : Prop := driveReadsRow.holds Try.pinned (OpenSpec.ofChange driveReadsWrong)

/-- 'hibernaclelaw15.DriveSure': WHATEVER THE INPUT: true; the input reads as it did. -/
def driveSureSpec : ChangeSpec := { name := "driveSure", fn := fun _ => fun
  | [d1, d2] => { results := [.lit (.bool true)], args := [d1, d2] }
  | _ => none }
def driveSureRow : OpenClaim := { program := "ytigkgdjghelaoaa", sum := "849c2ee4092843fb48284574065591f430c870e39842a7fcf0b85a7ef11d3511", func := "hibernacle/hibernaclelaw15.DriveSure", spec := "driveSure", inPlace := ["internal/abi.NoEscape", "internal/bytealg.MakeNoZero"], unfollowed := true, recurses := true, apart := false }
def DriveSureSaid : Prop := driveSureRow.holds Try.pinned (OpenSpec.ofChange driveSureSpec)

/-- ITS FALSE NEIGHBOUR: 'it returns false'. Refute it at one input. -/
def driveSureWrong : ChangeSpec := { name := "driveSure", fn := fun _ => fun
  | [d1, d2] => { results := [.lit (.bool false)], args := [d1, d2] }
  | _ => none }
def DriveSureWrongFalsely : Prop := driveSureRow.holds Try.pinned (OpenSpec.ofChange driveSureWrong)

/- THE SECOND FORM. 'bulk': how many values and letters a reading holds, each counted each time it is reached (what is shared counts as often as it is met; a slice's spare places count too). A statement '..UptoSaid' is the law's where the arguments, and the package variables that the reading takes, are together of bulk at most 1048576: NARROWER than '..Said'. Prove '..Said' where nothing that the law and all that it calls make is longer than what came in: it says more and counts as full. Else prove '..UptoSaid'. A law counts once. -/
mutual
def uptoBulk {H : Type} : DataW H → Nat
  | .lit (.string bytes) => bytes.length + 1
  | .lit _ => 1
  | .nil => 1
  | .ptr d => uptoBulk d + 1
  | .slice elems spare => uptoBulkAll elems + uptoBulkAll spare + 1
  | .agg parts => uptoBulkAll parts + 1
  | .iface _ d => uptoBulk d + 1
  | .map entries => uptoBulkEntries entries + 1
  | .held _ => 1
def uptoBulkAll {H : Type} : List (DataW H) → Nat
  | [] => 0
  | d :: r => uptoBulk d + uptoBulkAll r
def uptoBulkEntries {H : Type} : List (Lit × DataW H) → Nat
  | [] => 0
  | x :: r => uptoBulkEntry x + uptoBulkEntries r
def uptoBulkEntry {H : Type} : Lit × DataW H → Nat
  | (.string bytes, d) => bytes.length + uptoBulk d + 1
  | (_, d) => uptoBulk d + 1
 end
def uptoSmall : (H : Type) → List (DataW H) → Bool := fun _ ds => decide (uptoBulkAll ds ≤ 1048576)
def OpenSpec.upto (s : _root_.Go.ChangeSpec) : _root_.Go.OpenSpec := { _root_.Go.OpenSpec.ofChange s with cond := some uptoSmall }

/-- 'hibernaclelaw13.MmuCopies', WHERE WHAT IT READS IS OF BULK AT MOST 1048576: true; the input reads as it did. -/
def mmuCopiesUptoRow : OpenClaim := { program := "ytigkgdjghelaoaa", sum := "849c2ee4092843fb48284574065591f430c870e39842a7fcf0b85a7ef11d3511", func := "hibernacle/hibernaclelaw13.MmuCopies", spec := "mmuCopies", inPlace := ["internal/abi.NoEscape", "internal/bytealg.MakeNoZero"], unfollowed := true, recurses := true, apart := false, narrowed := true }
def MmuCopiesUptoSaid : Prop := mmuCopiesUptoRow.holds Try.pinned (OpenSpec.upto mmuCopiesSpec)

/-- 'hibernaclelaw13.MmuBack', WHERE WHAT IT READS IS OF BULK AT MOST 1048576: true; the input reads as it did. -/
def mmuBackUptoRow : OpenClaim := { program := "ytigkgdjghelaoaa", sum := "849c2ee4092843fb48284574065591f430c870e39842a7fcf0b85a7ef11d3511", func := "hibernacle/hibernaclelaw13.MmuBack", spec := "mmuBack", inPlace := ["internal/abi.NoEscape", "internal/bytealg.MakeNoZero"], unfollowed := true, recurses := true, apart := false, narrowed := true }
def MmuBackUptoSaid : Prop := mmuBackUptoRow.holds Try.pinned (OpenSpec.upto mmuBackSpec)

/-- 'hibernaclelaw13.MmuApart', WHERE WHAT IT READS IS OF BULK AT MOST 1048576: true; the input reads as it did. -/
def mmuApartUptoRow : OpenClaim := { program := "ytigkgdjghelaoaa", sum := "849c2ee4092843fb48284574065591f430c870e39842a7fcf0b85a7ef11d3511", func := "hibernacle/hibernaclelaw13.MmuApart", spec := "mmuApart", inPlace := ["internal/abi.NoEscape", "internal/bytealg.MakeNoZero"], unfollowed := true, recurses := true, apart := false, narrowed := true }
def MmuApartUptoSaid : Prop := mmuApartUptoRow.holds Try.pinned (OpenSpec.upto mmuApartSpec)

/-- 'hibernaclelaw13.MmuPieces', WHERE WHAT IT READS IS OF BULK AT MOST 1048576: true; the input reads as it did. -/
def mmuPiecesUptoRow : OpenClaim := { program := "ytigkgdjghelaoaa", sum := "849c2ee4092843fb48284574065591f430c870e39842a7fcf0b85a7ef11d3511", func := "hibernacle/hibernaclelaw13.MmuPieces", spec := "mmuPieces", inPlace := ["internal/abi.NoEscape", "internal/bytealg.MakeNoZero"], unfollowed := true, recurses := true, apart := false, narrowed := true }
def MmuPiecesUptoSaid : Prop := mmuPiecesUptoRow.holds Try.pinned (OpenSpec.upto mmuPiecesSpec)

/-- 'hibernaclelaw13.MmuFinds', WHERE WHAT IT READS IS OF BULK AT MOST 1048576: true; the input reads as it did. -/
def mmuFindsUptoRow : OpenClaim := { program := "ytigkgdjghelaoaa", sum := "849c2ee4092843fb48284574065591f430c870e39842a7fcf0b85a7ef11d3511", func := "hibernacle/hibernaclelaw13.MmuFinds", spec := "mmuFinds", inPlace := ["internal/abi.NoEscape", "internal/bytealg.MakeNoZero"], unfollowed := true, recurses := true, apart := false, narrowed := true }
def MmuFindsUptoSaid : Prop := mmuFindsUptoRow.holds Try.pinned (OpenSpec.upto mmuFindsSpec)

/-- 'hibernaclelaw13.MmuWords', WHERE WHAT IT READS IS OF BULK AT MOST 1048576: true; the input reads as it did. -/
def mmuWordsUptoRow : OpenClaim := { program := "ytigkgdjghelaoaa", sum := "849c2ee4092843fb48284574065591f430c870e39842a7fcf0b85a7ef11d3511", func := "hibernacle/hibernaclelaw13.MmuWords", spec := "mmuWords", inPlace := ["internal/abi.NoEscape", "internal/bytealg.MakeNoZero"], unfollowed := true, recurses := true, apart := false, narrowed := true }
def MmuWordsUptoSaid : Prop := mmuWordsUptoRow.holds Try.pinned (OpenSpec.upto mmuWordsSpec)

/-- 'hibernaclelaw15.DriveChecks', WHERE WHAT IT READS IS OF BULK AT MOST 1048576: true; the input reads as it did. -/
def driveChecksUptoRow : OpenClaim := { program := "ytigkgdjghelaoaa", sum := "849c2ee4092843fb48284574065591f430c870e39842a7fcf0b85a7ef11d3511", func := "hibernacle/hibernaclelaw15.DriveChecks", spec := "driveChecks", inPlace := ["internal/abi.NoEscape", "internal/bytealg.MakeNoZero"], unfollowed := true, recurses := true, apart := false, narrowed := true }
def DriveChecksUptoSaid : Prop := driveChecksUptoRow.holds Try.pinned (OpenSpec.upto driveChecksSpec)

/-- 'hibernaclelaw15.DriveHalves', WHERE WHAT IT READS IS OF BULK AT MOST 1048576: true; the input reads as it did. -/
def driveHalvesUptoRow : OpenClaim := { program := "ytigkgdjghelaoaa", sum := "849c2ee4092843fb48284574065591f430c870e39842a7fcf0b85a7ef11d3511", func := "hibernacle/hibernaclelaw15.DriveHalves", spec := "driveHalves", inPlace := ["internal/abi.NoEscape", "internal/bytealg.MakeNoZero"], unfollowed := true, recurses := true, apart := false, narrowed := true }
def DriveHalvesUptoSaid : Prop := driveHalvesUptoRow.holds Try.pinned (OpenSpec.upto driveHalvesSpec)

/-- 'hibernaclelaw15.DrivePlays', WHERE WHAT IT READS IS OF BULK AT MOST 1048576: true; the input reads as it did. -/
def drivePlaysUptoRow : OpenClaim := { program := "ytigkgdjghelaoaa", sum := "849c2ee4092843fb48284574065591f430c870e39842a7fcf0b85a7ef11d3511", func := "hibernacle/hibernaclelaw15.DrivePlays", spec := "drivePlays", inPlace := ["internal/abi.NoEscape", "internal/bytealg.MakeNoZero"], unfollowed := true, recurses := true, apart := false, narrowed := true }
def DrivePlaysUptoSaid : Prop := drivePlaysUptoRow.holds Try.pinned (OpenSpec.upto drivePlaysSpec)

/-- 'hibernaclelaw15.DriveGone', WHERE WHAT IT READS IS OF BULK AT MOST 1048576: true; the input reads as it did. -/
def driveGoneUptoRow : OpenClaim := { program := "ytigkgdjghelaoaa", sum := "849c2ee4092843fb48284574065591f430c870e39842a7fcf0b85a7ef11d3511", func := "hibernacle/hibernaclelaw15.DriveGone", spec := "driveGone", inPlace := ["internal/abi.NoEscape", "internal/bytealg.MakeNoZero"], unfollowed := true, recurses := true, apart := false, narrowed := true }
def DriveGoneUptoSaid : Prop := driveGoneUptoRow.holds Try.pinned (OpenSpec.upto driveGoneSpec)

/-- 'hibernaclelaw15.DriveReads', WHERE WHAT IT READS IS OF BULK AT MOST 1048576: true; the input reads as it did. -/
def driveReadsUptoRow : OpenClaim := { program := "ytigkgdjghelaoaa", sum := "849c2ee4092843fb48284574065591f430c870e39842a7fcf0b85a7ef11d3511", func := "hibernacle/hibernaclelaw15.DriveReads", spec := "driveReads", inPlace := ["internal/abi.NoEscape", "internal/bytealg.MakeNoZero"], unfollowed := true, recurses := true, apart := false, narrowed := true }
def DriveReadsUptoSaid : Prop := driveReadsUptoRow.holds Try.pinned (OpenSpec.upto driveReadsSpec)

/-- 'hibernaclelaw15.DriveSure', WHERE WHAT IT READS IS OF BULK AT MOST 1048576: true; the input reads as it did. -/
def driveSureUptoRow : OpenClaim := { program := "ytigkgdjghelaoaa", sum := "849c2ee4092843fb48284574065591f430c870e39842a7fcf0b85a7ef11d3511", func := "hibernacle/hibernaclelaw15.DriveSure", spec := "driveSure", inPlace := ["internal/abi.NoEscape", "internal/bytealg.MakeNoZero"], unfollowed := true, recurses := true, apart := false, narrowed := true }
def DriveSureUptoSaid : Prop := driveSureUptoRow.holds Try.pinned (OpenSpec.upto driveSureSpec)

end Rows
end Go.Proofs.Ytigkgdjghelaoaa
