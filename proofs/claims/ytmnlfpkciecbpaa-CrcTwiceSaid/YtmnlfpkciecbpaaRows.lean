/-
  No cell of these rows narrows 'for every input' (looked for: loops, veiled, ifaces, maps, wideKeys, modest, calm, conditions, laid).
  DERIVED. THE GIVEN ROWS OF THIS SEAT. 34 by the template 'for every input the law returns true; each argument reads behind the call as it read before'; 0 by the template 'total and deterministic' (their statements: YtmnlfpkciecbpaaTotals.lean).
  GIVEN WITH THE SEED: the statements are not yours to turn. If you find one false, say at which input.
  Laid BY PROGRAM, IN A SANDBOX (cutbox-rows.mjs): the forced cells as the released guide's own fill.sh prints them over the translation 7990d8d6269f2739… (all of the seat's roots in one cut). By AI agents, Wed Nov 11 2026. No macro, syntax, notation, axiom, sorry.
-/
import Derived.Test.YtmnlfpkciecbpaaChecked
import GoSem.Claim
import GoSem.ClaimJoined
import GoSem.ClaimMapViews
import Derived.JoinedTies
import Derived.KernelRfl
namespace Go.Proofs.Ytmnlfpkciecbpaa
/- THE CELL 'sum', in the pinned program and in every row, IS THE sha256 OF THE DUMP (.gsa) THAT YtmnlfpkciecbpaaProg.lean LOADS. Nothing in Lean hashes anything: it is a label: what it is worth is what the hold of that sum in a sandbox is worth. -/
noncomputable def Try.pinned : Pinned := { name := "ytmnlfpkciecbpaa", sum := "7990d8d6269f27395621529b3c9b2db5183e9f1b429281ebcbb6d3183fcff7e7", checked := Try.checked }
namespace Rows
def none {H : Type} : Left H := { results := [], args := [] }

/-- 'mothballlaw06.RecordSectors': WHATEVER THE INPUT: true; the input reads as it did. -/
def recordSectorsSpec : ChangeSpec := { name := "recordSectors", fn := fun _ => fun
  | [d] => { results := [.lit (.bool true)], args := [d] }
  | _ => none }
def recordSectorsRow : OpenClaim := { program := "ytmnlfpkciecbpaa", sum := "7990d8d6269f27395621529b3c9b2db5183e9f1b429281ebcbb6d3183fcff7e7", func := "mothball/mothballlaw06.RecordSectors", spec := "recordSectors", apart := false }
def RecordSectorsSaid : Prop := recordSectorsRow.holds Try.pinned (OpenSpec.ofChange recordSectorsSpec)

/-- ITS FALSE NEIGHBOUR: 'it returns false'. Refute it at one input. -/
def recordSectorsWrong : ChangeSpec := { name := "recordSectors", fn := fun _ => fun
  | [d] => { results := [.lit (.bool false)], args := [d] }
  | _ => none }
def RecordSectorsWrongFalsely : Prop := recordSectorsRow.holds Try.pinned (OpenSpec.ofChange recordSectorsWrong)

/-- 'mothballlaw02.CrcXors': WHATEVER THE INPUT: true; the input reads as it did. -/
def crcXorsSpec : ChangeSpec := { name := "crcXors", fn := fun _ => fun
  | [d1, d2, d3] => { results := [.lit (.bool true)], args := [d1, d2, d3] }
  | _ => none }
def crcXorsRow : OpenClaim := { program := "ytmnlfpkciecbpaa", sum := "7990d8d6269f27395621529b3c9b2db5183e9f1b429281ebcbb6d3183fcff7e7", func := "mothball/mothballlaw02.CrcXors", spec := "crcXors", apart := false }
def CrcXorsSaid : Prop := crcXorsRow.holds Try.pinned (OpenSpec.ofChange crcXorsSpec)

/-- ITS FALSE NEIGHBOUR: 'it returns false'. Refute it at one input. -/
def crcXorsWrong : ChangeSpec := { name := "crcXors", fn := fun _ => fun
  | [d1, d2, d3] => { results := [.lit (.bool false)], args := [d1, d2, d3] }
  | _ => none }
def CrcXorsWrongFalsely : Prop := crcXorsRow.holds Try.pinned (OpenSpec.ofChange crcXorsWrong)

/-- 'mothballlaw02.CrcSums': WHATEVER THE INPUT: true; the input reads as it did. -/
def crcSumsSpec : ChangeSpec := { name := "crcSums", fn := fun _ => fun
  | [d] => { results := [.lit (.bool true)], args := [d] }
  | _ => none }
def crcSumsRow : OpenClaim := { program := "ytmnlfpkciecbpaa", sum := "7990d8d6269f27395621529b3c9b2db5183e9f1b429281ebcbb6d3183fcff7e7", func := "mothball/mothballlaw02.CrcSums", spec := "crcSums", apart := false }
def CrcSumsSaid : Prop := crcSumsRow.holds Try.pinned (OpenSpec.ofChange crcSumsSpec)

/-- ITS FALSE NEIGHBOUR: 'it returns false'. Refute it at one input. -/
def crcSumsWrong : ChangeSpec := { name := "crcSums", fn := fun _ => fun
  | [d] => { results := [.lit (.bool false)], args := [d] }
  | _ => none }
def CrcSumsWrongFalsely : Prop := crcSumsRow.holds Try.pinned (OpenSpec.ofChange crcSumsWrong)

/-- 'mothballlaw02.CrcSeals': WHATEVER THE INPUT: true; the input reads as it did. -/
def crcSealsSpec : ChangeSpec := { name := "crcSeals", fn := fun _ => fun
  | [d] => { results := [.lit (.bool true)], args := [d] }
  | _ => none }
def crcSealsRow : OpenClaim := { program := "ytmnlfpkciecbpaa", sum := "7990d8d6269f27395621529b3c9b2db5183e9f1b429281ebcbb6d3183fcff7e7", func := "mothball/mothballlaw02.CrcSeals", spec := "crcSeals", apart := false }
def CrcSealsSaid : Prop := crcSealsRow.holds Try.pinned (OpenSpec.ofChange crcSealsSpec)

/-- ITS FALSE NEIGHBOUR: 'it returns false'. Refute it at one input. -/
def crcSealsWrong : ChangeSpec := { name := "crcSeals", fn := fun _ => fun
  | [d] => { results := [.lit (.bool false)], args := [d] }
  | _ => none }
def CrcSealsWrongFalsely : Prop := crcSealsRow.holds Try.pinned (OpenSpec.ofChange crcSealsWrong)

/-- 'mothballlaw02.CrcTurned': WHATEVER THE INPUT: true; the input reads as it did. -/
def crcTurnedSpec : ChangeSpec := { name := "crcTurned", fn := fun _ => fun
  | [d1, d2, d3] => { results := [.lit (.bool true)], args := [d1, d2, d3] }
  | _ => none }
def crcTurnedRow : OpenClaim := { program := "ytmnlfpkciecbpaa", sum := "7990d8d6269f27395621529b3c9b2db5183e9f1b429281ebcbb6d3183fcff7e7", func := "mothball/mothballlaw02.CrcTurned", spec := "crcTurned", apart := false }
def CrcTurnedSaid : Prop := crcTurnedRow.holds Try.pinned (OpenSpec.ofChange crcTurnedSpec)

/-- ITS FALSE NEIGHBOUR: 'it returns false'. Refute it at one input. -/
def crcTurnedWrong : ChangeSpec := { name := "crcTurned", fn := fun _ => fun
  | [d1, d2, d3] => { results := [.lit (.bool false)], args := [d1, d2, d3] }
  | _ => none }
def CrcTurnedWrongFalsely : Prop := crcTurnedRow.holds Try.pinned (OpenSpec.ofChange crcTurnedWrong)

/-- 'mothballlaw02.CrcTwice': WHATEVER THE INPUT: true; the input reads as it did. -/
def crcTwiceSpec : ChangeSpec := { name := "crcTwice", fn := fun _ => fun
  | [d] => { results := [.lit (.bool true)], args := [d] }
  | _ => none }
def crcTwiceRow : OpenClaim := { program := "ytmnlfpkciecbpaa", sum := "7990d8d6269f27395621529b3c9b2db5183e9f1b429281ebcbb6d3183fcff7e7", func := "mothball/mothballlaw02.CrcTwice", spec := "crcTwice", apart := false }
def CrcTwiceSaid : Prop := crcTwiceRow.holds Try.pinned (OpenSpec.ofChange crcTwiceSpec)

/-- ITS FALSE NEIGHBOUR: 'it returns false'. Refute it at one input. -/
def crcTwiceWrong : ChangeSpec := { name := "crcTwice", fn := fun _ => fun
  | [d] => { results := [.lit (.bool false)], args := [d] }
  | _ => none }
def CrcTwiceWrongFalsely : Prop := crcTwiceRow.holds Try.pinned (OpenSpec.ofChange crcTwiceWrong)

/-- 'mothballlaw22.TwolistSpares': WHATEVER THE INPUT: true; the input reads as it did. -/
def twolistSparesSpec : ChangeSpec := { name := "twolistSpares", fn := fun _ => fun
  | [d1, d2, d3] => { results := [.lit (.bool true)], args := [d1, d2, d3] }
  | _ => none }
def twolistSparesRow : OpenClaim := { program := "ytmnlfpkciecbpaa", sum := "7990d8d6269f27395621529b3c9b2db5183e9f1b429281ebcbb6d3183fcff7e7", func := "mothball/mothballlaw22.TwolistSpares", spec := "twolistSpares", unfollowed := true, recurses := true, apart := false }
def TwolistSparesSaid : Prop := twolistSparesRow.holds Try.pinned (OpenSpec.ofChange twolistSparesSpec)

/-- ITS FALSE NEIGHBOUR: 'it returns false'. Refute it at one input. -/
def twolistSparesWrong : ChangeSpec := { name := "twolistSpares", fn := fun _ => fun
  | [d1, d2, d3] => { results := [.lit (.bool false)], args := [d1, d2, d3] }
  | _ => none }
def TwolistSparesWrongFalsely : Prop := twolistSparesRow.holds Try.pinned (OpenSpec.ofChange twolistSparesWrong)

/-- 'mothballlaw04.PackZigs': WHATEVER THE INPUT: true; the input reads as it did. -/
def packZigsSpec : ChangeSpec := { name := "packZigs", fn := fun _ => fun
  | [d1, d2] => { results := [.lit (.bool true)], args := [d1, d2] }
  | _ => none }
def packZigsRow : OpenClaim := { program := "ytmnlfpkciecbpaa", sum := "7990d8d6269f27395621529b3c9b2db5183e9f1b429281ebcbb6d3183fcff7e7", func := "mothball/mothballlaw04.PackZigs", spec := "packZigs", unfollowed := true, recurses := true, apart := false }
def PackZigsSaid : Prop := packZigsRow.holds Try.pinned (OpenSpec.ofChange packZigsSpec)

/-- ITS FALSE NEIGHBOUR: 'it returns false'. Refute it at one input. -/
def packZigsWrong : ChangeSpec := { name := "packZigs", fn := fun _ => fun
  | [d1, d2] => { results := [.lit (.bool false)], args := [d1, d2] }
  | _ => none }
def PackZigsWrongFalsely : Prop := packZigsRow.holds Try.pinned (OpenSpec.ofChange packZigsWrong)

/-- 'mothballlaw22.TwolistActs': WHATEVER THE INPUT: true; the input reads as it did. -/
def twolistActsSpec : ChangeSpec := { name := "twolistActs", fn := fun _ => fun
  | [d1, d2] => { results := [.lit (.bool true)], args := [d1, d2] }
  | _ => none }
def twolistActsRow : OpenClaim := { program := "ytmnlfpkciecbpaa", sum := "7990d8d6269f27395621529b3c9b2db5183e9f1b429281ebcbb6d3183fcff7e7", func := "mothball/mothballlaw22.TwolistActs", spec := "twolistActs", unfollowed := true, recurses := true, apart := false }
def TwolistActsSaid : Prop := twolistActsRow.holds Try.pinned (OpenSpec.ofChange twolistActsSpec)

/-- ITS FALSE NEIGHBOUR: 'it returns false'. Refute it at one input. -/
def twolistActsWrong : ChangeSpec := { name := "twolistActs", fn := fun _ => fun
  | [d1, d2] => { results := [.lit (.bool false)], args := [d1, d2] }
  | _ => none }
def TwolistActsWrongFalsely : Prop := twolistActsRow.holds Try.pinned (OpenSpec.ofChange twolistActsWrong)

/-- 'mothballlaw22.TwolistAll': WHATEVER THE INPUT: true; the input reads as it did. -/
def twolistAllSpec : ChangeSpec := { name := "twolistAll", fn := fun _ => fun
  | [d1, d2, d3] => { results := [.lit (.bool true)], args := [d1, d2, d3] }
  | _ => none }
def twolistAllRow : OpenClaim := { program := "ytmnlfpkciecbpaa", sum := "7990d8d6269f27395621529b3c9b2db5183e9f1b429281ebcbb6d3183fcff7e7", func := "mothball/mothballlaw22.TwolistAll", spec := "twolistAll", unfollowed := true, recurses := true, apart := false }
def TwolistAllSaid : Prop := twolistAllRow.holds Try.pinned (OpenSpec.ofChange twolistAllSpec)

/-- ITS FALSE NEIGHBOUR: 'it returns false'. Refute it at one input. -/
def twolistAllWrong : ChangeSpec := { name := "twolistAll", fn := fun _ => fun
  | [d1, d2, d3] => { results := [.lit (.bool false)], args := [d1, d2, d3] }
  | _ => none }
def TwolistAllWrongFalsely : Prop := twolistAllRow.holds Try.pinned (OpenSpec.ofChange twolistAllWrong)

/-- 'mothballlaw22.TwolistTurns': WHATEVER THE INPUT: true; the input reads as it did. -/
def twolistTurnsSpec : ChangeSpec := { name := "twolistTurns", fn := fun _ => fun
  | [d1, d2] => { results := [.lit (.bool true)], args := [d1, d2] }
  | _ => none }
def twolistTurnsRow : OpenClaim := { program := "ytmnlfpkciecbpaa", sum := "7990d8d6269f27395621529b3c9b2db5183e9f1b429281ebcbb6d3183fcff7e7", func := "mothball/mothballlaw22.TwolistTurns", spec := "twolistTurns", unfollowed := true, recurses := true, apart := false }
def TwolistTurnsSaid : Prop := twolistTurnsRow.holds Try.pinned (OpenSpec.ofChange twolistTurnsSpec)

/-- ITS FALSE NEIGHBOUR: 'it returns false'. Refute it at one input. -/
def twolistTurnsWrong : ChangeSpec := { name := "twolistTurns", fn := fun _ => fun
  | [d1, d2] => { results := [.lit (.bool false)], args := [d1, d2] }
  | _ => none }
def TwolistTurnsWrongFalsely : Prop := twolistTurnsRow.holds Try.pinned (OpenSpec.ofChange twolistTurnsWrong)

/-- 'mothballlaw04.PackFields': WHATEVER THE INPUT: true; the input reads as it did. -/
def packFieldsSpec : ChangeSpec := { name := "packFields", fn := fun _ => fun
  | [d] => { results := [.lit (.bool true)], args := [d] }
  | _ => none }
def packFieldsRow : OpenClaim := { program := "ytmnlfpkciecbpaa", sum := "7990d8d6269f27395621529b3c9b2db5183e9f1b429281ebcbb6d3183fcff7e7", func := "mothball/mothballlaw04.PackFields", spec := "packFields", unfollowed := true, recurses := true, apart := false }
def PackFieldsSaid : Prop := packFieldsRow.holds Try.pinned (OpenSpec.ofChange packFieldsSpec)

/-- ITS FALSE NEIGHBOUR: 'it returns false'. Refute it at one input. -/
def packFieldsWrong : ChangeSpec := { name := "packFields", fn := fun _ => fun
  | [d] => { results := [.lit (.bool false)], args := [d] }
  | _ => none }
def PackFieldsWrongFalsely : Prop := packFieldsRow.holds Try.pinned (OpenSpec.ofChange packFieldsWrong)

/-- 'mothballlaw04.PackReads': WHATEVER THE INPUT: true; the input reads as it did. -/
def packReadsSpec : ChangeSpec := { name := "packReads", fn := fun _ => fun
  | [d1, d2] => { results := [.lit (.bool true)], args := [d1, d2] }
  | _ => none }
def packReadsRow : OpenClaim := { program := "ytmnlfpkciecbpaa", sum := "7990d8d6269f27395621529b3c9b2db5183e9f1b429281ebcbb6d3183fcff7e7", func := "mothball/mothballlaw04.PackReads", spec := "packReads", unfollowed := true, recurses := true, apart := false }
def PackReadsSaid : Prop := packReadsRow.holds Try.pinned (OpenSpec.ofChange packReadsSpec)

/-- ITS FALSE NEIGHBOUR: 'it returns false'. Refute it at one input. -/
def packReadsWrong : ChangeSpec := { name := "packReads", fn := fun _ => fun
  | [d1, d2] => { results := [.lit (.bool false)], args := [d1, d2] }
  | _ => none }
def PackReadsWrongFalsely : Prop := packReadsRow.holds Try.pinned (OpenSpec.ofChange packReadsWrong)

/-- 'mothballlaw04.PackFails': WHATEVER THE INPUT: true; the input reads as it did. -/
def packFailsSpec : ChangeSpec := { name := "packFails", fn := fun _ => fun
  | [d] => { results := [.lit (.bool true)], args := [d] }
  | _ => none }
def packFailsRow : OpenClaim := { program := "ytmnlfpkciecbpaa", sum := "7990d8d6269f27395621529b3c9b2db5183e9f1b429281ebcbb6d3183fcff7e7", func := "mothball/mothballlaw04.PackFails", spec := "packFails", unfollowed := true, recurses := true, apart := false }
def PackFailsSaid : Prop := packFailsRow.holds Try.pinned (OpenSpec.ofChange packFailsSpec)

/-- ITS FALSE NEIGHBOUR: 'it returns false'. Refute it at one input. -/
def packFailsWrong : ChangeSpec := { name := "packFails", fn := fun _ => fun
  | [d] => { results := [.lit (.bool false)], args := [d] }
  | _ => none }
def PackFailsWrongFalsely : Prop := packFailsRow.holds Try.pinned (OpenSpec.ofChange packFailsWrong)

/-- 'mothballlaw03.DiskKeeps': WHATEVER THE INPUT: true; the input reads as it did. -/
def diskKeepsSpec : ChangeSpec := { name := "diskKeeps", fn := fun _ => fun
  | [d1, d2] => { results := [.lit (.bool true)], args := [d1, d2] }
  | _ => none }
def diskKeepsRow : OpenClaim := { program := "ytmnlfpkciecbpaa", sum := "7990d8d6269f27395621529b3c9b2db5183e9f1b429281ebcbb6d3183fcff7e7", func := "mothball/mothballlaw03.DiskKeeps", spec := "diskKeeps", unfollowed := true, recurses := true, apart := false }
def DiskKeepsSaid : Prop := diskKeepsRow.holds Try.pinned (OpenSpec.ofChange diskKeepsSpec)

/-- ITS FALSE NEIGHBOUR: 'it returns false'. Refute it at one input. -/
def diskKeepsWrong : ChangeSpec := { name := "diskKeeps", fn := fun _ => fun
  | [d1, d2] => { results := [.lit (.bool false)], args := [d1, d2] }
  | _ => none }
def DiskKeepsWrongFalsely : Prop := diskKeepsRow.holds Try.pinned (OpenSpec.ofChange diskKeepsWrong)

/-- 'mothballlaw03.DiskOff': WHATEVER THE INPUT: true; the input reads as it did. -/
def diskOffSpec : ChangeSpec := { name := "diskOff", fn := fun _ => fun
  | [d1, d2] => { results := [.lit (.bool true)], args := [d1, d2] }
  | _ => none }
def diskOffRow : OpenClaim := { program := "ytmnlfpkciecbpaa", sum := "7990d8d6269f27395621529b3c9b2db5183e9f1b429281ebcbb6d3183fcff7e7", func := "mothball/mothballlaw03.DiskOff", spec := "diskOff", unfollowed := true, recurses := true, apart := false }
def DiskOffSaid : Prop := diskOffRow.holds Try.pinned (OpenSpec.ofChange diskOffSpec)

/-- ITS FALSE NEIGHBOUR: 'it returns false'. Refute it at one input. -/
def diskOffWrong : ChangeSpec := { name := "diskOff", fn := fun _ => fun
  | [d1, d2] => { results := [.lit (.bool false)], args := [d1, d2] }
  | _ => none }
def DiskOffWrongFalsely : Prop := diskOffRow.holds Try.pinned (OpenSpec.ofChange diskOffWrong)

/-- 'mothballlaw03.DiskTorn': WHATEVER THE INPUT: true; the input reads as it did. -/
def diskTornSpec : ChangeSpec := { name := "diskTorn", fn := fun _ => fun
  | [d1, d2, d3] => { results := [.lit (.bool true)], args := [d1, d2, d3] }
  | _ => none }
def diskTornRow : OpenClaim := { program := "ytmnlfpkciecbpaa", sum := "7990d8d6269f27395621529b3c9b2db5183e9f1b429281ebcbb6d3183fcff7e7", func := "mothball/mothballlaw03.DiskTorn", spec := "diskTorn", unfollowed := true, recurses := true, apart := false }
def DiskTornSaid : Prop := diskTornRow.holds Try.pinned (OpenSpec.ofChange diskTornSpec)

/-- ITS FALSE NEIGHBOUR: 'it returns false'. Refute it at one input. -/
def diskTornWrong : ChangeSpec := { name := "diskTorn", fn := fun _ => fun
  | [d1, d2, d3] => { results := [.lit (.bool false)], args := [d1, d2, d3] }
  | _ => none }
def DiskTornWrongFalsely : Prop := diskTornRow.holds Try.pinned (OpenSpec.ofChange diskTornWrong)

/-- 'mothballlaw03.DiskLoads': WHATEVER THE INPUT: true; the input reads as it did. -/
def diskLoadsSpec : ChangeSpec := { name := "diskLoads", fn := fun _ => fun
  | [d] => { results := [.lit (.bool true)], args := [d] }
  | _ => none }
def diskLoadsRow : OpenClaim := { program := "ytmnlfpkciecbpaa", sum := "7990d8d6269f27395621529b3c9b2db5183e9f1b429281ebcbb6d3183fcff7e7", func := "mothball/mothballlaw03.DiskLoads", spec := "diskLoads", unfollowed := true, recurses := true, apart := false }
def DiskLoadsSaid : Prop := diskLoadsRow.holds Try.pinned (OpenSpec.ofChange diskLoadsSpec)

/-- ITS FALSE NEIGHBOUR: 'it returns false'. Refute it at one input. -/
def diskLoadsWrong : ChangeSpec := { name := "diskLoads", fn := fun _ => fun
  | [d] => { results := [.lit (.bool false)], args := [d] }
  | _ => none }
def DiskLoadsWrongFalsely : Prop := diskLoadsRow.holds Try.pinned (OpenSpec.ofChange diskLoadsWrong)

/-- 'mothballlaw06.RecordParts': WHATEVER THE INPUT: true; the input reads as it did. -/
def recordPartsSpec : ChangeSpec := { name := "recordParts", fn := fun _ => fun
  | [d1, d2] => { results := [.lit (.bool true)], args := [d1, d2] }
  | _ => none }
def recordPartsRow : OpenClaim := { program := "ytmnlfpkciecbpaa", sum := "7990d8d6269f27395621529b3c9b2db5183e9f1b429281ebcbb6d3183fcff7e7", func := "mothball/mothballlaw06.RecordParts", spec := "recordParts", apart := false }
def RecordPartsSaid : Prop := recordPartsRow.holds Try.pinned (OpenSpec.ofChange recordPartsSpec)

/-- ITS FALSE NEIGHBOUR: 'it returns false'. Refute it at one input. -/
def recordPartsWrong : ChangeSpec := { name := "recordParts", fn := fun _ => fun
  | [d1, d2] => { results := [.lit (.bool false)], args := [d1, d2] }
  | _ => none }
def RecordPartsWrongFalsely : Prop := recordPartsRow.holds Try.pinned (OpenSpec.ofChange recordPartsWrong)

/-- 'mothballlaw05.SuperPuts': WHATEVER THE INPUT: true; the input reads as it did. -/
def superPutsSpec : ChangeSpec := { name := "superPuts", fn := fun _ => fun
  | [d] => { results := [.lit (.bool true)], args := [d] }
  | _ => none }
def superPutsRow : OpenClaim := { program := "ytmnlfpkciecbpaa", sum := "7990d8d6269f27395621529b3c9b2db5183e9f1b429281ebcbb6d3183fcff7e7", func := "mothball/mothballlaw05.SuperPuts", spec := "superPuts", apart := false }
def SuperPutsSaid : Prop := superPutsRow.holds Try.pinned (OpenSpec.ofChange superPutsSpec)

/-- ITS FALSE NEIGHBOUR: 'it returns false'. Refute it at one input. -/
def superPutsWrong : ChangeSpec := { name := "superPuts", fn := fun _ => fun
  | [d] => { results := [.lit (.bool false)], args := [d] }
  | _ => none }
def SuperPutsWrongFalsely : Prop := superPutsRow.holds Try.pinned (OpenSpec.ofChange superPutsWrong)

/-- 'mothballlaw05.SuperTurns': WHATEVER THE INPUT: true; the input reads as it did. -/
def superTurnsSpec : ChangeSpec := { name := "superTurns", fn := fun _ => fun
  | [d1, d2, d3] => { results := [.lit (.bool true)], args := [d1, d2, d3] }
  | _ => none }
def superTurnsRow : OpenClaim := { program := "ytmnlfpkciecbpaa", sum := "7990d8d6269f27395621529b3c9b2db5183e9f1b429281ebcbb6d3183fcff7e7", func := "mothball/mothballlaw05.SuperTurns", spec := "superTurns", apart := false }
def SuperTurnsSaid : Prop := superTurnsRow.holds Try.pinned (OpenSpec.ofChange superTurnsSpec)

/-- ITS FALSE NEIGHBOUR: 'it returns false'. Refute it at one input. -/
def superTurnsWrong : ChangeSpec := { name := "superTurns", fn := fun _ => fun
  | [d1, d2, d3] => { results := [.lit (.bool false)], args := [d1, d2, d3] }
  | _ => none }
def SuperTurnsWrongFalsely : Prop := superTurnsRow.holds Try.pinned (OpenSpec.ofChange superTurnsWrong)

/-- 'mothballlaw05.SuperTurned': WHATEVER THE INPUT: true; the input reads as it did. -/
def superTurnedSpec : ChangeSpec := { name := "superTurned", fn := fun _ => fun
  | [d1, d2, d3] => { results := [.lit (.bool true)], args := [d1, d2, d3] }
  | _ => none }
def superTurnedRow : OpenClaim := { program := "ytmnlfpkciecbpaa", sum := "7990d8d6269f27395621529b3c9b2db5183e9f1b429281ebcbb6d3183fcff7e7", func := "mothball/mothballlaw05.SuperTurned", spec := "superTurned", apart := false }
def SuperTurnedSaid : Prop := superTurnedRow.holds Try.pinned (OpenSpec.ofChange superTurnedSpec)

/-- ITS FALSE NEIGHBOUR: 'it returns false'. Refute it at one input. -/
def superTurnedWrong : ChangeSpec := { name := "superTurned", fn := fun _ => fun
  | [d1, d2, d3] => { results := [.lit (.bool false)], args := [d1, d2, d3] }
  | _ => none }
def SuperTurnedWrongFalsely : Prop := superTurnedRow.holds Try.pinned (OpenSpec.ofChange superTurnedWrong)

/-- 'mothballlaw20.AreaRooms': WHATEVER THE INPUT: true; the input reads as it did. -/
def areaRoomsSpec : ChangeSpec := { name := "areaRooms", fn := fun _ => fun
  | [d1, d2] => { results := [.lit (.bool true)], args := [d1, d2] }
  | _ => none }
def areaRoomsRow : OpenClaim := { program := "ytmnlfpkciecbpaa", sum := "7990d8d6269f27395621529b3c9b2db5183e9f1b429281ebcbb6d3183fcff7e7", func := "mothball/mothballlaw20.AreaRooms", spec := "areaRooms", unfollowed := true, recurses := true, apart := false }
def AreaRoomsSaid : Prop := areaRoomsRow.holds Try.pinned (OpenSpec.ofChange areaRoomsSpec)

/-- ITS FALSE NEIGHBOUR: 'it returns false'. Refute it at one input. -/
def areaRoomsWrong : ChangeSpec := { name := "areaRooms", fn := fun _ => fun
  | [d1, d2] => { results := [.lit (.bool false)], args := [d1, d2] }
  | _ => none }
def AreaRoomsWrongFalsely : Prop := areaRoomsRow.holds Try.pinned (OpenSpec.ofChange areaRoomsWrong)

/-- 'mothballlaw05.SuperGets': WHATEVER THE INPUT: true; the input reads as it did. -/
def superGetsSpec : ChangeSpec := { name := "superGets", fn := fun _ => fun
  | [d] => { results := [.lit (.bool true)], args := [d] }
  | _ => none }
def superGetsRow : OpenClaim := { program := "ytmnlfpkciecbpaa", sum := "7990d8d6269f27395621529b3c9b2db5183e9f1b429281ebcbb6d3183fcff7e7", func := "mothball/mothballlaw05.SuperGets", spec := "superGets", apart := false }
def SuperGetsSaid : Prop := superGetsRow.holds Try.pinned (OpenSpec.ofChange superGetsSpec)

/-- ITS FALSE NEIGHBOUR: 'it returns false'. Refute it at one input. -/
def superGetsWrong : ChangeSpec := { name := "superGets", fn := fun _ => fun
  | [d] => { results := [.lit (.bool false)], args := [d] }
  | _ => none }
def SuperGetsWrongFalsely : Prop := superGetsRow.holds Try.pinned (OpenSpec.ofChange superGetsWrong)

/-- 'mothballlaw05.SuperTorn': WHATEVER THE INPUT: true; the input reads as it did. -/
def superTornSpec : ChangeSpec := { name := "superTorn", fn := fun _ => fun
  | [d1, d2, d3] => { results := [.lit (.bool true)], args := [d1, d2, d3] }
  | _ => none }
def superTornRow : OpenClaim := { program := "ytmnlfpkciecbpaa", sum := "7990d8d6269f27395621529b3c9b2db5183e9f1b429281ebcbb6d3183fcff7e7", func := "mothball/mothballlaw05.SuperTorn", spec := "superTorn", apart := false }
def SuperTornSaid : Prop := superTornRow.holds Try.pinned (OpenSpec.ofChange superTornSpec)

/-- ITS FALSE NEIGHBOUR: 'it returns false'. Refute it at one input. -/
def superTornWrong : ChangeSpec := { name := "superTorn", fn := fun _ => fun
  | [d1, d2, d3] => { results := [.lit (.bool false)], args := [d1, d2, d3] }
  | _ => none }
def SuperTornWrongFalsely : Prop := superTornRow.holds Try.pinned (OpenSpec.ofChange superTornWrong)

/-- 'mothballlaw06.RecordCuts': WHATEVER THE INPUT: true; the input reads as it did. -/
def recordCutsSpec : ChangeSpec := { name := "recordCuts", fn := fun _ => fun
  | [d1, d2, d3] => { results := [.lit (.bool true)], args := [d1, d2, d3] }
  | _ => none }
def recordCutsRow : OpenClaim := { program := "ytmnlfpkciecbpaa", sum := "7990d8d6269f27395621529b3c9b2db5183e9f1b429281ebcbb6d3183fcff7e7", func := "mothball/mothballlaw06.RecordCuts", spec := "recordCuts", unfollowed := true, recurses := true, apart := false }
def RecordCutsSaid : Prop := recordCutsRow.holds Try.pinned (OpenSpec.ofChange recordCutsSpec)

/-- ITS FALSE NEIGHBOUR: 'it returns false'. Refute it at one input. -/
def recordCutsWrong : ChangeSpec := { name := "recordCuts", fn := fun _ => fun
  | [d1, d2, d3] => { results := [.lit (.bool false)], args := [d1, d2, d3] }
  | _ => none }
def RecordCutsWrongFalsely : Prop := recordCutsRow.holds Try.pinned (OpenSpec.ofChange recordCutsWrong)

/-- 'mothballlaw06.RecordJoins': WHATEVER THE INPUT: true; the input reads as it did. -/
def recordJoinsSpec : ChangeSpec := { name := "recordJoins", fn := fun _ => fun
  | [d1, d2] => { results := [.lit (.bool true)], args := [d1, d2] }
  | _ => none }
def recordJoinsRow : OpenClaim := { program := "ytmnlfpkciecbpaa", sum := "7990d8d6269f27395621529b3c9b2db5183e9f1b429281ebcbb6d3183fcff7e7", func := "mothball/mothballlaw06.RecordJoins", spec := "recordJoins", unfollowed := true, recurses := true, apart := false }
def RecordJoinsSaid : Prop := recordJoinsRow.holds Try.pinned (OpenSpec.ofChange recordJoinsSpec)

/-- ITS FALSE NEIGHBOUR: 'it returns false'. Refute it at one input. -/
def recordJoinsWrong : ChangeSpec := { name := "recordJoins", fn := fun _ => fun
  | [d1, d2] => { results := [.lit (.bool false)], args := [d1, d2] }
  | _ => none }
def RecordJoinsWrongFalsely : Prop := recordJoinsRow.holds Try.pinned (OpenSpec.ofChange recordJoinsWrong)

/-- 'mothballlaw06.RecordTurned': WHATEVER THE INPUT: true; the input reads as it did. -/
def recordTurnedSpec : ChangeSpec := { name := "recordTurned", fn := fun _ => fun
  | [d1, d2, d3] => { results := [.lit (.bool true)], args := [d1, d2, d3] }
  | _ => none }
def recordTurnedRow : OpenClaim := { program := "ytmnlfpkciecbpaa", sum := "7990d8d6269f27395621529b3c9b2db5183e9f1b429281ebcbb6d3183fcff7e7", func := "mothball/mothballlaw06.RecordTurned", spec := "recordTurned", unfollowed := true, recurses := true, apart := false }
def RecordTurnedSaid : Prop := recordTurnedRow.holds Try.pinned (OpenSpec.ofChange recordTurnedSpec)

/-- ITS FALSE NEIGHBOUR: 'it returns false'. Refute it at one input. -/
def recordTurnedWrong : ChangeSpec := { name := "recordTurned", fn := fun _ => fun
  | [d1, d2, d3] => { results := [.lit (.bool false)], args := [d1, d2, d3] }
  | _ => none }
def RecordTurnedWrongFalsely : Prop := recordTurnedRow.holds Try.pinned (OpenSpec.ofChange recordTurnedWrong)

/-- 'mothballlaw20.AreaTurns': WHATEVER THE INPUT: true; the input reads as it did. -/
def areaTurnsSpec : ChangeSpec := { name := "areaTurns", fn := fun _ => fun
  | [d1, d2, d3] => { results := [.lit (.bool true)], args := [d1, d2, d3] }
  | _ => none }
def areaTurnsRow : OpenClaim := { program := "ytmnlfpkciecbpaa", sum := "7990d8d6269f27395621529b3c9b2db5183e9f1b429281ebcbb6d3183fcff7e7", func := "mothball/mothballlaw20.AreaTurns", spec := "areaTurns", unfollowed := true, recurses := true, apart := false }
def AreaTurnsSaid : Prop := areaTurnsRow.holds Try.pinned (OpenSpec.ofChange areaTurnsSpec)

/-- ITS FALSE NEIGHBOUR: 'it returns false'. Refute it at one input. -/
def areaTurnsWrong : ChangeSpec := { name := "areaTurns", fn := fun _ => fun
  | [d1, d2, d3] => { results := [.lit (.bool false)], args := [d1, d2, d3] }
  | _ => none }
def AreaTurnsWrongFalsely : Prop := areaTurnsRow.holds Try.pinned (OpenSpec.ofChange areaTurnsWrong)

/-- 'mothballlaw20.AreaTorn': WHATEVER THE INPUT: true; the input reads as it did. -/
def areaTornSpec : ChangeSpec := { name := "areaTorn", fn := fun _ => fun
  | [d1, d2] => { results := [.lit (.bool true)], args := [d1, d2] }
  | _ => none }
def areaTornRow : OpenClaim := { program := "ytmnlfpkciecbpaa", sum := "7990d8d6269f27395621529b3c9b2db5183e9f1b429281ebcbb6d3183fcff7e7", func := "mothball/mothballlaw20.AreaTorn", spec := "areaTorn", unfollowed := true, recurses := true, apart := false }
def AreaTornSaid : Prop := areaTornRow.holds Try.pinned (OpenSpec.ofChange areaTornSpec)

/-- ITS FALSE NEIGHBOUR: 'it returns false'. Refute it at one input. -/
def areaTornWrong : ChangeSpec := { name := "areaTorn", fn := fun _ => fun
  | [d1, d2] => { results := [.lit (.bool false)], args := [d1, d2] }
  | _ => none }
def AreaTornWrongFalsely : Prop := areaTornRow.holds Try.pinned (OpenSpec.ofChange areaTornWrong)

/-- 'mothballlaw07.JournalFits': WHATEVER THE INPUT: true; the input reads as it did. -/
def journalFitsSpec : ChangeSpec := { name := "journalFits", fn := fun _ => fun
  | [d1, d2] => { results := [.lit (.bool true)], args := [d1, d2] }
  | _ => none }
def journalFitsRow : OpenClaim := { program := "ytmnlfpkciecbpaa", sum := "7990d8d6269f27395621529b3c9b2db5183e9f1b429281ebcbb6d3183fcff7e7", func := "mothball/mothballlaw07.JournalFits", spec := "journalFits", unfollowed := true, recurses := true, apart := false }
def JournalFitsSaid : Prop := journalFitsRow.holds Try.pinned (OpenSpec.ofChange journalFitsSpec)

/-- ITS FALSE NEIGHBOUR: 'it returns false'. Refute it at one input. -/
def journalFitsWrong : ChangeSpec := { name := "journalFits", fn := fun _ => fun
  | [d1, d2] => { results := [.lit (.bool false)], args := [d1, d2] }
  | _ => none }
def JournalFitsWrongFalsely : Prop := journalFitsRow.holds Try.pinned (OpenSpec.ofChange journalFitsWrong)

/-- 'mothballlaw07.JournalElder': WHATEVER THE INPUT: true; the input reads as it did. -/
def journalElderSpec : ChangeSpec := { name := "journalElder", fn := fun _ => fun
  | [d1, d2, d3] => { results := [.lit (.bool true)], args := [d1, d2, d3] }
  | _ => none }
def journalElderRow : OpenClaim := { program := "ytmnlfpkciecbpaa", sum := "7990d8d6269f27395621529b3c9b2db5183e9f1b429281ebcbb6d3183fcff7e7", func := "mothball/mothballlaw07.JournalElder", spec := "journalElder", unfollowed := true, recurses := true, apart := false }
def JournalElderSaid : Prop := journalElderRow.holds Try.pinned (OpenSpec.ofChange journalElderSpec)

/-- ITS FALSE NEIGHBOUR: 'it returns false'. Refute it at one input. -/
def journalElderWrong : ChangeSpec := { name := "journalElder", fn := fun _ => fun
  | [d1, d2, d3] => { results := [.lit (.bool false)], args := [d1, d2, d3] }
  | _ => none }
def JournalElderWrongFalsely : Prop := journalElderRow.holds Try.pinned (OpenSpec.ofChange journalElderWrong)

/-- 'mothballlaw07.JournalRound': WHATEVER THE INPUT: true; the input reads as it did. -/
def journalRoundSpec : ChangeSpec := { name := "journalRound", fn := fun _ => fun
  | [d1, d2] => { results := [.lit (.bool true)], args := [d1, d2] }
  | _ => none }
def journalRoundRow : OpenClaim := { program := "ytmnlfpkciecbpaa", sum := "7990d8d6269f27395621529b3c9b2db5183e9f1b429281ebcbb6d3183fcff7e7", func := "mothball/mothballlaw07.JournalRound", spec := "journalRound", unfollowed := true, recurses := true, apart := false }
def JournalRoundSaid : Prop := journalRoundRow.holds Try.pinned (OpenSpec.ofChange journalRoundSpec)

/-- ITS FALSE NEIGHBOUR: 'it returns false'. Refute it at one input. -/
def journalRoundWrong : ChangeSpec := { name := "journalRound", fn := fun _ => fun
  | [d1, d2] => { results := [.lit (.bool false)], args := [d1, d2] }
  | _ => none }
def JournalRoundWrongFalsely : Prop := journalRoundRow.holds Try.pinned (OpenSpec.ofChange journalRoundWrong)

/-- 'mothballlaw07.JournalCrashes': WHATEVER THE INPUT: true; the input reads as it did. -/
def journalCrashesSpec : ChangeSpec := { name := "journalCrashes", fn := fun _ => fun
  | [d1, d2] => { results := [.lit (.bool true)], args := [d1, d2] }
  | _ => none }
def journalCrashesRow : OpenClaim := { program := "ytmnlfpkciecbpaa", sum := "7990d8d6269f27395621529b3c9b2db5183e9f1b429281ebcbb6d3183fcff7e7", func := "mothball/mothballlaw07.JournalCrashes", spec := "journalCrashes", unfollowed := true, recurses := true, apart := false }
def JournalCrashesSaid : Prop := journalCrashesRow.holds Try.pinned (OpenSpec.ofChange journalCrashesSpec)

/-- ITS FALSE NEIGHBOUR: 'it returns false'. Refute it at one input. -/
def journalCrashesWrong : ChangeSpec := { name := "journalCrashes", fn := fun _ => fun
  | [d1, d2] => { results := [.lit (.bool false)], args := [d1, d2] }
  | _ => none }
def JournalCrashesWrongFalsely : Prop := journalCrashesRow.holds Try.pinned (OpenSpec.ofChange journalCrashesWrong)

/- THE SECOND FORM. 'bulk': how many values and letters a reading holds, each counted each time it is reached (what is shared counts as often as it is met; a slice's spare places count too). A statement '..UptoSaid' is the law's where the arguments, and the package variables that the reading takes, are together of bulk at most 1048576: NARROWER than '..Said'. Prove '..Said' where nothing that the law and all that it calls make is longer than what came in: it says more and counts as full. Else prove '..UptoSaid'. A law counts once. -/
mutual
def uptoBulk {H : Type} : DataW H → Nat
  | .lit (.string bytes) => bytes.length + 1
  | .lit _ => 1
  | .nil => 1
  | .ptr d => uptoBulk d + 1
  | .slice elems spare => uptoBulkAll elems + uptoBulkAll spare + 1
  | .agg parts => uptoBulkAll parts + 1
  | .iface _ d => uptoBulk d + 1
  | .map entries => uptoBulkEntries entries + 1
  | .held _ => 1
def uptoBulkAll {H : Type} : List (DataW H) → Nat
  | [] => 0
  | d :: r => uptoBulk d + uptoBulkAll r
def uptoBulkEntries {H : Type} : List (Lit × DataW H) → Nat
  | [] => 0
  | x :: r => uptoBulkEntry x + uptoBulkEntries r
def uptoBulkEntry {H : Type} : Lit × DataW H → Nat
  | (.string bytes, d) => bytes.length + uptoBulk d + 1
  | (_, d) => uptoBulk d + 1
 end
def uptoSmall : (H : Type) → List (DataW H) → Bool := fun _ ds => decide (uptoBulkAll ds ≤ 1048576)
def OpenSpec.upto (s : _root_.Go.ChangeSpec) : _root_.Go.OpenSpec := { _root_.Go.OpenSpec.ofChange s with cond := some uptoSmall }

/-- 'mothballlaw06.RecordSectors', WHERE WHAT IT READS IS OF BULK AT MOST 1048576: true; the input reads as it did. -/
def recordSectorsUptoRow : OpenClaim := { program := "ytmnlfpkciecbpaa", sum := "7990d8d6269f27395621529b3c9b2db5183e9f1b429281ebcbb6d3183fcff7e7", func := "mothball/mothballlaw06.RecordSectors", spec := "recordSectors", apart := false, narrowed := true }
def RecordSectorsUptoSaid : Prop := recordSectorsUptoRow.holds Try.pinned (OpenSpec.upto recordSectorsSpec)

/-- 'mothballlaw02.CrcXors', WHERE WHAT IT READS IS OF BULK AT MOST 1048576: true; the input reads as it did. -/
def crcXorsUptoRow : OpenClaim := { program := "ytmnlfpkciecbpaa", sum := "7990d8d6269f27395621529b3c9b2db5183e9f1b429281ebcbb6d3183fcff7e7", func := "mothball/mothballlaw02.CrcXors", spec := "crcXors", apart := false, narrowed := true }
def CrcXorsUptoSaid : Prop := crcXorsUptoRow.holds Try.pinned (OpenSpec.upto crcXorsSpec)

/-- 'mothballlaw02.CrcSums', WHERE WHAT IT READS IS OF BULK AT MOST 1048576: true; the input reads as it did. -/
def crcSumsUptoRow : OpenClaim := { program := "ytmnlfpkciecbpaa", sum := "7990d8d6269f27395621529b3c9b2db5183e9f1b429281ebcbb6d3183fcff7e7", func := "mothball/mothballlaw02.CrcSums", spec := "crcSums", apart := false, narrowed := true }
def CrcSumsUptoSaid : Prop := crcSumsUptoRow.holds Try.pinned (OpenSpec.upto crcSumsSpec)

/-- 'mothballlaw02.CrcSeals', WHERE WHAT IT READS IS OF BULK AT MOST 1048576: true; the input reads as it did. -/
def crcSealsUptoRow : OpenClaim := { program := "ytmnlfpkciecbpaa", sum := "7990d8d6269f27395621529b3c9b2db5183e9f1b429281ebcbb6d3183fcff7e7", func := "mothball/mothballlaw02.CrcSeals", spec := "crcSeals", apart := false, narrowed := true }
def CrcSealsUptoSaid : Prop := crcSealsUptoRow.holds Try.pinned (OpenSpec.upto crcSealsSpec)

/-- 'mothballlaw02.CrcTurned', WHERE WHAT IT READS IS OF BULK AT MOST 1048576: true; the input reads as it did. -/
def crcTurnedUptoRow : OpenClaim := { program := "ytmnlfpkciecbpaa", sum := "7990d8d6269f27395621529b3c9b2db5183e9f1b429281ebcbb6d3183fcff7e7", func := "mothball/mothballlaw02.CrcTurned", spec := "crcTurned", apart := false, narrowed := true }
def CrcTurnedUptoSaid : Prop := crcTurnedUptoRow.holds Try.pinned (OpenSpec.upto crcTurnedSpec)

/-- 'mothballlaw02.CrcTwice', WHERE WHAT IT READS IS OF BULK AT MOST 1048576: true; the input reads as it did. -/
def crcTwiceUptoRow : OpenClaim := { program := "ytmnlfpkciecbpaa", sum := "7990d8d6269f27395621529b3c9b2db5183e9f1b429281ebcbb6d3183fcff7e7", func := "mothball/mothballlaw02.CrcTwice", spec := "crcTwice", apart := false, narrowed := true }
def CrcTwiceUptoSaid : Prop := crcTwiceUptoRow.holds Try.pinned (OpenSpec.upto crcTwiceSpec)

/-- 'mothballlaw22.TwolistSpares', WHERE WHAT IT READS IS OF BULK AT MOST 1048576: true; the input reads as it did. -/
def twolistSparesUptoRow : OpenClaim := { program := "ytmnlfpkciecbpaa", sum := "7990d8d6269f27395621529b3c9b2db5183e9f1b429281ebcbb6d3183fcff7e7", func := "mothball/mothballlaw22.TwolistSpares", spec := "twolistSpares", unfollowed := true, recurses := true, apart := false, narrowed := true }
def TwolistSparesUptoSaid : Prop := twolistSparesUptoRow.holds Try.pinned (OpenSpec.upto twolistSparesSpec)

/-- 'mothballlaw04.PackZigs', WHERE WHAT IT READS IS OF BULK AT MOST 1048576: true; the input reads as it did. -/
def packZigsUptoRow : OpenClaim := { program := "ytmnlfpkciecbpaa", sum := "7990d8d6269f27395621529b3c9b2db5183e9f1b429281ebcbb6d3183fcff7e7", func := "mothball/mothballlaw04.PackZigs", spec := "packZigs", unfollowed := true, recurses := true, apart := false, narrowed := true }
def PackZigsUptoSaid : Prop := packZigsUptoRow.holds Try.pinned (OpenSpec.upto packZigsSpec)

/-- 'mothballlaw22.TwolistActs', WHERE WHAT IT READS IS OF BULK AT MOST 1048576: true; the input reads as it did. -/
def twolistActsUptoRow : OpenClaim := { program := "ytmnlfpkciecbpaa", sum := "7990d8d6269f27395621529b3c9b2db5183e9f1b429281ebcbb6d3183fcff7e7", func := "mothball/mothballlaw22.TwolistActs", spec := "twolistActs", unfollowed := true, recurses := true, apart := false, narrowed := true }
def TwolistActsUptoSaid : Prop := twolistActsUptoRow.holds Try.pinned (OpenSpec.upto twolistActsSpec)

/-- 'mothballlaw22.TwolistAll', WHERE WHAT IT READS IS OF BULK AT MOST 1048576: true; the input reads as it did. -/
def twolistAllUptoRow : OpenClaim := { program := "ytmnlfpkciecbpaa", sum := "7990d8d6269f27395621529b3c9b2db5183e9f1b429281ebcbb6d3183fcff7e7", func := "mothball/mothballlaw22.TwolistAll", spec := "twolistAll", unfollowed := true, recurses := true, apart := false, narrowed := true }
def TwolistAllUptoSaid : Prop := twolistAllUptoRow.holds Try.pinned (OpenSpec.upto twolistAllSpec)

/-- 'mothballlaw22.TwolistTurns', WHERE WHAT IT READS IS OF BULK AT MOST 1048576: true; the input reads as it did. -/
def twolistTurnsUptoRow : OpenClaim := { program := "ytmnlfpkciecbpaa", sum := "7990d8d6269f27395621529b3c9b2db5183e9f1b429281ebcbb6d3183fcff7e7", func := "mothball/mothballlaw22.TwolistTurns", spec := "twolistTurns", unfollowed := true, recurses := true, apart := false, narrowed := true }
def TwolistTurnsUptoSaid : Prop := twolistTurnsUptoRow.holds Try.pinned (OpenSpec.upto twolistTurnsSpec)

/-- 'mothballlaw04.PackFields', WHERE WHAT IT READS IS OF BULK AT MOST 1048576: true; the input reads as it did. -/
def packFieldsUptoRow : OpenClaim := { program := "ytmnlfpkciecbpaa", sum := "7990d8d6269f27395621529b3c9b2db5183e9f1b429281ebcbb6d3183fcff7e7", func := "mothball/mothballlaw04.PackFields", spec := "packFields", unfollowed := true, recurses := true, apart := false, narrowed := true }
def PackFieldsUptoSaid : Prop := packFieldsUptoRow.holds Try.pinned (OpenSpec.upto packFieldsSpec)

/-- 'mothballlaw04.PackReads', WHERE WHAT IT READS IS OF BULK AT MOST 1048576: true; the input reads as it did. -/
def packReadsUptoRow : OpenClaim := { program := "ytmnlfpkciecbpaa", sum := "7990d8d6269f27395621529b3c9b2db5183e9f1b429281ebcbb6d3183fcff7e7", func := "mothball/mothballlaw04.PackReads", spec := "packReads", unfollowed := true, recurses := true, apart := false, narrowed := true }
def PackReadsUptoSaid : Prop := packReadsUptoRow.holds Try.pinned (OpenSpec.upto packReadsSpec)

/-- 'mothballlaw04.PackFails', WHERE WHAT IT READS IS OF BULK AT MOST 1048576: true; the input reads as it did. -/
def packFailsUptoRow : OpenClaim := { program := "ytmnlfpkciecbpaa", sum := "7990d8d6269f27395621529b3c9b2db5183e9f1b429281ebcbb6d3183fcff7e7", func := "mothball/mothballlaw04.PackFails", spec := "packFails", unfollowed := true, recurses := true, apart := false, narrowed := true }
def PackFailsUptoSaid : Prop := packFailsUptoRow.holds Try.pinned (OpenSpec.upto packFailsSpec)

/-- 'mothballlaw03.DiskKeeps', WHERE WHAT IT READS IS OF BULK AT MOST 1048576: true; the input reads as it did. -/
def diskKeepsUptoRow : OpenClaim := { program := "ytmnlfpkciecbpaa", sum := "7990d8d6269f27395621529b3c9b2db5183e9f1b429281ebcbb6d3183fcff7e7", func := "mothball/mothballlaw03.DiskKeeps", spec := "diskKeeps", unfollowed := true, recurses := true, apart := false, narrowed := true }
def DiskKeepsUptoSaid : Prop := diskKeepsUptoRow.holds Try.pinned (OpenSpec.upto diskKeepsSpec)

/-- 'mothballlaw03.DiskOff', WHERE WHAT IT READS IS OF BULK AT MOST 1048576: true; the input reads as it did. -/
def diskOffUptoRow : OpenClaim := { program := "ytmnlfpkciecbpaa", sum := "7990d8d6269f27395621529b3c9b2db5183e9f1b429281ebcbb6d3183fcff7e7", func := "mothball/mothballlaw03.DiskOff", spec := "diskOff", unfollowed := true, recurses := true, apart := false, narrowed := true }
def DiskOffUptoSaid : Prop := diskOffUptoRow.holds Try.pinned (OpenSpec.upto diskOffSpec)

/-- 'mothballlaw03.DiskTorn', WHERE WHAT IT READS IS OF BULK AT MOST 1048576: true; the input reads as it did. -/
def diskTornUptoRow : OpenClaim := { program := "ytmnlfpkciecbpaa", sum := "7990d8d6269f27395621529b3c9b2db5183e9f1b429281ebcbb6d3183fcff7e7", func := "mothball/mothballlaw03.DiskTorn", spec := "diskTorn", unfollowed := true, recurses := true, apart := false, narrowed := true }
def DiskTornUptoSaid : Prop := diskTornUptoRow.holds Try.pinned (OpenSpec.upto diskTornSpec)

/-- 'mothballlaw03.DiskLoads', WHERE WHAT IT READS IS OF BULK AT MOST 1048576: true; the input reads as it did. -/
def diskLoadsUptoRow : OpenClaim := { program := "ytmnlfpkciecbpaa", sum := "7990d8d6269f27395621529b3c9b2db5183e9f1b429281ebcbb6d3183fcff7e7", func := "mothball/mothballlaw03.DiskLoads", spec := "diskLoads", unfollowed := true, recurses := true, apart := false, narrowed := true }
def DiskLoadsUptoSaid : Prop := diskLoadsUptoRow.holds Try.pinned (OpenSpec.upto diskLoadsSpec)

/-- 'mothballlaw06.RecordParts', WHERE WHAT IT READS IS OF BULK AT MOST 1048576: true; the input reads as it did. -/
def recordPartsUptoRow : OpenClaim := { program := "ytmnlfpkciecbpaa", sum := "7990d8d6269f27395621529b3c9b2db5183e9f1b429281ebcbb6d3183fcff7e7", func := "mothball/mothballlaw06.RecordParts", spec := "recordParts", apart := false, narrowed := true }
def RecordPartsUptoSaid : Prop := recordPartsUptoRow.holds Try.pinned (OpenSpec.upto recordPartsSpec)

/-- 'mothballlaw05.SuperPuts', WHERE WHAT IT READS IS OF BULK AT MOST 1048576: true; the input reads as it did. -/
def superPutsUptoRow : OpenClaim := { program := "ytmnlfpkciecbpaa", sum := "7990d8d6269f27395621529b3c9b2db5183e9f1b429281ebcbb6d3183fcff7e7", func := "mothball/mothballlaw05.SuperPuts", spec := "superPuts", apart := false, narrowed := true }
def SuperPutsUptoSaid : Prop := superPutsUptoRow.holds Try.pinned (OpenSpec.upto superPutsSpec)

/-- 'mothballlaw05.SuperTurns', WHERE WHAT IT READS IS OF BULK AT MOST 1048576: true; the input reads as it did. -/
def superTurnsUptoRow : OpenClaim := { program := "ytmnlfpkciecbpaa", sum := "7990d8d6269f27395621529b3c9b2db5183e9f1b429281ebcbb6d3183fcff7e7", func := "mothball/mothballlaw05.SuperTurns", spec := "superTurns", apart := false, narrowed := true }
def SuperTurnsUptoSaid : Prop := superTurnsUptoRow.holds Try.pinned (OpenSpec.upto superTurnsSpec)

/-- 'mothballlaw05.SuperTurned', WHERE WHAT IT READS IS OF BULK AT MOST 1048576: true; the input reads as it did. -/
def superTurnedUptoRow : OpenClaim := { program := "ytmnlfpkciecbpaa", sum := "7990d8d6269f27395621529b3c9b2db5183e9f1b429281ebcbb6d3183fcff7e7", func := "mothball/mothballlaw05.SuperTurned", spec := "superTurned", apart := false, narrowed := true }
def SuperTurnedUptoSaid : Prop := superTurnedUptoRow.holds Try.pinned (OpenSpec.upto superTurnedSpec)

/-- 'mothballlaw20.AreaRooms', WHERE WHAT IT READS IS OF BULK AT MOST 1048576: true; the input reads as it did. -/
def areaRoomsUptoRow : OpenClaim := { program := "ytmnlfpkciecbpaa", sum := "7990d8d6269f27395621529b3c9b2db5183e9f1b429281ebcbb6d3183fcff7e7", func := "mothball/mothballlaw20.AreaRooms", spec := "areaRooms", unfollowed := true, recurses := true, apart := false, narrowed := true }
def AreaRoomsUptoSaid : Prop := areaRoomsUptoRow.holds Try.pinned (OpenSpec.upto areaRoomsSpec)

/-- 'mothballlaw05.SuperGets', WHERE WHAT IT READS IS OF BULK AT MOST 1048576: true; the input reads as it did. -/
def superGetsUptoRow : OpenClaim := { program := "ytmnlfpkciecbpaa", sum := "7990d8d6269f27395621529b3c9b2db5183e9f1b429281ebcbb6d3183fcff7e7", func := "mothball/mothballlaw05.SuperGets", spec := "superGets", apart := false, narrowed := true }
def SuperGetsUptoSaid : Prop := superGetsUptoRow.holds Try.pinned (OpenSpec.upto superGetsSpec)

/-- 'mothballlaw05.SuperTorn', WHERE WHAT IT READS IS OF BULK AT MOST 1048576: true; the input reads as it did. -/
def superTornUptoRow : OpenClaim := { program := "ytmnlfpkciecbpaa", sum := "7990d8d6269f27395621529b3c9b2db5183e9f1b429281ebcbb6d3183fcff7e7", func := "mothball/mothballlaw05.SuperTorn", spec := "superTorn", apart := false, narrowed := true }
def SuperTornUptoSaid : Prop := superTornUptoRow.holds Try.pinned (OpenSpec.upto superTornSpec)

/-- 'mothballlaw06.RecordCuts', WHERE WHAT IT READS IS OF BULK AT MOST 1048576: true; the input reads as it did. -/
def recordCutsUptoRow : OpenClaim := { program := "ytmnlfpkciecbpaa", sum := "7990d8d6269f27395621529b3c9b2db5183e9f1b429281ebcbb6d3183fcff7e7", func := "mothball/mothballlaw06.RecordCuts", spec := "recordCuts", unfollowed := true, recurses := true, apart := false, narrowed := true }
def RecordCutsUptoSaid : Prop := recordCutsUptoRow.holds Try.pinned (OpenSpec.upto recordCutsSpec)

/-- 'mothballlaw06.RecordJoins', WHERE WHAT IT READS IS OF BULK AT MOST 1048576: true; the input reads as it did. -/
def recordJoinsUptoRow : OpenClaim := { program := "ytmnlfpkciecbpaa", sum := "7990d8d6269f27395621529b3c9b2db5183e9f1b429281ebcbb6d3183fcff7e7", func := "mothball/mothballlaw06.RecordJoins", spec := "recordJoins", unfollowed := true, recurses := true, apart := false, narrowed := true }
def RecordJoinsUptoSaid : Prop := recordJoinsUptoRow.holds Try.pinned (OpenSpec.upto recordJoinsSpec)

/-- 'mothballlaw06.RecordTurned', WHERE WHAT IT READS IS OF BULK AT MOST 1048576: true; the input reads as it did. -/
def recordTurnedUptoRow : OpenClaim := { program := "ytmnlfpkciecbpaa", sum := "7990d8d6269f27395621529b3c9b2db5183e9f1b429281ebcbb6d3183fcff7e7", func := "mothball/mothballlaw06.RecordTurned", spec := "recordTurned", unfollowed := true, recurses := true, apart := false, narrowed := true }
def RecordTurnedUptoSaid : Prop := recordTurnedUptoRow.holds Try.pinned (OpenSpec.upto recordTurnedSpec)

/-- 'mothballlaw20.AreaTurns', WHERE WHAT IT READS IS OF BULK AT MOST 1048576: true; the input reads as it did. -/
def areaTurnsUptoRow : OpenClaim := { program := "ytmnlfpkciecbpaa", sum := "7990d8d6269f27395621529b3c9b2db5183e9f1b429281ebcbb6d3183fcff7e7", func := "mothball/mothballlaw20.AreaTurns", spec := "areaTurns", unfollowed := true, recurses := true, apart := false, narrowed := true }
def AreaTurnsUptoSaid : Prop := areaTurnsUptoRow.holds Try.pinned (OpenSpec.upto areaTurnsSpec)

/-- 'mothballlaw20.AreaTorn', WHERE WHAT IT READS IS OF BULK AT MOST 1048576: true; the input reads as it did. -/
def areaTornUptoRow : OpenClaim := { program := "ytmnlfpkciecbpaa", sum := "7990d8d6269f27395621529b3c9b2db5183e9f1b429281ebcbb6d3183fcff7e7", func := "mothball/mothballlaw20.AreaTorn", spec := "areaTorn", unfollowed := true, recurses := true, apart := false, narrowed := true }
def AreaTornUptoSaid : Prop := areaTornUptoRow.holds Try.pinned (OpenSpec.upto areaTornSpec)

/-- 'mothballlaw07.JournalFits', WHERE WHAT IT READS IS OF BULK AT MOST 1048576: true; the input reads as it did. -/
def journalFitsUptoRow : OpenClaim := { program := "ytmnlfpkciecbpaa", sum := "7990d8d6269f27395621529b3c9b2db5183e9f1b429281ebcbb6d3183fcff7e7", func := "mothball/mothballlaw07.JournalFits", spec := "journalFits", unfollowed := true, recurses := true, apart := false, narrowed := true }
def JournalFitsUptoSaid : Prop := journalFitsUptoRow.holds Try.pinned (OpenSpec.upto journalFitsSpec)

/-- 'mothballlaw07.JournalElder', WHERE WHAT IT READS IS OF BULK AT MOST 1048576: true; the input reads as it did. -/
def journalElderUptoRow : OpenClaim := { program := "ytmnlfpkciecbpaa", sum := "7990d8d6269f27395621529b3c9b2db5183e9f1b429281ebcbb6d3183fcff7e7", func := "mothball/mothballlaw07.JournalElder", spec := "journalElder", unfollowed := true, recurses := true, apart := false, narrowed := true }
def JournalElderUptoSaid : Prop := journalElderUptoRow.holds Try.pinned (OpenSpec.upto journalElderSpec)

/-- 'mothballlaw07.JournalRound', WHERE WHAT IT READS IS OF BULK AT MOST 1048576: true; the input reads as it did. -/
def journalRoundUptoRow : OpenClaim := { program := "ytmnlfpkciecbpaa", sum := "7990d8d6269f27395621529b3c9b2db5183e9f1b429281ebcbb6d3183fcff7e7", func := "mothball/mothballlaw07.JournalRound", spec := "journalRound", unfollowed := true, recurses := true, apart := false, narrowed := true }
def JournalRoundUptoSaid : Prop := journalRoundUptoRow.holds Try.pinned (OpenSpec.upto journalRoundSpec)

/-- 'mothballlaw07.JournalCrashes', WHERE WHAT IT READS IS OF BULK AT MOST 1048576: true; the input reads as it did. -/
def journalCrashesUptoRow : OpenClaim := { program := "ytmnlfpkciecbpaa", sum := "7990d8d6269f27395621529b3c9b2db5183e9f1b429281ebcbb6d3183fcff7e7", func := "mothball/mothballlaw07.JournalCrashes", spec := "journalCrashes", unfollowed := true, recurses := true, apart := false, narrowed := true }
def JournalCrashesUptoSaid : Prop := journalCrashesUptoRow.holds Try.pinned (OpenSpec.upto journalCrashesSpec)

end Rows
end Go.Proofs.Ytmnlfpkciecbpaa
